/- Part 3 of the proof. -/
import Derived.Test.YtijnbalgnhigbaaGreatDoorQe2
import Derived.Laws.EntriesVeiled
set_option linter.unusedVariables false
set_option linter.unusedSimpArgs false
set_option maxRecDepth 100000
set_option maxHeartbeats 4000000
namespace Go.Proofs.YtijnbalgnhigbaaGreatDoor
open Go.RowKit
def z4 : List Int:=List.replicate 4 0
def ed0 : Ed:=⟨z4,z4,0,false,false⟩
theorem D7 : ed0.ln:=⟨rfl,rfl⟩
def edK (E:Ed)(k:Nat):Ed:=⟨mixI E.ab z4 k,mixI E.lf z4 k,128,E.up,E.le⟩
theorem AT {E:Ed}(h:E.ln)(k:Nat):(edK E k).ln:=⟨AE _ _ _ 4 h.ab rfl,AE _ _ _ 4 h.lf rfl⟩
theorem CV (E:Ed):edK E 0=⟨z4,z4,128,E.up,E.le⟩:=by unfold edK;rw[AO,AO]
theorem CU {E:Ed}(h:E.ln):edK E 4 = { E with co:=128 } := by unfold edK;rw[AY _ _ 4 h.ab rfl,AY _ _ 4 h.lf rfl]
def edS (E:Ed)(k:Nat)(u v:Int):Ed:=⟨(mixI E.ab z4 k).set k u,(mixI E.lf z4 k).set k v,128,E.up,E.le⟩
theorem A6 {E:Ed}(h:E.ln)(k:Nat)(u v:Int):(edS E k u v).ln:=⟨by show(List.set _ _ _).length=4;rw[List.length_set];exact AE _ _ _ 4 h.ab rfl,by show(List.set _ _ _).length=4;rw[List.length_set];exact AE _ _ _ 4 h.lf rfl⟩
theorem QN (E:Ed)(k:Nat)(u v u':Int): { edS E k u v with ab:=(edS E k u v).ab.set k u' } = edS E k u' v:=by unfold edS;simp
theorem QM (E:Ed)(k:Nat)(u v v':Int): { edS E k u v with lf:=(edS E k u v).lf.set k v' } = edS E k u v':=by unfold edS;simp
theorem CW {E:Ed}(h:E.ln){k:Nat}(hk:k<4){u v:Int}(hu:nth E.ab k=u)(hv:nth E.lf k=v):edS E k u v=edK E (k+1):=by
 subst hu hv;unfold edS edK;rw[Bl _ _ _ 4 h.ab rfl hk,Bl _ _ _ 4 h.lf rfl hk]
theorem EB.first {w:World}{b:Nat}{E:Ed}{k:Nat}(h:EB w b (edK E k))(l:E.ln)(hk:k<4)(u:Int):EB (w.setCell ⟨b,k,none⟩ (.int .i64 u)) b ⟨(mixI E.ab z4 k).set k u,mixI E.lf z4 k,128,E.up,E.le⟩:=h.set_ab (AT l k) hk u
theorem EB.second {w:World}{b:Nat}{E:Ed}{k:Nat}{u:Int}(h:EB w b ⟨(mixI E.ab z4 k).set k u,mixI E.lf z4 k,128,E.up,E.le⟩)(l:E.ln)(hk:k<4)(v:Int):EB (w.setCell ⟨b,4+k,none⟩ (.int .i64 v)) b (edS E k u v) :=
 h.set_lf ⟨by show(List.set _ _ _).length=4;rw[List.length_set];exact AE _ _ _ 4 l.ab rfl,AE _ _ _ 4 l.lf rfl⟩ hk v
theorem EB.s_up {w:World}{b:Nat}{E:Ed}{k:Nat}{u v:Int}(h:EB w b (edS E k u v))(l:E.ln)(hk:k<4)(u':Int):EB (w.setCell ⟨b,k,none⟩ (.int .i64 u')) b (edS E k u' v):=by
 have h2:=h.set_ab (A6 l k u v) hk u';rw[QN]at h2;exact h2
theorem EB.s_lf {w:World}{b:Nat}{E:Ed}{k:Nat}{u v:Int}(h:EB w b (edS E k u v))(l:E.ln)(hk:k<4)(v':Int):EB (w.setCell ⟨b,4+k,none⟩ (.int .i64 v')) b (edS E k u v'):=by
 have h2:=h.set_lf (A6 l k u v) hk v';rw[QM]at h2;exact h2
theorem sC (w:World)(b i:Nat)(v:Value){W:World}(hb:W.heap.size≤b)(E:Ext W w):Ext W (w.setCell ⟨b,i,none⟩ v):=Ext.grown E (Ax _ _ _ _) (fun q hq=>by cases hq;omega)
theorem Fv (p:Pic)(x y top:Int):(edg p x y top).ln:=⟨by simp[edg],by simp[edg]⟩
theorem O4 (p:Pic)(x y top:Int)(a:Option Addr)(c n:Nat)(w:World)(hv:p.valid)(hn:n=p.px.length)(r:Sl w a n (p.px.map (Value.int .i64)))(x1:0≤x)(x2:x≤1000)(y1:0≤y)(y2:y≤1000)(hu:top<y)(hl:0<x):
 Calls Tryz.prog 44 #[.agg #[.int .i64 p.w,.int .i64 p.h,.slice a n c],.int .i64 x,.int .i64 y,.int .i64 top] w fun e w'=>e= .returned (.agg (edC (edg p x y top)))∧Ext w w':=by
 have d1:decide (top<y)=true:=by simpa using hu
 have d2:decide (0<x)=true:=by simpa using hl
 have L:=Aa (Fv p x y top);have fu:(edg p x y top).up=true:=d1;have fl:(edg p x y top).le=true:=d2;have ra:=Aa (fun(k:Nat) (hk:k<4)=>show nth (edg p x y top).ab k=pat p (x+(k:Int)) (y-1) by rw[Ex _ _ _ _ hk,if_pos hu]);have rl:=Aa (fun(k:Nat) (hk:k<4)=>show nth (edg p x y top).lf k=pat p (x-1) (y+(k:Int)) by rw[Ey _ _ _ _ hk,if_pos hl]);have rc:=Aa (show(edg p x y top).co=pat p (x-1) (y-1) by unfold edg;simp only;rw[if_pos ⟨hu,hl⟩]);have HN:=Aa hn;have HV:=Aa hv;obtain⟨E,hE⟩:∃ E,E=edg p x y top:=⟨_,rfl⟩;rw[←hE]at L fu fl ra rl rc⊢;have HE:=Aa hE;clear hn hv hE;have a2:=Ext.alloc (w.alloc (.cells #[.int .i64 p.w,.int .i64 p.h,.slice a n c] 30)) (.cells (edC ed0) 67);have a3:=Ext.alloc ((w.alloc (.cells #[.int .i64 p.w,.int .i64 p.h,.slice a n c] 30)).alloc (.cells (edC ed0) 67)) (.cells (edC ⟨z4,z4,128,true,true⟩) 67);have b0:=a3.blk (a2.blk (Aj w (.cells #[.int .i64 p.w,.int .i64 p.h,.slice a n c] 30)));have b1:=(EB.new (w.alloc (.cells #[.int .i64 p.w,.int .i64 p.h,.slice a n c] 30)) ed0).ext a3;have b2:=EB.new ((w.alloc (.cells #[.int .i64 p.w,.int .i64 p.h,.slice a n c] 30)).alloc (.cells (edC ed0) 67)) ⟨z4,z4,128,true,true⟩;have E1:=((Ext.alloc w (.cells #[.int .i64 p.w,.int .i64 p.h,.slice a n c] 30)).trans a2).trans a3;simp only[World.size_alloc]at b1 b2;have eK:=Aa (CV E);rw[fu,fl]at eK;have FU:=Aa fu;have FL:=Aa fl;clear a2 a3 fu fl;go_enter Tryz.func44,Tryz.ntmps44
 go_wp2_with fail
 try simp only[World.size_alloc]
 obtain⟨B,hB⟩:∃ B,B=w.heap.size:=⟨_,rfl⟩;rw[←hB]at b0 b1 b2⊢;have hwB:w.heap.size≤B:=by omega
 have HB:=Aa hB;clear hB;go_loopw [17] (fun i wr=>∃ k:Nat,k≤4∧i= .int .i64 k∧Ext w wr∧Hid (wr.heap[B]?=some (.cells #[.int .i64 p.w,.int .i64 p.h,.slice a n c] 30 (0,0)))∧EB wr (B+1) ed0∧EB wr (B+1+1) (edK E k)) (fun i _=>4-(intOf i).toNat)
 case atStart=>exact⟨0,by omega,rfl,E1,Aa b0,b1,by rw[eK.out];exact b2⟩
 case round =>
  obtain⟨k,hk,rfl,E4,X4,r1,r2⟩:=hrel;clear b0 b1 b2 E1
  by_cases hlt:k<4
  ·have hd:decide ((k:Int)<4)=true:=by simp;omega
   have c0:=r2.ab (AT L.out k) hlt;have c1:=r2.lf (AT L.out k) hlt;have f0:=r2.frozen k;have f1:=r2.frozen (4+k);go_upto_region 6 with fail
   have s2:=(r2.first L.out hlt 128).second L.out hlt 128;have E5:=sC _ _ (4+k) (.int .i64 128) (by omega:w.heap.size≤B+1+1) (sC _ _ k (.int .i64 128) (by omega:w.heap.size≤B+1+1) E4);have X5:=Ai (c:=B+1+1) (i:=4+k) (v := .int .i64 128) (Ai (c:=B+1+1) (i:=k) (v := .int .i64 128) X4.out (by omega)) (by omega);have t1:=(r1.set_other (c:=B+1+1) (i:=k) (v := .int .i64 128) (by omega)).set_other (c:=B+1+1) (i:=4+k) (v := .int .i64 128) (by omega);clear r2 E4 X4 r1 c0 f0 c1 f1;generalize (wr.setCell ⟨B+1+1,k,none⟩ (.int .i64 128)).setCell ⟨B+1+1,4+k,none⟩ (.int .i64 128)=w5 at *;have cu:=s2.up (A6 L.out k _ _);have cl:=s2.le (A6 L.out k _ _);rw[show(edS E k 128 128).up=true from FU.out]at cu;rw[show(edS E k 128 128).le=true from FL.out]at cl;obtain⟨-,k0,k1,k2,-⟩:=bx3 X5;go_wp2_with fail
   refine(BS p (x+(k:Int)) (y-1) a c n _ HV.out HN.out (r.ext E5)).mono ?_
   rintro e w6 ⟨rfl,e6⟩
   obtain⟨va,hva⟩:∃ va,va=pat p (x+(k:Int)) (y-1):=⟨_,rfl⟩;rw[←hva];have Hva:=Aa hva;have s3:=s2.ext e6;have E6:=E5.trans e6;have X6:=e6.blk X5;have t2:=t1.ext e6;clear hva s2 E5 X5 t1 e6 cu cl k0 k1 k2;have c0:=s3.ab (A6 L.out k _ _) hlt;have f0:=s3.frozen k;go_upto_region 8 with fail
   have s2:=s3.s_up L.out hlt va;have E5:=sC _ _ k (.int .i64 va) (by omega:w.heap.size≤B+1+1) E6;have X5:=Ai (c:=B+1+1) (i:=k) (v := .int .i64 va) X6 (by omega);have t1:=t2.set_other (c:=B+1+1) (i:=k) (v := .int .i64 va) (by omega);clear s3 E6 X6 t2 c0 f0;generalize w6.setCell ⟨B+1+1,k,none⟩ (.int .i64 va)=w7 at *;have cl:=s2.le (A6 L.out k _ _);rw[show(edS E k va 128).le=true from FL.out]at cl;obtain⟨-,k0,k1,k2,-⟩:=bx3 X5;go_wp2_with fail
   refine(BS p (x-1) (y+(k:Int)) a c n _ HV.out HN.out (r.ext E5)).mono ?_
   rintro e w8 ⟨rfl,e6⟩
   obtain⟨vl,hvl⟩:∃ vl,vl=pat p (x-1) (y+(k:Int)):=⟨_,rfl⟩;rw[←hvl];have Hvl:=Aa hvl;have s3:=s2.ext e6;have E6:=E5.trans e6;have X6:=e6.blk X5;have t2:=t1.ext e6;clear hvl s2 E5 X5 t1 e6 cl k0 k1 k2;have c0:=s3.lf (A6 L.out k _ _) hlt;have f0:=s3.frozen (4+k);go_upto_region 10 with fail
   have s2:=s3.s_lf L.out hlt vl;have E5:=sC _ _ (4+k) (.int .i64 vl) (by omega:w.heap.size≤B+1+1) E6;have X5:=Ai (c:=B+1+1) (i:=4+k) (v := .int .i64 vl) X6 (by omega);have t1:=t2.set_other (c:=B+1+1) (i:=4+k) (v := .int .i64 vl) (by omega);clear s3 E6 X6 t2 c0 f0;generalize w8.setCell ⟨B+1+1,4+k,none⟩ (.int .i64 vl)=w9 at *;have hnx:=CW L.out hlt (u:=va) (v:=vl) (by rw[ra.out k hlt];exact Hva.out.symm) (by rw[rl.out k hlt];exact Hvl.out.symm);rw[hnx]at s2;clear hnx;go_wp2;go_roundw
   case rel=>exact⟨k+1,by omega,by go_num,E5,Aa X5,t1,s2⟩
   case measure=>simp[intOf];omega
  ·obtain rfl:k=4:=by omega
   have cu:=r2.up (AT L.out 4);have cl:=r2.le (AT L.out 4);rw[show(edK E 4).up=true from FU.out]at cu;rw[show(edK E 4).le=true from FL.out]at cl;obtain⟨-,k0,k1,k2,-⟩:=bx3 X4.out;go_wp2_with fail
   refine(BS p (x-1) (y-1) a c n _ HV.out HN.out (r.ext E4)).mono ?_
   rintro e w6 ⟨rfl,e6⟩
   obtain⟨vc,hvc⟩:∃ vc,vc=pat p (x-1) (y-1):=⟨_,rfl⟩;rw[←hvc];have Hvc:=Aa hvc;have s2:=r2.ext e6;have E5:=E4.trans e6;have t1:=r1.ext e6;clear hvc r2 E4 X4 r1 e6 cu cl k0 k1 k2;have c0:=s2.co (AT L.out 4);have f0:=s2.frozen 8;go_upto_region 13 with fail
   have s3:=s2.set_co (AT L.out 4) vc;have E6:=sC _ _ 8 (.int .i64 vc) (by omega:w.heap.size≤B+1+1) E5;have t2:=t1.set_other (c:=B+1+1) (i:=8) (v := .int .i64 vc) (by omega);clear s2 E5 t1 c0 f0;generalize w6.setCell ⟨B+1+1,8,none⟩ (.int .i64 vc)=w7 at *;rw[CU L.out]at s3;have hfin:({ ({ E with co:=128 } : Ed)with co:=vc } : Ed)=E:=by rw[Hvc.out,←rc.out]
   rw[hfin]at s3;clear hfin;go_wp2_with (first|(refine AA 67 _ rfl rfl s3 rfl _ Rq rfl 11 Aq (As L.out) ?_)|(refine A7 67 _ _ rfl rfl t2 rfl _ rfl (CJ E) 11 Aq (As L.out) (As D7) ?_;intro w8 p8 g8;refine Hid.out ?_))
   have E8:Ext w w8:=Ext.grown E6 g8 (fun q hq=>by cases hq;omega);refine Aa ?_;go_wp2;exact bodyPost_ret (v := .agg (edC E)) (results_cell_row rfl _ _ (B+1) 67 (edC E) (0,0) _ rfl p8 Rq rfl (by rw[As L.out];exact Aq)) rfl ⟨rfl,E8⟩
theorem O5 (p:Pic)(x y top:Int)(a:Option Addr)(c n:Nat)(w:World)(hv:p.valid)(hn:n=p.px.length)(r:Sl w a n (p.px.map (Value.int .i64)))(x1:0≤x)(x2:x≤1000)(y1:0≤y)(y2:y≤1000)(hu:top<y)(hl : ¬ 0<x):
 Calls Tryz.prog 44 #[.agg #[.int .i64 p.w,.int .i64 p.h,.slice a n c],.int .i64 x,.int .i64 y,.int .i64 top] w fun e w'=>e= .returned (.agg (edC (edg p x y top)))∧Ext w w':=by
 have d1:decide (top<y)=true:=by simpa using hu
 have d2:decide (0<x)=false:=by simpa using hl
 have L:=Aa (Fv p x y top);have fu:(edg p x y top).up=true:=d1;have fl:(edg p x y top).le=false:=d2;have ra:=Aa (fun(k:Nat) (hk:k<4)=>show nth (edg p x y top).ab k=pat p (x+(k:Int)) (y-1) by rw[Ex _ _ _ _ hk,if_pos hu]);have rl:=Aa (fun(k:Nat) (hk:k<4)=>show nth (edg p x y top).lf k=128 by rw[Ey _ _ _ _ hk,if_neg hl]);have rc:=Aa (show(edg p x y top).co=128 by unfold edg;simp only;rw[if_neg (fun h=>hl h.2)]);have HN:=Aa hn;have HV:=Aa hv;obtain⟨E,hE⟩:∃ E,E=edg p x y top:=⟨_,rfl⟩;rw[←hE]at L fu fl ra rl rc⊢;have HE:=Aa hE;clear hn hv hE;have a2:=Ext.alloc (w.alloc (.cells #[.int .i64 p.w,.int .i64 p.h,.slice a n c] 30)) (.cells (edC ed0) 67);have a3:=Ext.alloc ((w.alloc (.cells #[.int .i64 p.w,.int .i64 p.h,.slice a n c] 30)).alloc (.cells (edC ed0) 67)) (.cells (edC ⟨z4,z4,128,true,false⟩) 67);have b0:=a3.blk (a2.blk (Aj w (.cells #[.int .i64 p.w,.int .i64 p.h,.slice a n c] 30)));have b1:=(EB.new (w.alloc (.cells #[.int .i64 p.w,.int .i64 p.h,.slice a n c] 30)) ed0).ext a3;have b2:=EB.new ((w.alloc (.cells #[.int .i64 p.w,.int .i64 p.h,.slice a n c] 30)).alloc (.cells (edC ed0) 67)) ⟨z4,z4,128,true,false⟩;have E1:=((Ext.alloc w (.cells #[.int .i64 p.w,.int .i64 p.h,.slice a n c] 30)).trans a2).trans a3;simp only[World.size_alloc]at b1 b2;have eK:=Aa (CV E);rw[fu,fl]at eK;have FU:=Aa fu;have FL:=Aa fl;clear a2 a3 fu fl;go_enter Tryz.func44,Tryz.ntmps44
 go_wp2_with fail
 try simp only[World.size_alloc]
 obtain⟨B,hB⟩:∃ B,B=w.heap.size:=⟨_,rfl⟩;rw[←hB]at b0 b1 b2⊢;have hwB:w.heap.size≤B:=by omega
 have HB:=Aa hB;clear hB;go_loopw [17] (fun i wr=>∃ k:Nat,k≤4∧i= .int .i64 k∧Ext w wr∧Hid (wr.heap[B]?=some (.cells #[.int .i64 p.w,.int .i64 p.h,.slice a n c] 30 (0,0)))∧EB wr (B+1) ed0∧EB wr (B+1+1) (edK E k)) (fun i _=>4-(intOf i).toNat)
 case atStart=>exact⟨0,by omega,rfl,E1,Aa b0,b1,by rw[eK.out];exact b2⟩
 case round =>
  obtain⟨k,hk,rfl,E4,X4,r1,r2⟩:=hrel;clear b0 b1 b2 E1
  by_cases hlt:k<4
  ·have hd:decide ((k:Int)<4)=true:=by simp;omega
   have c0:=r2.ab (AT L.out k) hlt;have c1:=r2.lf (AT L.out k) hlt;have f0:=r2.frozen k;have f1:=r2.frozen (4+k);go_upto_region 6 with fail
   have s2:=(r2.first L.out hlt 128).second L.out hlt 128;have E5:=sC _ _ (4+k) (.int .i64 128) (by omega:w.heap.size≤B+1+1) (sC _ _ k (.int .i64 128) (by omega:w.heap.size≤B+1+1) E4);have X5:=Ai (c:=B+1+1) (i:=4+k) (v := .int .i64 128) (Ai (c:=B+1+1) (i:=k) (v := .int .i64 128) X4.out (by omega)) (by omega);have t1:=(r1.set_other (c:=B+1+1) (i:=k) (v := .int .i64 128) (by omega)).set_other (c:=B+1+1) (i:=4+k) (v := .int .i64 128) (by omega);clear r2 E4 X4 r1 c0 f0 c1 f1;generalize (wr.setCell ⟨B+1+1,k,none⟩ (.int .i64 128)).setCell ⟨B+1+1,4+k,none⟩ (.int .i64 128)=w5 at *;have cu:=s2.up (A6 L.out k _ _);have cl:=s2.le (A6 L.out k _ _);rw[show(edS E k 128 128).up=true from FU.out]at cu;rw[show(edS E k 128 128).le=false from FL.out]at cl;obtain⟨-,k0,k1,k2,-⟩:=bx3 X5;go_wp2_with fail
   refine(BS p (x+(k:Int)) (y-1) a c n _ HV.out HN.out (r.ext E5)).mono ?_
   rintro e w6 ⟨rfl,e6⟩
   obtain⟨va,hva⟩:∃ va,va=pat p (x+(k:Int)) (y-1):=⟨_,rfl⟩;rw[←hva];have Hva:=Aa hva;have s3:=s2.ext e6;have E6:=E5.trans e6;have X6:=e6.blk X5;have t2:=t1.ext e6;clear hva s2 E5 X5 t1 e6 cu cl k0 k1 k2;have c0:=s3.ab (A6 L.out k _ _) hlt;have f0:=s3.frozen k;go_upto_region 8 with fail
   have s2:=s3.s_up L.out hlt va;have E5:=sC _ _ k (.int .i64 va) (by omega:w.heap.size≤B+1+1) E6;have X5:=Ai (c:=B+1+1) (i:=k) (v := .int .i64 va) X6 (by omega);have t1:=t2.set_other (c:=B+1+1) (i:=k) (v := .int .i64 va) (by omega);clear s3 E6 X6 t2 c0 f0;generalize w6.setCell ⟨B+1+1,k,none⟩ (.int .i64 va)=w7 at *;have cl:=s2.le (A6 L.out k _ _);rw[show(edS E k va 128).le=false from FL.out]at cl;obtain⟨-,k0,k1,k2,-⟩:=bx3 X5;have hnx:=CW L.out hlt (u:=va) (v:=128) (by rw[ra.out k hlt];exact Hva.out.symm) (by rw[rl.out k hlt]);rw[hnx]at s2;clear hnx;go_wp2;go_roundw
   case rel=>exact⟨k+1,by omega,by go_num,E5,Aa X5,t1,s2⟩
   case measure=>simp[intOf];omega
  ·obtain rfl:k=4:=by omega
   have cu:=r2.up (AT L.out 4);have cl:=r2.le (AT L.out 4);rw[show(edK E 4).up=true from FU.out]at cu;rw[show(edK E 4).le=false from FL.out]at cl;obtain⟨-,k0,k1,k2,-⟩:=bx3 X4.out;go_upto_region 13 with fail
   rw[CU L.out]at r2;have hfin:({ E with co:=128 } : Ed)=E:=by rw[←rc.out]
   rw[hfin]at r2;clear hfin;go_wp2_with (first|(refine AA 67 _ rfl rfl r2 rfl _ Rq rfl 11 Aq (As L.out) ?_)|(refine A7 67 _ _ rfl rfl r1 rfl _ rfl (CJ E) 11 Aq (As L.out) (As D7) ?_;intro w8 p8 g8;refine Hid.out ?_))
   have E8:Ext w w8:=Ext.grown E4 g8 (fun q hq=>by cases hq;omega);refine Aa ?_;go_wp2;exact bodyPost_ret (v := .agg (edC E)) (results_cell_row rfl _ _ (B+1) 67 (edC E) (0,0) _ rfl p8 Rq rfl (by rw[As L.out];exact Aq)) rfl ⟨rfl,E8⟩
theorem O1 (p:Pic)(x y top:Int)(a:Option Addr)(c n:Nat)(w:World)(hv:p.valid)(hn:n=p.px.length)(r:Sl w a n (p.px.map (Value.int .i64)))(x1:0≤x)(x2:x≤1000)(y1:0≤y)(y2:y≤1000)(hu : ¬ top<y)(hl:0<x):
 Calls Tryz.prog 44 #[.agg #[.int .i64 p.w,.int .i64 p.h,.slice a n c],.int .i64 x,.int .i64 y,.int .i64 top] w fun e w'=>e= .returned (.agg (edC (edg p x y top)))∧Ext w w':=by
 have d1:decide (top<y)=false:=by simpa using hu
 have d2:decide (0<x)=true:=by simpa using hl
 have L:=Aa (Fv p x y top);have fu:(edg p x y top).up=false:=d1;have fl:(edg p x y top).le=true:=d2;have ra:=Aa (fun(k:Nat) (hk:k<4)=>show nth (edg p x y top).ab k=128 by rw[Ex _ _ _ _ hk,if_neg hu]);have rl:=Aa (fun(k:Nat) (hk:k<4)=>show nth (edg p x y top).lf k=pat p (x-1) (y+(k:Int)) by rw[Ey _ _ _ _ hk,if_pos hl]);have rc:=Aa (show(edg p x y top).co=128 by unfold edg;simp only;rw[if_neg (fun h=>hu h.1)]);have HN:=Aa hn;have HV:=Aa hv;obtain⟨E,hE⟩:∃ E,E=edg p x y top:=⟨_,rfl⟩;rw[←hE]at L fu fl ra rl rc⊢;have HE:=Aa hE;clear hn hv hE;have a2:=Ext.alloc (w.alloc (.cells #[.int .i64 p.w,.int .i64 p.h,.slice a n c] 30)) (.cells (edC ed0) 67);have a3:=Ext.alloc ((w.alloc (.cells #[.int .i64 p.w,.int .i64 p.h,.slice a n c] 30)).alloc (.cells (edC ed0) 67)) (.cells (edC ⟨z4,z4,128,false,true⟩) 67);have b0:=a3.blk (a2.blk (Aj w (.cells #[.int .i64 p.w,.int .i64 p.h,.slice a n c] 30)));have b1:=(EB.new (w.alloc (.cells #[.int .i64 p.w,.int .i64 p.h,.slice a n c] 30)) ed0).ext a3;have b2:=EB.new ((w.alloc (.cells #[.int .i64 p.w,.int .i64 p.h,.slice a n c] 30)).alloc (.cells (edC ed0) 67)) ⟨z4,z4,128,false,true⟩;have E1:=((Ext.alloc w (.cells #[.int .i64 p.w,.int .i64 p.h,.slice a n c] 30)).trans a2).trans a3;simp only[World.size_alloc]at b1 b2;have eK:=Aa (CV E);rw[fu,fl]at eK;have FU:=Aa fu;have FL:=Aa fl;clear a2 a3 fu fl;go_enter Tryz.func44,Tryz.ntmps44
 go_wp2_with fail
 try simp only[World.size_alloc]
 obtain⟨B,hB⟩:∃ B,B=w.heap.size:=⟨_,rfl⟩;rw[←hB]at b0 b1 b2⊢;have hwB:w.heap.size≤B:=by omega
 have HB:=Aa hB;clear hB;go_loopw [17] (fun i wr=>∃ k:Nat,k≤4∧i= .int .i64 k∧Ext w wr∧Hid (wr.heap[B]?=some (.cells #[.int .i64 p.w,.int .i64 p.h,.slice a n c] 30 (0,0)))∧EB wr (B+1) ed0∧EB wr (B+1+1) (edK E k)) (fun i _=>4-(intOf i).toNat)
 case atStart=>exact⟨0,by omega,rfl,E1,Aa b0,b1,by rw[eK.out];exact b2⟩
 case round =>
  obtain⟨k,hk,rfl,E4,X4,r1,r2⟩:=hrel;clear b0 b1 b2 E1
  by_cases hlt:k<4
  ·have hd:decide ((k:Int)<4)=true:=by simp;omega
   have c0:=r2.ab (AT L.out k) hlt;have c1:=r2.lf (AT L.out k) hlt;have f0:=r2.frozen k;have f1:=r2.frozen (4+k);go_upto_region 6 with fail
   have s2:=(r2.first L.out hlt 128).second L.out hlt 128;have E5:=sC _ _ (4+k) (.int .i64 128) (by omega:w.heap.size≤B+1+1) (sC _ _ k (.int .i64 128) (by omega:w.heap.size≤B+1+1) E4);have X5:=Ai (c:=B+1+1) (i:=4+k) (v := .int .i64 128) (Ai (c:=B+1+1) (i:=k) (v := .int .i64 128) X4.out (by omega)) (by omega);have t1:=(r1.set_other (c:=B+1+1) (i:=k) (v := .int .i64 128) (by omega)).set_other (c:=B+1+1) (i:=4+k) (v := .int .i64 128) (by omega);clear r2 E4 X4 r1 c0 f0 c1 f1;generalize (wr.setCell ⟨B+1+1,k,none⟩ (.int .i64 128)).setCell ⟨B+1+1,4+k,none⟩ (.int .i64 128)=w5 at *;have cu:=s2.up (A6 L.out k _ _);have cl:=s2.le (A6 L.out k _ _);rw[show(edS E k 128 128).up=false from FU.out]at cu;rw[show(edS E k 128 128).le=true from FL.out]at cl;obtain⟨-,k0,k1,k2,-⟩:=bx3 X5;go_wp2_with fail
   refine(BS p (x-1) (y+(k:Int)) a c n _ HV.out HN.out (r.ext E5)).mono ?_
   rintro e w8 ⟨rfl,e6⟩
   obtain⟨vl,hvl⟩:∃ vl,vl=pat p (x-1) (y+(k:Int)):=⟨_,rfl⟩;rw[←hvl];have Hvl:=Aa hvl;have s3:=s2.ext e6;have E6:=E5.trans e6;have X6:=e6.blk X5;have t2:=t1.ext e6;clear hvl s2 E5 X5 t1 e6 cl k0 k1 k2 cu;have c0:=s3.lf (A6 L.out k _ _) hlt;have f0:=s3.frozen (4+k);go_upto_region 10 with fail
   have s2:=s3.s_lf L.out hlt vl;have E5:=sC _ _ (4+k) (.int .i64 vl) (by omega:w.heap.size≤B+1+1) E6;have X5:=Ai (c:=B+1+1) (i:=4+k) (v := .int .i64 vl) X6 (by omega);have t1:=t2.set_other (c:=B+1+1) (i:=4+k) (v := .int .i64 vl) (by omega);clear s3 E6 X6 t2 c0 f0;generalize w8.setCell ⟨B+1+1,4+k,none⟩ (.int .i64 vl)=w9 at *;have hnx:=CW L.out hlt (u:=128) (v:=vl) (by rw[ra.out k hlt]) (by rw[rl.out k hlt];exact Hvl.out.symm);rw[hnx]at s2;clear hnx;go_wp2;go_roundw
   case rel=>exact⟨k+1,by omega,by go_num,E5,Aa X5,t1,s2⟩
   case measure=>simp[intOf];omega
  ·obtain rfl:k=4:=by omega
   have cu:=r2.up (AT L.out 4);have cl:=r2.le (AT L.out 4);rw[show(edK E 4).up=false from FU.out]at cu;rw[show(edK E 4).le=true from FL.out]at cl;obtain⟨-,k0,k1,k2,-⟩:=bx3 X4.out;go_upto_region 13 with fail
   rw[CU L.out]at r2;have hfin:({ E with co:=128 } : Ed)=E:=by rw[←rc.out]
   rw[hfin]at r2;clear hfin;go_wp2_with (first|(refine AA 67 _ rfl rfl r2 rfl _ Rq rfl 11 Aq (As L.out) ?_)|(refine A7 67 _ _ rfl rfl r1 rfl _ rfl (CJ E) 11 Aq (As L.out) (As D7) ?_;intro w8 p8 g8;refine Hid.out ?_))
   have E8:Ext w w8:=Ext.grown E4 g8 (fun q hq=>by cases hq;omega);refine Aa ?_;go_wp2;exact bodyPost_ret (v := .agg (edC E)) (results_cell_row rfl _ _ (B+1) 67 (edC E) (0,0) _ rfl p8 Rq rfl (by rw[As L.out];exact Aq)) rfl ⟨rfl,E8⟩
theorem O3 (p:Pic)(x y top:Int)(a:Option Addr)(c n:Nat)(w:World)(hv:p.valid)(hn:n=p.px.length)(r:Sl w a n (p.px.map (Value.int .i64)))(x1:0≤x)(x2:x≤1000)(y1:0≤y)(y2:y≤1000)(hu : ¬ top<y)(hl : ¬ 0<x):
 Calls Tryz.prog 44 #[.agg #[.int .i64 p.w,.int .i64 p.h,.slice a n c],.int .i64 x,.int .i64 y,.int .i64 top] w fun e w'=>e= .returned (.agg (edC (edg p x y top)))∧Ext w w':=by
 have d1:decide (top<y)=false:=by simpa using hu
 have d2:decide (0<x)=false:=by simpa using hl
 have L:=Aa (Fv p x y top);have fu:(edg p x y top).up=false:=d1;have fl:(edg p x y top).le=false:=d2;have ra:=Aa (fun(k:Nat) (hk:k<4)=>show nth (edg p x y top).ab k=128 by rw[Ex _ _ _ _ hk,if_neg hu]);have rl:=Aa (fun(k:Nat) (hk:k<4)=>show nth (edg p x y top).lf k=128 by rw[Ey _ _ _ _ hk,if_neg hl]);have rc:=Aa (show(edg p x y top).co=128 by unfold edg;simp only;rw[if_neg (fun h=>hu h.1)]);have HN:=Aa hn;have HV:=Aa hv;obtain⟨E,hE⟩:∃ E,E=edg p x y top:=⟨_,rfl⟩;rw[←hE]at L fu fl ra rl rc⊢;have HE:=Aa hE;clear hn hv hE;have a2:=Ext.alloc (w.alloc (.cells #[.int .i64 p.w,.int .i64 p.h,.slice a n c] 30)) (.cells (edC ed0) 67);have a3:=Ext.alloc ((w.alloc (.cells #[.int .i64 p.w,.int .i64 p.h,.slice a n c] 30)).alloc (.cells (edC ed0) 67)) (.cells (edC ⟨z4,z4,128,false,false⟩) 67);have b0:=a3.blk (a2.blk (Aj w (.cells #[.int .i64 p.w,.int .i64 p.h,.slice a n c] 30)));have b1:=(EB.new (w.alloc (.cells #[.int .i64 p.w,.int .i64 p.h,.slice a n c] 30)) ed0).ext a3;have b2:=EB.new ((w.alloc (.cells #[.int .i64 p.w,.int .i64 p.h,.slice a n c] 30)).alloc (.cells (edC ed0) 67)) ⟨z4,z4,128,false,false⟩;have E1:=((Ext.alloc w (.cells #[.int .i64 p.w,.int .i64 p.h,.slice a n c] 30)).trans a2).trans a3;simp only[World.size_alloc]at b1 b2;have eK:=Aa (CV E);rw[fu,fl]at eK;have FU:=Aa fu;have FL:=Aa fl;clear a2 a3 fu fl;go_enter Tryz.func44,Tryz.ntmps44
 go_wp2_with fail
 try simp only[World.size_alloc]
 obtain⟨B,hB⟩:∃ B,B=w.heap.size:=⟨_,rfl⟩;rw[←hB]at b0 b1 b2⊢;have hwB:w.heap.size≤B:=by omega
 have HB:=Aa hB;clear hB;go_loopw [17] (fun i wr=>∃ k:Nat,k≤4∧i= .int .i64 k∧Ext w wr∧Hid (wr.heap[B]?=some (.cells #[.int .i64 p.w,.int .i64 p.h,.slice a n c] 30 (0,0)))∧EB wr (B+1) ed0∧EB wr (B+1+1) (edK E k)) (fun i _=>4-(intOf i).toNat)
 case atStart=>exact⟨0,by omega,rfl,E1,Aa b0,b1,by rw[eK.out];exact b2⟩
 case round =>
  obtain⟨k,hk,rfl,E4,X4,r1,r2⟩:=hrel;clear b0 b1 b2 E1
  by_cases hlt:k<4
  ·have hd:decide ((k:Int)<4)=true:=by simp;omega
   have c0:=r2.ab (AT L.out k) hlt;have c1:=r2.lf (AT L.out k) hlt;have f0:=r2.frozen k;have f1:=r2.frozen (4+k);go_upto_region 6 with fail
   have s2:=(r2.first L.out hlt 128).second L.out hlt 128;have E5:=sC _ _ (4+k) (.int .i64 128) (by omega:w.heap.size≤B+1+1) (sC _ _ k (.int .i64 128) (by omega:w.heap.size≤B+1+1) E4);have X5:=Ai (c:=B+1+1) (i:=4+k) (v := .int .i64 128) (Ai (c:=B+1+1) (i:=k) (v := .int .i64 128) X4.out (by omega)) (by omega);have t1:=(r1.set_other (c:=B+1+1) (i:=k) (v := .int .i64 128) (by omega)).set_other (c:=B+1+1) (i:=4+k) (v := .int .i64 128) (by omega);clear r2 E4 X4 r1 c0 f0 c1 f1;generalize (wr.setCell ⟨B+1+1,k,none⟩ (.int .i64 128)).setCell ⟨B+1+1,4+k,none⟩ (.int .i64 128)=w5 at *;have cu:=s2.up (A6 L.out k _ _);have cl:=s2.le (A6 L.out k _ _);rw[show(edS E k 128 128).up=false from FU.out]at cu;rw[show(edS E k 128 128).le=false from FL.out]at cl;obtain⟨-,k0,k1,k2,-⟩:=bx3 X5;have hnx:=CW L.out hlt (u:=128) (v:=128) (by rw[ra.out k hlt]) (by rw[rl.out k hlt]);rw[hnx]at s2;clear hnx;go_wp2;go_roundw
   case rel=>exact⟨k+1,by omega,by go_num,E5,Aa X5,t1,s2⟩
   case measure=>simp[intOf];omega
  ·obtain rfl:k=4:=by omega
   have cu:=r2.up (AT L.out 4);have cl:=r2.le (AT L.out 4);rw[show(edK E 4).up=false from FU.out]at cu;rw[show(edK E 4).le=false from FL.out]at cl;obtain⟨-,k0,k1,k2,-⟩:=bx3 X4.out;go_upto_region 13 with fail
   rw[CU L.out]at r2;have hfin:({ E with co:=128 } : Ed)=E:=by rw[←rc.out]
   rw[hfin]at r2;clear hfin;go_wp2_with (first|(refine AA 67 _ rfl rfl r2 rfl _ Rq rfl 11 Aq (As L.out) ?_)|(refine A7 67 _ _ rfl rfl r1 rfl _ rfl (CJ E) 11 Aq (As L.out) (As D7) ?_;intro w8 p8 g8;refine Hid.out ?_))
   have E8:Ext w w8:=Ext.grown E4 g8 (fun q hq=>by cases hq;omega);refine Aa ?_;go_wp2;exact bodyPost_ret (v := .agg (edC E)) (results_cell_row rfl _ _ (B+1) 67 (edC E) (0,0) _ rfl p8 Rq rfl (by rw[As L.out];exact Aq)) rfl ⟨rfl,E8⟩
theorem Kr (p:Pic)(x y top:Int)(a:Option Addr)(c n:Nat)(w:World)(hv:p.valid)(hn:n=p.px.length)(r:Sl w a n (p.px.map (Value.int .i64)))(x1:0≤x)(x2:x≤1000)(y1:0≤y)(y2:y≤1000):
 Calls Tryz.prog 44 #[.agg #[.int .i64 p.w,.int .i64 p.h,.slice a n c],.int .i64 x,.int .i64 y,.int .i64 top] w fun e w'=>e= .returned (.agg (edC (edg p x y top)))∧Ext w w':=by
 by_cases hu:top<y
 ·by_cases hl:0<x
  ·exact O4 p x y top a c n w hv hn r x1 x2 y1 y2 hu hl
  ·exact O5 p x y top a c n w hv hn r x1 x2 y1 y2 hu hl
 ·by_cases hl:0<x
  ·exact O1 p x y top a c n w hv hn r x1 x2 y1 y2 hu hl
  ·exact O3 p x y top a c n w hv hn r x1 x2 y1 y2 hu hl
theorem MZ (p:Pic)(x y W H:Nat)(top:Int)(a:Option Addr)(c n:Nat)(w:World)(hv:p.valid)(hn:n=p.px.length)(r:Sl w a n (p.px.map (Value.int .i64)))(hW:p.w=W)(hH:p.h=H)(x2:x+3<W)(y2:y+3<H)(t0:0≤top)(hu:top<(y:Int))(hl:0<(x:Int)):
 Calls Tryz.prog 70 #[.agg #[.int .i64 p.w,.int .i64 p.h,.slice a n c],.int .i64 (x:Nat),.int .i64 (y:Nat),.int .i64 top] w fun e w'=>e= .returned (.agg (edC (edg p (x:Int) (y:Int) top)))∧Ext w w':=by
 have d1:decide (top<(y:Int))=true:=by simpa using hu
 have d2:decide (0<x)=true:=by simp;omega
 have L:=Aa (Fv p (x:Int) (y:Int) top);have fu:(edg p (x:Int) (y:Int) top).up=true:=d1;have fl:(edg p (x:Int) (y:Int) top).le=true:=(show decide (0<(x:Int))=true by simpa using hl);have ra:=Aa (fun(k:Nat) (hk:k<4)=>show nth (edg p (x:Int) (y:Int) top).ab k=pat p ((x:Int)+(k:Int)) ((y:Int)-1) by rw[Ex _ _ _ _ hk,if_pos hu]);have rl:=Aa (fun(k:Nat) (hk:k<4)=>show nth (edg p (x:Int) (y:Int) top).lf k=pat p ((x:Int)-1) ((y:Int)+(k:Int)) by rw[Ey _ _ _ _ hk,if_pos hl]);have rc:=Aa (show(edg p (x:Int) (y:Int) top).co=pat p ((x:Int)-1) ((y:Int)-1) by unfold edg;simp only;rw[if_pos ⟨hu,hl⟩]);have hlen:=hv.2.2.1;rw[hW,hH,←Int.natCast_mul]at hlen;have hnW:n=W*H:=by rw[hn];exact Int.ofNat.inj hlen
 have hside:=hv.1;rw[hW]at hside;have hside2:=hv.2.1;rw[hH]at hside2;have hW32:W≤32:=by have:=hside.2.1;omega
 have hH32:H≤32:=by have:=hside2.2.1;omega
 have inn:∀ u v:Nat,u<H→v<W→u*W+v<n:=fun u v h1 h2=>by
  have h3:=Nat.mul_le_mul_right W (show u+1≤H by omega);rw[Nat.add_mul,Nat.one_mul,Nat.mul_comm H W,←hnW]at h3;omega
 have Inn:=Aa inn;have hn1k:n≤1024:=by rw[hnW];exact Nat.mul_le_mul hW32 hH32
 have Pin:=Aa (fun(u v:Nat) (h1:u<H) (h2:v<W)=>Lg (p:=p) (x:=v) (y:=u) (by rw[hW];omega) (by rw[hH];omega) hW);have HW:=Aa hW;clear hlen hnW hside hside2 hW hH inn;have HN:=Aa hn;have HV:=Aa hv;obtain⟨E,hE⟩:∃ E,E=edg p (x:Int) (y:Int) top:=⟨_,rfl⟩;rw[←hE]at L fu fl ra rl rc⊢;have HE:=Aa hE;clear hn hv hE;have a2:=Ext.alloc (w.alloc (.cells #[.int .i64 p.w,.int .i64 p.h,.slice a n c] 30)) (.cells (edC ed0) 67);have a3:=Ext.alloc ((w.alloc (.cells #[.int .i64 p.w,.int .i64 p.h,.slice a n c] 30)).alloc (.cells (edC ed0) 67)) (.cells (edC ⟨z4,z4,128,true,true⟩) 67);have b0:=a3.blk (a2.blk (Aj w (.cells #[.int .i64 p.w,.int .i64 p.h,.slice a n c] 30)));have b1:=(EB.new (w.alloc (.cells #[.int .i64 p.w,.int .i64 p.h,.slice a n c] 30)) ed0).ext a3;have b2:=EB.new ((w.alloc (.cells #[.int .i64 p.w,.int .i64 p.h,.slice a n c] 30)).alloc (.cells (edC ed0) 67)) ⟨z4,z4,128,true,true⟩;have E1:=((Ext.alloc w (.cells #[.int .i64 p.w,.int .i64 p.h,.slice a n c] 30)).trans a2).trans a3;simp only[World.size_alloc]at b1 b2;have eK:=Aa (CV E);rw[fu,fl]at eK;have FU:=Aa fu;have FL:=Aa fl;clear a2 a3 fu fl;go_enter Tryz.func70,Tryz.ntmps70
 go_wp2_with fail
 try simp only[World.size_alloc]
 obtain⟨B,hB⟩:∃ B,B=w.heap.size:=⟨_,rfl⟩;rw[←hB]at b0 b1 b2⊢;have hwB:w.heap.size≤B:=by omega
 have HB:=Aa hB;clear hB;go_loopw [10] (fun i wr=>∃ k:Nat,k≤4∧i= .int .i64 k∧Ext w wr∧Hid (wr.heap[B]?=some (.cells #[.int .i64 p.w,.int .i64 p.h,.slice a n c] 30 (0,0)))∧EB wr (B+1) ed0∧EB wr (B+1+1) (edK E k)) (fun i _=>4-(intOf i).toNat)
 case atStart=>exact⟨0,by omega,rfl,E1,Aa b0,b1,by rw[eK.out];exact b2⟩
 case round =>
  obtain⟨k,hk,rfl,E4,X4,r1,r2⟩:=hrel;clear b0 b1 b2 E1
  by_cases hlt:k<4
  ·have hd:decide ((k:Int)<4)=true:=by simp;omega
   have c0:=r2.ab (AT L.out k) hlt;have f0:=r2.frozen k;go_upto_region 6 with fail
   have s1:=r2.first L.out hlt 128
   have E5:=sC _ _ k (.int .i64 128) (by omega:w.heap.size≤B+1+1) E4;have X5:=Ai (c:=B+1+1) (i:=k) (v := .int .i64 128) X4.out (by omega);have t1:=r1.set_other (c:=B+1+1) (i:=k) (v := .int .i64 128) (by omega);clear r2 E4 X4 r1 c0 f0;generalize wr.setCell ⟨B+1+1,k,none⟩ (.int .i64 128)=wq at *;have c1:=s1.lf ⟨by show(List.set _ _ _).length=4;rw[List.length_set];exact AE _ _ _ 4 L.out.ab rfl,AE _ _ _ 4 L.out.lf rfl⟩ hlt;have f1:=s1.frozen (4+k);go_upto_region 7 with fail
   have s2:=s1.second L.out hlt 128;have E5':=sC _ _ (4+k) (.int .i64 128) (by omega:w.heap.size≤B+1+1) E5;have X5':=Ai (c:=B+1+1) (i:=4+k) (v := .int .i64 128) X5 (by omega);have t1':=t1.set_other (c:=B+1+1) (i:=4+k) (v := .int .i64 128) (by omega);clear s1 E5 X5 t1 c1 f1;have E5:=E5';have X5:=X5';have t1:=t1';clear E5' X5' t1';generalize wq.setCell ⟨B+1+1,4+k,none⟩ (.int .i64 128)=w5 at *;have cu:=s2.up (A6 L.out k _ _);have cl:=s2.le (A6 L.out k _ _);rw[show(edS E k 128 128).up=true from FU.out]at cu;rw[show(edS E k 128 128).le=true from FL.out]at cl;obtain⟨-,k0,k1,k2,-⟩:=bx3 X5;have hy1:1≤y:=by omega
   obtain⟨Y1,hY1⟩:∃ Y1:Nat,y=Y1+1:=⟨y-1,by omega⟩;obtain⟨q,hq⟩:∃ q:Nat,q=Y1*W+(x+k):=⟨_,rfl⟩;have hqn:q<n:=by rw[hq];exact Inn.out Y1 (x+k) (by omega) (by omega)
   have hpv:=Pin.out Y1 (x+k) (by omega) (by omega);rw[←hq]at hpv;obtain⟨va,hva⟩:∃ va,va=pat p ((x:Int)+(k:Int)) ((y:Int)-1):=⟨_,rfl⟩;have hcell:∃ b off,a=some ⟨b,off,none⟩∧w5.cell? ⟨b,off+q,none⟩=some (.int .i64 va):=by
    obtain⟨b,off,h1,h2⟩:=(r.ext E5).int hqn;refine⟨b,off,h1,?_⟩;rw[h2,hva,show(x:Int)+(k:Int)=((x+k:Nat):Int) by omega,show(y:Int)-1=(Y1:Int) by omega,hpv]
   have hm1:((y:Int)-1)*(W:Int)=((Y1*W:Nat):Int):=by rw[Int.natCast_mul,show(y:Int)-1=(Y1:Int) by omega]
   have hmq:Y1*W≤q:=by rw[hq];omega
   have hq2:((y:Int)-1)*(W:Int)+(x:Int)+(k:Int)=(q:Int):=by rw[hm1,hq];omega
   have hmb:0≤((y:Int)-1)*(W:Int)∧((y:Int)-1)*(W:Int)≤1024:=by rw[hm1];omega
   have Hva:=Aa hva;have c0:=s2.ab (A6 L.out k _ _) hlt;have f0:=s2.frozen k;obtain⟨b,off,rfl,hcell⟩:=hcell;rw[HW.out]at k0;clear hq hpv hva hm1 hmq hY1;go_upto_region 9 with fail
   have s3:=s2.s_up L.out hlt va;have E6:=sC _ _ k (.int .i64 va) (by omega:w.heap.size≤B+1+1) E5;have X6:=Ai (c:=B+1+1) (i:=k) (v := .int .i64 va) X5 (by omega);have t2:=t1.set_other (c:=B+1+1) (i:=k) (v := .int .i64 va) (by omega);clear s2 E5 X5 t1 c0 f0 cu cl k0 k1 k2 hcell hq2 hmb;have s2:=s3;have E5:=E6;have X5:=X6;have t1:=t2;clear s3 E6 X6 t2;generalize w5.setCell ⟨B+1+1,k,none⟩ (.int .i64 va)=w7 at *;have cl:=s2.le (A6 L.out k _ _);rw[show(edS E k va 128).le=true from FL.out]at cl;obtain⟨-,k0,k1,k2,-⟩:=bx3 X5;obtain⟨X1,hX1⟩:∃ X1:Nat,x=X1+1:=⟨x-1,by omega⟩;obtain⟨q,hq⟩:∃ q:Nat,q=(y+k)*W+X1:=⟨_,rfl⟩;have hqn:q<n:=by rw[hq];exact Inn.out (y+k) X1 (by omega) (by omega)
   have hpv:=Pin.out (y+k) X1 (by omega) (by omega);rw[←hq]at hpv;obtain⟨vl,hvl⟩:∃ vl,vl=pat p ((x:Int)-1) ((y:Int)+(k:Int)):=⟨_,rfl⟩;have hcell:∃ bb oo,(some ⟨b,off,none⟩:Option Addr)=some ⟨bb,oo,none⟩∧w7.cell? ⟨bb,oo+q,none⟩=some (.int .i64 vl):=by
    obtain⟨bb,oo,h1,h2⟩:=(r.ext E5).int hqn;refine⟨bb,oo,h1,?_⟩;rw[h2,hvl,show(x:Int)-1=(X1:Int) by omega,show(y:Int)+(k:Int)=((y+k:Nat):Int) by omega,hpv]
   have hm1:((y:Int)+(k:Int))*(W:Int)=(((y+k)*W:Nat):Int):=by rw[Int.natCast_mul,show(y:Int)+(k:Int)=((y+k:Nat):Int) by omega]
   have hmq:(y+k)*W≤q:=by rw[hq];omega
   have hq2:((y:Int)+(k:Int))*(W:Int)+(x:Int)-1=(q:Int):=by rw[hm1,hq];omega
   have hmb:0≤((y:Int)+(k:Int))*(W:Int)∧((y:Int)+(k:Int))*(W:Int)≤1024:=by rw[hm1];omega
   have Hvl:=Aa hvl;have c0:=s2.lf (A6 L.out k _ _) hlt;have f0:=s2.frozen (4+k);obtain⟨b',off',hadr,hcell⟩:=hcell;simp only[Option.some.injEq,Addr.mk.injEq,and_true]at hadr;obtain⟨rfl,rfl⟩:=hadr;rw[HW.out]at k0;clear hq hpv hvl hm1 hmq hX1;go_wp2;have s3:=s2.s_lf L.out hlt vl;have E6:=sC _ _ (4+k) (.int .i64 vl) (by omega:w.heap.size≤B+1+1) E5;have X6:=Ai (c:=B+1+1) (i:=4+k) (v := .int .i64 vl) X5 (by omega);have t2:=t1.set_other (c:=B+1+1) (i:=4+k) (v := .int .i64 vl) (by omega);clear s2 E5 X5 t1 c0 f0 cl k0 k1 k2 hcell hq2 hmb;have s2:=s3;have E5:=E6;have X5:=X6;have t1:=t2;clear s3 E6 X6 t2;have hnx:=CW L.out hlt (u:=va) (v:=vl) (by rw[ra.out k hlt];exact Hva.out.symm) (by rw[rl.out k hlt];exact Hvl.out.symm);rw[hnx]at s2;clear hnx;go_roundw
   case rel=>exact⟨k+1,by omega,by go_num,E5,Aa X5,t1,s2⟩
   case measure=>simp[intOf];omega
  ·obtain rfl:k=4:=by omega
   have cu:=r2.up (AT L.out 4);have cl:=r2.le (AT L.out 4);rw[show(edK E 4).up=true from FU.out]at cu;rw[show(edK E 4).le=true from FL.out]at cl;obtain⟨-,k0,k1,k2,-⟩:=bx3 X4.out;have hy1:1≤y:=by omega
   obtain⟨Y1,hY1⟩:∃ Y1:Nat,y=Y1+1:=⟨y-1,by omega⟩;obtain⟨X1,hX1⟩:∃ X1:Nat,x=X1+1:=⟨x-1,by omega⟩;obtain⟨q,hq⟩:∃ q:Nat,q=Y1*W+X1:=⟨_,rfl⟩;have hqn:q<n:=by rw[hq];exact Inn.out Y1 X1 (by omega) (by omega)
   have hpv:=Pin.out Y1 X1 (by omega) (by omega);rw[←hq]at hpv;obtain⟨vc,hvc⟩:∃ vc,vc=pat p ((x:Int)-1) ((y:Int)-1):=⟨_,rfl⟩;have hcell:∃ b off,a=some ⟨b,off,none⟩∧wr.cell? ⟨b,off+q,none⟩=some (.int .i64 vc):=by
    obtain⟨b,off,h1,h2⟩:=(r.ext E4).int hqn;refine⟨b,off,h1,?_⟩;rw[h2,hvc,show(x:Int)-1=(X1:Int) by omega,show(y:Int)-1=(Y1:Int) by omega,hpv]
   have hm1:((y:Int)-1)*(W:Int)=((Y1*W:Nat):Int):=by rw[Int.natCast_mul,show(y:Int)-1=(Y1:Int) by omega]
   have hmq:Y1*W≤q:=by rw[hq];omega
   have hq2:((y:Int)-1)*(W:Int)+(x:Int)-1=(q:Int):=by rw[hm1,hq];omega
   have hmb:0≤((y:Int)-1)*(W:Int)∧((y:Int)-1)*(W:Int)≤1024:=by rw[hm1];omega
   have Hvc:=Aa hvc;have c0:=r2.co (AT L.out 4);have f0:=r2.frozen 8;obtain⟨b,off,rfl,hcell⟩:=hcell;rw[HW.out]at k0;clear hq hpv hvc hm1 hmq hY1 hX1;go_upto_region 13 with fail
   have s3:=r2.set_co (AT L.out 4) vc;have E6:=sC _ _ 8 (.int .i64 vc) (by omega:w.heap.size≤B+1+1) E4;have t2:=r1.set_other (c:=B+1+1) (i:=8) (v := .int .i64 vc) (by omega);clear r2 E4 r1 c0 f0 cu cl k0 k1 k2 hcell hq2 hmb X4;generalize wr.setCell ⟨B+1+1,8,none⟩ (.int .i64 vc)=w7 at *;rw[CU L.out]at s3;have hfin:({ ({ E with co:=128 } : Ed)with co:=vc } : Ed)=E:=by rw[Hvc.out,←rc.out]
   rw[hfin]at s3;clear hfin;go_wp2_with (first|(refine AA 67 _ rfl rfl s3 rfl _ Rq rfl 11 Aq (As L.out) ?_)|(refine A7 67 _ _ rfl rfl t2 rfl _ rfl (CJ E) 11 Aq (As L.out) (As D7) ?_;intro w8 p8 g8;refine Hid.out ?_))
   have E8:Ext w w8:=Ext.grown E6 g8 (fun q hq=>by cases hq;omega);refine Aa ?_;go_wp2;exact bodyPost_ret (v := .agg (edC E)) (results_cell_row rfl _ _ (B+1) 67 (edC E) (0,0) _ rfl p8 Rq rfl (by rw[As L.out];exact Aq)) rfl ⟨rfl,E8⟩
theorem M6 (p:Pic)(x y W H:Nat)(top:Int)(a:Option Addr)(c n:Nat)(w:World)(hv:p.valid)(hn:n=p.px.length)(r:Sl w a n (p.px.map (Value.int .i64)))(hW:p.w=W)(hH:p.h=H)(x2:x+3<W)(y2:y+3<H)(t0:0≤top)(hu:top<(y:Int))(hl : ¬ 0<(x:Int)):
 Calls Tryz.prog 70 #[.agg #[.int .i64 p.w,.int .i64 p.h,.slice a n c],.int .i64 (x:Nat),.int .i64 (y:Nat),.int .i64 top] w fun e w'=>e= .returned (.agg (edC (edg p (x:Int) (y:Int) top)))∧Ext w w':=by
 have d1:decide (top<(y:Int))=true:=by simpa using hu
 have d2:decide (0<x)=false:=by simp;omega
 have L:=Aa (Fv p (x:Int) (y:Int) top);have fu:(edg p (x:Int) (y:Int) top).up=true:=d1;have fl:(edg p (x:Int) (y:Int) top).le=false:=(show decide (0<(x:Int))=false by simpa using hl);have ra:=Aa (fun(k:Nat) (hk:k<4)=>show nth (edg p (x:Int) (y:Int) top).ab k=pat p ((x:Int)+(k:Int)) ((y:Int)-1) by rw[Ex _ _ _ _ hk,if_pos hu]);have rl:=Aa (fun(k:Nat) (hk:k<4)=>show nth (edg p (x:Int) (y:Int) top).lf k=128 by rw[Ey _ _ _ _ hk,if_neg hl]);have rc:=Aa (show(edg p (x:Int) (y:Int) top).co=128 by unfold edg;simp only;rw[if_neg (fun h=>hl h.2)]);have hlen:=hv.2.2.1;rw[hW,hH,←Int.natCast_mul]at hlen;have hnW:n=W*H:=by rw[hn];exact Int.ofNat.inj hlen
 have hside:=hv.1;rw[hW]at hside;have hside2:=hv.2.1;rw[hH]at hside2;have hW32:W≤32:=by have:=hside.2.1;omega
 have hH32:H≤32:=by have:=hside2.2.1;omega
 have inn:∀ u v:Nat,u<H→v<W→u*W+v<n:=fun u v h1 h2=>by
  have h3:=Nat.mul_le_mul_right W (show u+1≤H by omega);rw[Nat.add_mul,Nat.one_mul,Nat.mul_comm H W,←hnW]at h3;omega
 have Inn:=Aa inn;have hn1k:n≤1024:=by rw[hnW];exact Nat.mul_le_mul hW32 hH32
 have Pin:=Aa (fun(u v:Nat) (h1:u<H) (h2:v<W)=>Lg (p:=p) (x:=v) (y:=u) (by rw[hW];omega) (by rw[hH];omega) hW);have HW:=Aa hW;clear hlen hnW hside hside2 hW hH inn;have HN:=Aa hn;have HV:=Aa hv;obtain⟨E,hE⟩:∃ E,E=edg p (x:Int) (y:Int) top:=⟨_,rfl⟩;rw[←hE]at L fu fl ra rl rc⊢;have HE:=Aa hE;clear hn hv hE;have a2:=Ext.alloc (w.alloc (.cells #[.int .i64 p.w,.int .i64 p.h,.slice a n c] 30)) (.cells (edC ed0) 67);have a3:=Ext.alloc ((w.alloc (.cells #[.int .i64 p.w,.int .i64 p.h,.slice a n c] 30)).alloc (.cells (edC ed0) 67)) (.cells (edC ⟨z4,z4,128,true,false⟩) 67);have b0:=a3.blk (a2.blk (Aj w (.cells #[.int .i64 p.w,.int .i64 p.h,.slice a n c] 30)));have b1:=(EB.new (w.alloc (.cells #[.int .i64 p.w,.int .i64 p.h,.slice a n c] 30)) ed0).ext a3;have b2:=EB.new ((w.alloc (.cells #[.int .i64 p.w,.int .i64 p.h,.slice a n c] 30)).alloc (.cells (edC ed0) 67)) ⟨z4,z4,128,true,false⟩;have E1:=((Ext.alloc w (.cells #[.int .i64 p.w,.int .i64 p.h,.slice a n c] 30)).trans a2).trans a3;simp only[World.size_alloc]at b1 b2;have eK:=Aa (CV E);rw[fu,fl]at eK;have FU:=Aa fu;have FL:=Aa fl;clear a2 a3 fu fl;go_enter Tryz.func70,Tryz.ntmps70
 go_wp2_with fail
 try simp only[World.size_alloc]
 obtain⟨B,hB⟩:∃ B,B=w.heap.size:=⟨_,rfl⟩;rw[←hB]at b0 b1 b2⊢;have hwB:w.heap.size≤B:=by omega
 have HB:=Aa hB;clear hB;go_loopw [10] (fun i wr=>∃ k:Nat,k≤4∧i= .int .i64 k∧Ext w wr∧Hid (wr.heap[B]?=some (.cells #[.int .i64 p.w,.int .i64 p.h,.slice a n c] 30 (0,0)))∧EB wr (B+1) ed0∧EB wr (B+1+1) (edK E k)) (fun i _=>4-(intOf i).toNat)
 case atStart=>exact⟨0,by omega,rfl,E1,Aa b0,b1,by rw[eK.out];exact b2⟩
 case round =>
  obtain⟨k,hk,rfl,E4,X4,r1,r2⟩:=hrel;clear b0 b1 b2 E1
  by_cases hlt:k<4
  ·have hd:decide ((k:Int)<4)=true:=by simp;omega
   have c0:=r2.ab (AT L.out k) hlt;have f0:=r2.frozen k;go_upto_region 6 with fail
   have s1:=r2.first L.out hlt 128
   have E5:=sC _ _ k (.int .i64 128) (by omega:w.heap.size≤B+1+1) E4;have X5:=Ai (c:=B+1+1) (i:=k) (v := .int .i64 128) X4.out (by omega);have t1:=r1.set_other (c:=B+1+1) (i:=k) (v := .int .i64 128) (by omega);clear r2 E4 X4 r1 c0 f0;generalize wr.setCell ⟨B+1+1,k,none⟩ (.int .i64 128)=wq at *;have c1:=s1.lf ⟨by show(List.set _ _ _).length=4;rw[List.length_set];exact AE _ _ _ 4 L.out.ab rfl,AE _ _ _ 4 L.out.lf rfl⟩ hlt;have f1:=s1.frozen (4+k);go_upto_region 7 with fail
   have s2:=s1.second L.out hlt 128;have E5':=sC _ _ (4+k) (.int .i64 128) (by omega:w.heap.size≤B+1+1) E5;have X5':=Ai (c:=B+1+1) (i:=4+k) (v := .int .i64 128) X5 (by omega);have t1':=t1.set_other (c:=B+1+1) (i:=4+k) (v := .int .i64 128) (by omega);clear s1 E5 X5 t1 c1 f1;have E5:=E5';have X5:=X5';have t1:=t1';clear E5' X5' t1';generalize wq.setCell ⟨B+1+1,4+k,none⟩ (.int .i64 128)=w5 at *;have cu:=s2.up (A6 L.out k _ _);have cl:=s2.le (A6 L.out k _ _);rw[show(edS E k 128 128).up=true from FU.out]at cu;rw[show(edS E k 128 128).le=false from FL.out]at cl;obtain⟨-,k0,k1,k2,-⟩:=bx3 X5;have hy1:1≤y:=by omega
   obtain⟨Y1,hY1⟩:∃ Y1:Nat,y=Y1+1:=⟨y-1,by omega⟩;obtain⟨q,hq⟩:∃ q:Nat,q=Y1*W+(x+k):=⟨_,rfl⟩;have hqn:q<n:=by rw[hq];exact Inn.out Y1 (x+k) (by omega) (by omega)
   have hpv:=Pin.out Y1 (x+k) (by omega) (by omega);rw[←hq]at hpv;obtain⟨va,hva⟩:∃ va,va=pat p ((x:Int)+(k:Int)) ((y:Int)-1):=⟨_,rfl⟩;have hcell:∃ b off,a=some ⟨b,off,none⟩∧w5.cell? ⟨b,off+q,none⟩=some (.int .i64 va):=by
    obtain⟨b,off,h1,h2⟩:=(r.ext E5).int hqn;refine⟨b,off,h1,?_⟩;rw[h2,hva,show(x:Int)+(k:Int)=((x+k:Nat):Int) by omega,show(y:Int)-1=(Y1:Int) by omega,hpv]
   have hm1:((y:Int)-1)*(W:Int)=((Y1*W:Nat):Int):=by rw[Int.natCast_mul,show(y:Int)-1=(Y1:Int) by omega]
   have hmq:Y1*W≤q:=by rw[hq];omega
   have hq2:((y:Int)-1)*(W:Int)+(x:Int)+(k:Int)=(q:Int):=by rw[hm1,hq];omega
   have hmb:0≤((y:Int)-1)*(W:Int)∧((y:Int)-1)*(W:Int)≤1024:=by rw[hm1];omega
   have Hva:=Aa hva;have c0:=s2.ab (A6 L.out k _ _) hlt;have f0:=s2.frozen k;obtain⟨b,off,rfl,hcell⟩:=hcell;rw[HW.out]at k0;clear hq hpv hva hm1 hmq hY1;go_upto_region 9 with fail
   have s3:=s2.s_up L.out hlt va;have E6:=sC _ _ k (.int .i64 va) (by omega:w.heap.size≤B+1+1) E5;have X6:=Ai (c:=B+1+1) (i:=k) (v := .int .i64 va) X5 (by omega);have t2:=t1.set_other (c:=B+1+1) (i:=k) (v := .int .i64 va) (by omega);clear s2 E5 X5 t1 c0 f0 cu cl k0 k1 k2 hcell hq2 hmb;have s2:=s3;have E5:=E6;have X5:=X6;have t1:=t2;clear s3 E6 X6 t2;generalize w5.setCell ⟨B+1+1,k,none⟩ (.int .i64 va)=w7 at *;have cl:=s2.le (A6 L.out k _ _);rw[show(edS E k va 128).le=false from FL.out]at cl;obtain⟨-,k0,k1,k2,-⟩:=bx3 X5;have hnx:=CW L.out hlt (u:=va) (v:=128) (by rw[ra.out k hlt];exact Hva.out.symm) (by rw[rl.out k hlt]);rw[hnx]at s2;clear hnx;go_wp2;go_roundw
   case rel=>exact⟨k+1,by omega,by go_num,E5,Aa X5,t1,s2⟩
   case measure=>simp[intOf];omega
  ·obtain rfl:k=4:=by omega
   have cu:=r2.up (AT L.out 4);have cl:=r2.le (AT L.out 4);rw[show(edK E 4).up=true from FU.out]at cu;rw[show(edK E 4).le=false from FL.out]at cl;obtain⟨-,k0,k1,k2,-⟩:=bx3 X4.out;go_upto_region 13 with fail
   rw[CU L.out]at r2;have hfin:({ E with co:=128 } : Ed)=E:=by rw[←rc.out]
   rw[hfin]at r2;clear hfin;go_wp2_with (first|(refine AA 67 _ rfl rfl r2 rfl _ Rq rfl 11 Aq (As L.out) ?_)|(refine A7 67 _ _ rfl rfl r1 rfl _ rfl (CJ E) 11 Aq (As L.out) (As D7) ?_;intro w8 p8 g8;refine Hid.out ?_))
   have E8:Ext w w8:=Ext.grown E4 g8 (fun q hq=>by cases hq;omega);refine Aa ?_;go_wp2;exact bodyPost_ret (v := .agg (edC E)) (results_cell_row rfl _ _ (B+1) 67 (edC E) (0,0) _ rfl p8 Rq rfl (by rw[As L.out];exact Aq)) rfl ⟨rfl,E8⟩
theorem MX (p:Pic)(x y W H:Nat)(top:Int)(a:Option Addr)(c n:Nat)(w:World)(hv:p.valid)(hn:n=p.px.length)(r:Sl w a n (p.px.map (Value.int .i64)))(hW:p.w=W)(hH:p.h=H)(x2:x+3<W)(y2:y+3<H)(t0:0≤top)(hu : ¬ top<(y:Int))(hl:0<(x:Int)):
 Calls Tryz.prog 70 #[.agg #[.int .i64 p.w,.int .i64 p.h,.slice a n c],.int .i64 (x:Nat),.int .i64 (y:Nat),.int .i64 top] w fun e w'=>e= .returned (.agg (edC (edg p (x:Int) (y:Int) top)))∧Ext w w':=by
 have d1:decide (top<(y:Int))=false:=by simpa using hu
 have d2:decide (0<x)=true:=by simp;omega
 have L:=Aa (Fv p (x:Int) (y:Int) top);have fu:(edg p (x:Int) (y:Int) top).up=false:=d1;have fl:(edg p (x:Int) (y:Int) top).le=true:=(show decide (0<(x:Int))=true by simpa using hl);have ra:=Aa (fun(k:Nat) (hk:k<4)=>show nth (edg p (x:Int) (y:Int) top).ab k=128 by rw[Ex _ _ _ _ hk,if_neg hu]);have rl:=Aa (fun(k:Nat) (hk:k<4)=>show nth (edg p (x:Int) (y:Int) top).lf k=pat p ((x:Int)-1) ((y:Int)+(k:Int)) by rw[Ey _ _ _ _ hk,if_pos hl]);have rc:=Aa (show(edg p (x:Int) (y:Int) top).co=128 by unfold edg;simp only;rw[if_neg (fun h=>hu h.1)]);have hlen:=hv.2.2.1;rw[hW,hH,←Int.natCast_mul]at hlen;have hnW:n=W*H:=by rw[hn];exact Int.ofNat.inj hlen
 have hside:=hv.1;rw[hW]at hside;have hside2:=hv.2.1;rw[hH]at hside2;have hW32:W≤32:=by have:=hside.2.1;omega
 have hH32:H≤32:=by have:=hside2.2.1;omega
 have inn:∀ u v:Nat,u<H→v<W→u*W+v<n:=fun u v h1 h2=>by
  have h3:=Nat.mul_le_mul_right W (show u+1≤H by omega);rw[Nat.add_mul,Nat.one_mul,Nat.mul_comm H W,←hnW]at h3;omega
 have Inn:=Aa inn;have hn1k:n≤1024:=by rw[hnW];exact Nat.mul_le_mul hW32 hH32
 have Pin:=Aa (fun(u v:Nat) (h1:u<H) (h2:v<W)=>Lg (p:=p) (x:=v) (y:=u) (by rw[hW];omega) (by rw[hH];omega) hW);have HW:=Aa hW;clear hlen hnW hside hside2 hW hH inn;have HN:=Aa hn;have HV:=Aa hv;obtain⟨E,hE⟩:∃ E,E=edg p (x:Int) (y:Int) top:=⟨_,rfl⟩;rw[←hE]at L fu fl ra rl rc⊢;have HE:=Aa hE;clear hn hv hE;have a2:=Ext.alloc (w.alloc (.cells #[.int .i64 p.w,.int .i64 p.h,.slice a n c] 30)) (.cells (edC ed0) 67);have a3:=Ext.alloc ((w.alloc (.cells #[.int .i64 p.w,.int .i64 p.h,.slice a n c] 30)).alloc (.cells (edC ed0) 67)) (.cells (edC ⟨z4,z4,128,false,true⟩) 67);have b0:=a3.blk (a2.blk (Aj w (.cells #[.int .i64 p.w,.int .i64 p.h,.slice a n c] 30)));have b1:=(EB.new (w.alloc (.cells #[.int .i64 p.w,.int .i64 p.h,.slice a n c] 30)) ed0).ext a3;have b2:=EB.new ((w.alloc (.cells #[.int .i64 p.w,.int .i64 p.h,.slice a n c] 30)).alloc (.cells (edC ed0) 67)) ⟨z4,z4,128,false,true⟩;have E1:=((Ext.alloc w (.cells #[.int .i64 p.w,.int .i64 p.h,.slice a n c] 30)).trans a2).trans a3;simp only[World.size_alloc]at b1 b2;have eK:=Aa (CV E);rw[fu,fl]at eK;have FU:=Aa fu;have FL:=Aa fl;clear a2 a3 fu fl;go_enter Tryz.func70,Tryz.ntmps70
 go_wp2_with fail
 try simp only[World.size_alloc]
 obtain⟨B,hB⟩:∃ B,B=w.heap.size:=⟨_,rfl⟩;rw[←hB]at b0 b1 b2⊢;have hwB:w.heap.size≤B:=by omega
 have HB:=Aa hB;clear hB;go_loopw [10] (fun i wr=>∃ k:Nat,k≤4∧i= .int .i64 k∧Ext w wr∧Hid (wr.heap[B]?=some (.cells #[.int .i64 p.w,.int .i64 p.h,.slice a n c] 30 (0,0)))∧EB wr (B+1) ed0∧EB wr (B+1+1) (edK E k)) (fun i _=>4-(intOf i).toNat)
 case atStart=>exact⟨0,by omega,rfl,E1,Aa b0,b1,by rw[eK.out];exact b2⟩
 case round =>
  obtain⟨k,hk,rfl,E4,X4,r1,r2⟩:=hrel;clear b0 b1 b2 E1
  by_cases hlt:k<4
  ·have hd:decide ((k:Int)<4)=true:=by simp;omega
   have c0:=r2.ab (AT L.out k) hlt;have f0:=r2.frozen k;go_upto_region 6 with fail
   have s1:=r2.first L.out hlt 128
   have E5:=sC _ _ k (.int .i64 128) (by omega:w.heap.size≤B+1+1) E4;have X5:=Ai (c:=B+1+1) (i:=k) (v := .int .i64 128) X4.out (by omega);have t1:=r1.set_other (c:=B+1+1) (i:=k) (v := .int .i64 128) (by omega);clear r2 E4 X4 r1 c0 f0;generalize wr.setCell ⟨B+1+1,k,none⟩ (.int .i64 128)=wq at *;have c1:=s1.lf ⟨by show(List.set _ _ _).length=4;rw[List.length_set];exact AE _ _ _ 4 L.out.ab rfl,AE _ _ _ 4 L.out.lf rfl⟩ hlt;have f1:=s1.frozen (4+k);go_upto_region 7 with fail
   have s2:=s1.second L.out hlt 128;have E5':=sC _ _ (4+k) (.int .i64 128) (by omega:w.heap.size≤B+1+1) E5;have X5':=Ai (c:=B+1+1) (i:=4+k) (v := .int .i64 128) X5 (by omega);have t1':=t1.set_other (c:=B+1+1) (i:=4+k) (v := .int .i64 128) (by omega);clear s1 E5 X5 t1 c1 f1;have E5:=E5';have X5:=X5';have t1:=t1';clear E5' X5' t1';generalize wq.setCell ⟨B+1+1,4+k,none⟩ (.int .i64 128)=w5 at *;have cu:=s2.up (A6 L.out k _ _);have cl:=s2.le (A6 L.out k _ _);rw[show(edS E k 128 128).up=false from FU.out]at cu;rw[show(edS E k 128 128).le=true from FL.out]at cl;obtain⟨-,k0,k1,k2,-⟩:=bx3 X5;obtain⟨X1,hX1⟩:∃ X1:Nat,x=X1+1:=⟨x-1,by omega⟩;obtain⟨q,hq⟩:∃ q:Nat,q=(y+k)*W+X1:=⟨_,rfl⟩;have hqn:q<n:=by rw[hq];exact Inn.out (y+k) X1 (by omega) (by omega)
   have hpv:=Pin.out (y+k) X1 (by omega) (by omega);rw[←hq]at hpv;obtain⟨vl,hvl⟩:∃ vl,vl=pat p ((x:Int)-1) ((y:Int)+(k:Int)):=⟨_,rfl⟩;have hcell:∃ bb oo,a=some ⟨bb,oo,none⟩∧w5.cell? ⟨bb,oo+q,none⟩=some (.int .i64 vl):=by
    obtain⟨bb,oo,h1,h2⟩:=(r.ext E5).int hqn;refine⟨bb,oo,h1,?_⟩;rw[h2,hvl,show(x:Int)-1=(X1:Int) by omega,show(y:Int)+(k:Int)=((y+k:Nat):Int) by omega,hpv]
   have hm1:((y:Int)+(k:Int))*(W:Int)=(((y+k)*W:Nat):Int):=by rw[Int.natCast_mul,show(y:Int)+(k:Int)=((y+k:Nat):Int) by omega]
   have hmq:(y+k)*W≤q:=by rw[hq];omega
   have hq2:((y:Int)+(k:Int))*(W:Int)+(x:Int)-1=(q:Int):=by rw[hm1,hq];omega
   have hmb:0≤((y:Int)+(k:Int))*(W:Int)∧((y:Int)+(k:Int))*(W:Int)≤1024:=by rw[hm1];omega
   have Hvl:=Aa hvl;have c0:=s2.lf (A6 L.out k _ _) hlt;have f0:=s2.frozen (4+k);obtain⟨b,off,rfl,hcell⟩:=hcell;rw[HW.out]at k0;clear hq hpv hvl hm1 hmq hX1;go_wp2;have s3:=s2.s_lf L.out hlt vl;have E6:=sC _ _ (4+k) (.int .i64 vl) (by omega:w.heap.size≤B+1+1) E5;have X6:=Ai (c:=B+1+1) (i:=4+k) (v := .int .i64 vl) X5 (by omega);have t2:=t1.set_other (c:=B+1+1) (i:=4+k) (v := .int .i64 vl) (by omega);clear s2 E5 X5 t1 c0 f0 cl k0 k1 k2 hcell hq2 hmb cu;have s2:=s3;have E5:=E6;have X5:=X6;have t1:=t2;clear s3 E6 X6 t2;have hnx:=CW L.out hlt (u:=128) (v:=vl) (by rw[ra.out k hlt]) (by rw[rl.out k hlt];exact Hvl.out.symm);rw[hnx]at s2;clear hnx;go_roundw
   case rel=>exact⟨k+1,by omega,by go_num,E5,Aa X5,t1,s2⟩
   case measure=>simp[intOf];omega
  ·obtain rfl:k=4:=by omega
   have cu:=r2.up (AT L.out 4);have cl:=r2.le (AT L.out 4);rw[show(edK E 4).up=false from FU.out]at cu;rw[show(edK E 4).le=true from FL.out]at cl;obtain⟨-,k0,k1,k2,-⟩:=bx3 X4.out;go_upto_region 13 with fail
   rw[CU L.out]at r2;have hfin:({ E with co:=128 } : Ed)=E:=by rw[←rc.out]
   rw[hfin]at r2;clear hfin;go_wp2_with (first|(refine AA 67 _ rfl rfl r2 rfl _ Rq rfl 11 Aq (As L.out) ?_)|(refine A7 67 _ _ rfl rfl r1 rfl _ rfl (CJ E) 11 Aq (As L.out) (As D7) ?_;intro w8 p8 g8;refine Hid.out ?_))
   have E8:Ext w w8:=Ext.grown E4 g8 (fun q hq=>by cases hq;omega);refine Aa ?_;go_wp2;exact bodyPost_ret (v := .agg (edC E)) (results_cell_row rfl _ _ (B+1) 67 (edC E) (0,0) _ rfl p8 Rq rfl (by rw[As L.out];exact Aq)) rfl ⟨rfl,E8⟩
theorem MY (p:Pic)(x y W H:Nat)(top:Int)(a:Option Addr)(c n:Nat)(w:World)(hv:p.valid)(hn:n=p.px.length)(r:Sl w a n (p.px.map (Value.int .i64)))(hW:p.w=W)(hH:p.h=H)(x2:x+3<W)(y2:y+3<H)(t0:0≤top)(hu : ¬ top<(y:Int))(hl : ¬ 0<(x:Int)):
 Calls Tryz.prog 70 #[.agg #[.int .i64 p.w,.int .i64 p.h,.slice a n c],.int .i64 (x:Nat),.int .i64 (y:Nat),.int .i64 top] w fun e w'=>e= .returned (.agg (edC (edg p (x:Int) (y:Int) top)))∧Ext w w':=by
 have d1:decide (top<(y:Int))=false:=by simpa using hu
 have d2:decide (0<x)=false:=by simp;omega
 have L:=Aa (Fv p (x:Int) (y:Int) top);have fu:(edg p (x:Int) (y:Int) top).up=false:=d1;have fl:(edg p (x:Int) (y:Int) top).le=false:=(show decide (0<(x:Int))=false by simpa using hl);have ra:=Aa (fun(k:Nat) (hk:k<4)=>show nth (edg p (x:Int) (y:Int) top).ab k=128 by rw[Ex _ _ _ _ hk,if_neg hu]);have rl:=Aa (fun(k:Nat) (hk:k<4)=>show nth (edg p (x:Int) (y:Int) top).lf k=128 by rw[Ey _ _ _ _ hk,if_neg hl]);have rc:=Aa (show(edg p (x:Int) (y:Int) top).co=128 by unfold edg;simp only;rw[if_neg (fun h=>hu h.1)]);have hlen:=hv.2.2.1;rw[hW,hH,←Int.natCast_mul]at hlen;have hnW:n=W*H:=by rw[hn];exact Int.ofNat.inj hlen
 have hside:=hv.1;rw[hW]at hside;have hside2:=hv.2.1;rw[hH]at hside2;have hW32:W≤32:=by have:=hside.2.1;omega
 have hH32:H≤32:=by have:=hside2.2.1;omega
 have inn:∀ u v:Nat,u<H→v<W→u*W+v<n:=fun u v h1 h2=>by
  have h3:=Nat.mul_le_mul_right W (show u+1≤H by omega);rw[Nat.add_mul,Nat.one_mul,Nat.mul_comm H W,←hnW]at h3;omega
 have Inn:=Aa inn;have hn1k:n≤1024:=by rw[hnW];exact Nat.mul_le_mul hW32 hH32
 have Pin:=Aa (fun(u v:Nat) (h1:u<H) (h2:v<W)=>Lg (p:=p) (x:=v) (y:=u) (by rw[hW];omega) (by rw[hH];omega) hW);have HW:=Aa hW;clear hlen hnW hside hside2 hW hH inn;have HN:=Aa hn;have HV:=Aa hv;obtain⟨E,hE⟩:∃ E,E=edg p (x:Int) (y:Int) top:=⟨_,rfl⟩;rw[←hE]at L fu fl ra rl rc⊢;have HE:=Aa hE;clear hn hv hE;have a2:=Ext.alloc (w.alloc (.cells #[.int .i64 p.w,.int .i64 p.h,.slice a n c] 30)) (.cells (edC ed0) 67);have a3:=Ext.alloc ((w.alloc (.cells #[.int .i64 p.w,.int .i64 p.h,.slice a n c] 30)).alloc (.cells (edC ed0) 67)) (.cells (edC ⟨z4,z4,128,false,false⟩) 67);have b0:=a3.blk (a2.blk (Aj w (.cells #[.int .i64 p.w,.int .i64 p.h,.slice a n c] 30)));have b1:=(EB.new (w.alloc (.cells #[.int .i64 p.w,.int .i64 p.h,.slice a n c] 30)) ed0).ext a3;have b2:=EB.new ((w.alloc (.cells #[.int .i64 p.w,.int .i64 p.h,.slice a n c] 30)).alloc (.cells (edC ed0) 67)) ⟨z4,z4,128,false,false⟩;have E1:=((Ext.alloc w (.cells #[.int .i64 p.w,.int .i64 p.h,.slice a n c] 30)).trans a2).trans a3;simp only[World.size_alloc]at b1 b2;have eK:=Aa (CV E);rw[fu,fl]at eK;have FU:=Aa fu;have FL:=Aa fl;clear a2 a3 fu fl;go_enter Tryz.func70,Tryz.ntmps70
 go_wp2_with fail
 try simp only[World.size_alloc]
 obtain⟨B,hB⟩:∃ B,B=w.heap.size:=⟨_,rfl⟩;rw[←hB]at b0 b1 b2⊢;have hwB:w.heap.size≤B:=by omega
 have HB:=Aa hB;clear hB;go_loopw [10] (fun i wr=>∃ k:Nat,k≤4∧i= .int .i64 k∧Ext w wr∧Hid (wr.heap[B]?=some (.cells #[.int .i64 p.w,.int .i64 p.h,.slice a n c] 30 (0,0)))∧EB wr (B+1) ed0∧EB wr (B+1+1) (edK E k)) (fun i _=>4-(intOf i).toNat)
 case atStart=>exact⟨0,by omega,rfl,E1,Aa b0,b1,by rw[eK.out];exact b2⟩
 case round =>
  obtain⟨k,hk,rfl,E4,X4,r1,r2⟩:=hrel;clear b0 b1 b2 E1
  by_cases hlt:k<4
  ·have hd:decide ((k:Int)<4)=true:=by simp;omega
   have c0:=r2.ab (AT L.out k) hlt;have f0:=r2.frozen k;go_upto_region 6 with fail
   have s1:=r2.first L.out hlt 128
   have E5:=sC _ _ k (.int .i64 128) (by omega:w.heap.size≤B+1+1) E4;have X5:=Ai (c:=B+1+1) (i:=k) (v := .int .i64 128) X4.out (by omega);have t1:=r1.set_other (c:=B+1+1) (i:=k) (v := .int .i64 128) (by omega);clear r2 E4 X4 r1 c0 f0;generalize wr.setCell ⟨B+1+1,k,none⟩ (.int .i64 128)=wq at *;have c1:=s1.lf ⟨by show(List.set _ _ _).length=4;rw[List.length_set];exact AE _ _ _ 4 L.out.ab rfl,AE _ _ _ 4 L.out.lf rfl⟩ hlt;have f1:=s1.frozen (4+k);go_upto_region 7 with fail
   have s2:=s1.second L.out hlt 128;have E5':=sC _ _ (4+k) (.int .i64 128) (by omega:w.heap.size≤B+1+1) E5;have X5':=Ai (c:=B+1+1) (i:=4+k) (v := .int .i64 128) X5 (by omega);have t1':=t1.set_other (c:=B+1+1) (i:=4+k) (v := .int .i64 128) (by omega);clear s1 E5 X5 t1 c1 f1;have E5:=E5';have X5:=X5';have t1:=t1';clear E5' X5' t1';generalize wq.setCell ⟨B+1+1,4+k,none⟩ (.int .i64 128)=w5 at *;have cu:=s2.up (A6 L.out k _ _);have cl:=s2.le (A6 L.out k _ _);rw[show(edS E k 128 128).up=false from FU.out]at cu;rw[show(edS E k 128 128).le=false from FL.out]at cl;obtain⟨-,k0,k1,k2,-⟩:=bx3 X5;have hnx:=CW L.out hlt (u:=128) (v:=128) (by rw[ra.out k hlt]) (by rw[rl.out k hlt]);rw[hnx]at s2;clear hnx;go_wp2;go_roundw
   case rel=>exact⟨k+1,by omega,by go_num,E5,Aa X5,t1,s2⟩
   case measure=>simp[intOf];omega
  ·obtain rfl:k=4:=by omega
   have cu:=r2.up (AT L.out 4);have cl:=r2.le (AT L.out 4);rw[show(edK E 4).up=false from FU.out]at cu;rw[show(edK E 4).le=false from FL.out]at cl;obtain⟨-,k0,k1,k2,-⟩:=bx3 X4.out;go_upto_region 13 with fail
   rw[CU L.out]at r2;have hfin:({ E with co:=128 } : Ed)=E:=by rw[←rc.out]
   rw[hfin]at r2;clear hfin;go_wp2_with (first|(refine AA 67 _ rfl rfl r2 rfl _ Rq rfl 11 Aq (As L.out) ?_)|(refine A7 67 _ _ rfl rfl r1 rfl _ rfl (CJ E) 11 Aq (As L.out) (As D7) ?_;intro w8 p8 g8;refine Hid.out ?_))
   have E8:Ext w w8:=Ext.grown E4 g8 (fun q hq=>by cases hq;omega);refine Aa ?_;go_wp2;exact bodyPost_ret (v := .agg (edC E)) (results_cell_row rfl _ _ (B+1) 67 (edC E) (0,0) _ rfl p8 Rq rfl (by rw[As L.out];exact Aq)) rfl ⟨rfl,E8⟩
theorem IJ (p:Pic)(x y W H:Nat)(top:Int)(a:Option Addr)(c n:Nat)(w:World)(hv:p.valid)(hn:n=p.px.length)(r:Sl w a n (p.px.map (Value.int .i64)))(hW:p.w=W)(hH:p.h=H)(x2:x+3<W)(y2:y+3<H)(t0:0≤top):
 Calls Tryz.prog 70 #[.agg #[.int .i64 p.w,.int .i64 p.h,.slice a n c],.int .i64 (x:Nat),.int .i64 (y:Nat),.int .i64 top] w fun e w'=>e= .returned (.agg (edC (edg p (x:Int) (y:Int) top)))∧Ext w w':=by
 by_cases hu:top<(y:Int)
 ·by_cases hl:0<(x:Int)
  ·exact MZ p x y W H top a c n w hv hn r hW hH x2 y2 t0 hu hl
  ·exact M6 p x y W H top a c n w hv hn r hW hH x2 y2 t0 hu hl
 ·by_cases hl:0<(x:Int)
  ·exact MX p x y W H top a c n w hv hn r hW hH x2 y2 t0 hu hl
  ·exact MY p x y W H top a c n w hv hn r hW hH x2 y2 t0 hu hl
theorem bx5m {w:World}{b:Nat}{x0 x1 x2 x3 x4:Value}{T:TypeId}(h:w.heap[b]?=some (.cells #[x0,x1,x2,x3,x4] T (0,0))):w.cell? ⟨b,0,none⟩=some x0∧w.cell? ⟨b,1,none⟩=some x1∧w.cell? ⟨b,2,none⟩=some x2∧w.cell? ⟨b,3,none⟩=some x3∧w.cell? ⟨b,4,none⟩=some x4 :=
 ⟨by simp[World.cell?,h],by simp[World.cell?,h],by simp[World.cell?,h],by simp[World.cell?,h],by simp[World.cell?,h]⟩
theorem Gn (m:Nat)(e:Ed){k:Nat}(hk:k<16):(mixI (prd m e) (List.replicate 16 0) k).set k (prd1 m e (k%4) (k/4))=mixI (prd m e) (List.replicate 16 0) (k+1):=by
 rw[←NQ m e hk,Bl _ _ _ 16 (A9 _ _) lenZ hk]
theorem C4 (e:Ed)(m F:Nat)(w:World)(ok:e.ok)(hm:m≤4)(hf:∀(wz:World) (b:Nat),wz.heap[b]?=some (.cells #[.func (.func 87) #[] #[],.func (.func 88) #[] #[],.func (.func 89) #[] #[],.func (.func 90) #[] #[],.func (.func 91) #[] #[]] 105 (0,0))→wz.cell? ⟨b,m,none⟩=some (.func (.func F) #[] #[]))(hr:∀(vs:Array Value) (wz:World),(callFunc F vs).run Tryz.prog wz= .ok (.enter F vs) wz)(hc:∀(k:Nat) (wz:World),k<16→Calls Tryz.prog F #[.agg (edC e),.int .i64 ((k:Int)%4),.int .i64 ((k:Int)/4)] wz fun r w'=>r= .returned (.int .i64 (prd1 m e (k%4) (k/4)))∧Ext wz w'):
 Calls Tryz.prog 46 #[.agg (edC e),.int .i64 (m:Nat)] w fun r w'=>r= .returned (.agg (ic (prd m e)))∧Ext w w':=by
 have OK:=Aa ok;have Hf:=Aa hf;have Hc:=Aa hc;have Hr:=Aa hr;have HI:=Aa (A9 m e);have Hm:=Aa (fun(k:Nat) (hk:k<16)=>Gn m e hk);have a2:=Ext.alloc (w.alloc (.cells (edC e) 67)) (.cells (ic (List.replicate 16 0)) 47);have a3:=Ext.alloc ((w.alloc (.cells (edC e) 67)).alloc (.cells (ic (List.replicate 16 0)) 47)) (.cells #[.func (.func 87) #[] #[],.func (.func 88) #[] #[],.func (.func 89) #[] #[],.func (.func 90) #[] #[],.func (.func 91) #[] #[]] 105);have a4:=Ext.alloc (((w.alloc (.cells (edC e) 67)).alloc (.cells (ic (List.replicate 16 0)) 47)).alloc (.cells #[.func (.func 87) #[] #[],.func (.func 88) #[] #[],.func (.func 89) #[] #[],.func (.func 90) #[] #[],.func (.func 91) #[] #[]] 105)) (.cells (ic (List.replicate 16 0)) 47);have p0:=(((EB.new w e).ext a2).ext a3).ext a4;have p1:=((IB.new (w.alloc (.cells (edC e) 67)) 47 (List.replicate 16 0)).ext a3).ext a4;have p2:=a4.blk (Aj ((w.alloc (.cells (edC e) 67)).alloc (.cells (ic (List.replicate 16 0)) 47)) (.cells #[.func (.func 87) #[] #[],.func (.func 88) #[] #[],.func (.func 89) #[] #[],.func (.func 90) #[] #[],.func (.func 91) #[] #[]] 105));have p3:=IB.new (((w.alloc (.cells (edC e) 67)).alloc (.cells (ic (List.replicate 16 0)) 47)).alloc (.cells #[.func (.func 87) #[] #[],.func (.func 88) #[] #[],.func (.func 89) #[] #[],.func (.func 90) #[] #[],.func (.func 91) #[] #[]] 105)) 47 (List.replicate 16 0);have E1:=(((Ext.alloc w (.cells (edC e) 67)).trans a2).trans a3).trans a4;simp only[World.size_alloc]at p1 p2 p3;clear a2 a3 a4 ok hf hc hr;go_enter Tryz.func46,Tryz.ntmps46
 go_wp2_with fail
 try simp only[World.size_alloc]
 obtain⟨B,hB⟩:∃ B,B=w.heap.size:=⟨_,rfl⟩;rw[←hB]at p0 p1 p2 p3⊢;have hwB:w.heap.size≤B:=by omega
 have HB:=Aa hB;clear hB;go_loopw [9] (fun i wr=>∃ k:Nat,k≤16∧i= .int .i64 k∧Ext w wr∧EB wr B e∧IB wr (B+1) 47 (List.replicate 16 0)∧Hid (wr.heap[B+1+1]?=some (.cells #[.func (.func 87) #[] #[],.func (.func 88) #[] #[],.func (.func 89) #[] #[],.func (.func 90) #[] #[],.func (.func 91) #[] #[]] 105 (0,0)))∧IB wr (B+1+1+1) 47 (mixI (prd m e) (List.replicate 16 0) k)) (fun i _=>16-(intOf i).toNat)
 case atStart=>exact⟨0,by omega,rfl,E1,p0,p1,Aa p2,by rw[AO];exact p3⟩
 case round =>
  obtain⟨k,hk,rfl,E4,r0,r1,X2,r3⟩:=hrel;clear p0 p1 p2 p3 E1
  by_cases hlt:k<16
  ·have hd:decide ((k:Int)<16)=true:=by simp;omega
   have HM:=Aa (fun(k:Nat) (hk:k≤16)=>AE (prd m e) (List.replicate 16 0) k 16 HI.out lenZ);have Hset:=Aa (show(mixI (prd m e) (List.replicate 16 0) k).set k (prd1 m e (k%4) (k/4))=mixI (prd m e) (List.replicate 16 0) (k+1)from Hm.out k hlt);have G0:Ext w wr∧EB wr B e∧IB wr (B+1) 47 (List.replicate 16 0)∧Hid (wr.heap[B+1+1]?=some (.cells #[.func (.func 87) #[] #[],.func (.func 88) #[] #[],.func (.func 89) #[] #[],.func (.func 90) #[] #[],.func (.func 91) #[] #[]] 105 (0,0)))∧IB wr (B+1+1+1) 47 (mixI (prd m e) (List.replicate 16 0) k):=⟨E4,r0,r1,X2,r3⟩;clear E4 r0 r1 X2 r3;go_wp2_with fail
   refine Am (by kernel_rfl) [(12,0),(13,1),(14,2),(15,3),(16,4),(17,5),(18,6),(19,7),(20,8),(21,9),(22,10)] [[],[],[1],[1,2],[],[],[5],[],[7],[1,2,3,4,5,6,7,8],[0,1,2,3,4,5,6,7,8,9],[0,1,2,3,4,5,6,7,8,9,10]] (fun i own ys wx=>match i with|0=>own= .int .i64 (k:Nat)|1=>own= .int .i64 (m:Nat)|2=>own= .pointer (some ⟨B+1+1,m,none⟩)|3=>own= .func (.func F) #[] #[]|4=>own= .agg (edC e)|5=>own= .int .i64 (k:Nat)|6=>own= .int .i64 ((k:Int)%4)|7=>own= .int .i64 (k:Nat)|8=>own= .int .i64 ((k:Int)/4)|9=>own= .int .i64 (prd1 m e (k%4) (k/4))|10=>own= .pointer (some ⟨B+1+1+1,k,none⟩)|11=>True|_=>True) (fun Lx wx=>Ext w wx∧EB wx B e∧IB wx (B+1) 47 (List.replicate 16 0)∧Hid (wx.heap[B+1+1]?=some (.cells #[.func (.func 87) #[] #[],.func (.func 88) #[] #[],.func (.func 89) #[] #[],.func (.func 90) #[] #[],.func (.func 91) #[] #[]] 105 (0,0)))∧IB wx (B+1+1+1) 47 (if Lx 11=true then mixI (prd m e) (List.replicate 16 0) (k+1)else mixI (prd m e) (List.replicate 16 0) k)) (by kernel_rfl) (by kernel_rfl) (by kernel_rfl) ?g0_r1 ?gop_r1 ?gend_r1
   case g0_r1=>exact⟨Ext.trans_drewN G0.1 1,G0.2.1.ext (Ext.drewN _ 1),G0.2.2.1.drewN 1,Aa (Oh G0.2.2.2.1.out 1),G0.2.2.2.2.drewN 1⟩
   case gop_r1 =>
    refine⟨?_,?_,?o2,?o3,?o4,?_,?o6,?_,?o8,?o9,?o10,?o11,trivial⟩ <;> (intro Lx xs wx hG hl ha hb hD hI Qo Kx hK hQo;simp only[Ad,Nat.reduceAdd,Nat.reduceEqDiff,↓reduceIte]at hQo⊢)
    case o2 =>
     clear hl ha hb;rw[ddq (hD 1 rfl)]at hQo⊢;clear hD hI;go_wp2;exact hK.out _ _ ⟨rfl,hG,kkp⟩
    case o3 =>
     clear hl ha hb;rw[ddq (hD 2 rfl)]at hQo⊢;clear hD hI;have f0:=Hf.out _ _ hG.2.2.2.1.out;go_wp2;exact hK.out _ _ ⟨rfl,hG,kkp⟩
    case o4 =>
     clear hl ha hb hD hI;go_wp2_with (refine AA 67 _ rfl rfl hG.2.1 rfl _ Rq rfl 11 Aq (As OK.out.ln) ?_)
     exact hK.out _ _ ⟨rfl,hG,kkp⟩
    case o6 =>
     clear hl ha hb;rw[ddq (hD 5 rfl)]at hQo⊢;clear hD hI;go_wp2;exact hK.out _ _ ⟨rfl,hG,kkp⟩
    case o8 =>
     clear hl ha hb;rw[ddq (hD 7 rfl)]at hQo⊢;clear hD hI;go_wp2;exact hK.out _ _ ⟨rfl,hG,kkp⟩
    case o9 =>
     clear hl ha hb;rw[ddq (hD 3 rfl),ddq (hD 4 rfl),ddq (hD 6 rfl),ddq (hD 8 rfl)]at hQo⊢;clear hD hI;go_wp2_with fail
     rw[Hr.out,Oper.upon_enter];refine(Hc.out k _ hlt).mono ?_
     rintro r w9 ⟨rfl,e9⟩
     go_wp2;exact hK.out _ _ ⟨rfl,⟨hG.1.trans e9,hG.2.1.ext e9,hG.2.2.1.ext e9,Aa (e9.blk hG.2.2.2.1.out),hG.2.2.2.2.ext e9⟩,fun _ _ _ _ _ _ h=>h⟩
    case o10 =>
     clear hl ha hb;rw[ddq (hD 0 rfl)]at hQo⊢;clear hD hI;go_wp2;exact hK.out _ _ ⟨rfl,hG,kkp⟩
    case o11 =>
     have l11:Lx 11=false:=hl;clear hl ha hb;rw[ddq (hD 9 rfl),ddq (hD 10 rfl)]at hQo⊢;clear hD hI;rw[l11,ifF]at hG;have cx:=hG.2.2.2.2.cell (i:=k) (by rw[HM.out k hk];exact hlt);have fx:=hG.2.2.2.2.frozen k;have s2:=hG.2.2.2.2.set k (prd1 m e (k%4) (k/4));rw[Hset.out]at s2;have gE:=Ext.grown hG.1 (Ax _ (B+1+1+1) k (.int .i64 (prd1 m e (k%4) (k/4)))) (fun q hq=>by cases hq;omega);have g0':=hG.2.1.set_other (c:=B+1+1+1) (i:=k) (v := .int .i64 (prd1 m e (k%4) (k/4))) (by omega);have g1':=hG.2.2.1.set_other (c:=B+1+1+1) (i:=k) (v := .int .i64 (prd1 m e (k%4) (k/4))) (by omega);have g2':=Ai (c:=B+1+1+1) (i:=k) (v := .int .i64 (prd1 m e (k%4) (k/4))) hG.2.2.2.1.out (by omega);go_wp2;exact hQo undef _ (hK.out _ _ ⟨trivial,⟨gE,g0',g1',Aa g2',s2⟩,fun _ _ _ _ _ _ h=>h⟩)
    all_goals
     clear hl ha hb hD hI;go_wp2;exact hK.out _ _ ⟨rfl,hG,kkp⟩
   intro xs wx hV hG0;obtain⟨Lx,hL,hG⟩:=hG0;have l11:Lx 11=true:=hL 11 (by decide);clear hL hV;simp only[Ad,Nat.reduceAdd,Nat.reduceEqDiff,↓reduceIte];generalize xs 0=y0,xs 1=y1,xs 2=y2,xs 3=y3,xs 4=y4,xs 5=y5,xs 6=y6,xs 7=y7,xs 8=y8,xs 9=y9,xs 10=y10,xs 11=y11 at *
   replace hG:Ext w wx∧EB wx B e∧IB wx (B+1) 47 (List.replicate 16 0)∧Hid (wx.heap[B+1+1]?=some (.cells #[.func (.func 87) #[] #[],.func (.func 88) #[] #[],.func (.func 89) #[] #[],.func (.func 90) #[] #[],.func (.func 91) #[] #[]] 105 (0,0)))∧IB wx (B+1+1+1) 47 (if Lx 11=true then mixI (prd m e) (List.replicate 16 0) (k+1)else mixI (prd m e) (List.replicate 16 0) k):=hG
   rw[l11,ifT]at hG;clear G0;obtain⟨E5,s0,s1,X5,s3⟩:=hG;go_wp2;go_roundw
   case rel=>exact⟨k+1,by omega,by go_num,E5,s0,s1,X5,s3⟩
   case measure=>simp[intOf];omega
  ·obtain rfl:k=16:=by omega
   rw[AY _ _ 16 HI.out lenZ]at r3;go_wp2_with (first|(refine Ab 47 _ rfl rfl r3 0 16 rfl _ Rm rfl Ag (by rw[HI.out];omega) _ (by rw[Ak _ _ (HI.out)]) ?_)|(refine Af 47 _ _ rfl rfl r1 0 16 rfl _ rfl _ rfl Ag (HI.out) (by simp) ?_;intro w6 p6 g6;refine Hid.out ?_))
   rw[Ap (by rw[HI.out];simp)]at p6;have E6:Ext w w6:=Ext.grown E4 g6 (fun q hq=>by cases hq;omega);refine Aa ?_;go_wp2;exact bodyPost_ret (v := .agg (ic (prd m e))) (results_cell_row rfl _ _ (B+1) 47 (ic (prd m e)) (0,0) _ rfl p6 Rm rfl (by rw[AJ,A9];exact Ag)) rfl ⟨rfl,E6⟩
theorem Z7 (e:Ed)(m:Nat)(w:World)(ok:e.ok)(hm:m≤4):
 Calls Tryz.prog 46 #[.agg (edC e),.int .i64 (m:Nat)] w fun r w'=>r= .returned (.agg (ic (prd m e)))∧Ext w w':=by
 match m,hm with
 | 0,_=>exact C4 e 0 87 w ok (by omega) (fun wz b h=>by obtain⟨f0,f1,f2,f3,f4⟩:=bx5m h;exact f0) (fun vs wz=>rfl) (fun k wz hk=>J8 e _ _ wz ok)
 | 1,_=>exact C4 e 1 88 w ok (by omega) (fun wz b h=>by obtain⟨f0,f1,f2,f3,f4⟩:=bx5m h;exact f1) (fun vs wz=>rfl) (fun k wz hk=>Lr e (k%4) (k/4) wz ok (by omega) (by omega))
 | 2,_=>exact C4 e 2 89 w ok (by omega) (fun wz b h=>by obtain⟨f0,f1,f2,f3,f4⟩:=bx5m h;exact f2) (fun vs wz=>rfl) (fun k wz hk=>Jz e (k%4) (k/4) wz ok (by omega) (by omega))
 | 3,_=>exact C4 e 3 90 w ok (by omega) (fun wz b h=>by obtain⟨f0,f1,f2,f3,f4⟩:=bx5m h;exact f3) (fun vs wz=>rfl) (fun k wz hk=>KR e (k%4) (k/4) wz ok (by omega) (by omega))
 | 4,_=>exact C4 e 4 91 w ok (by omega) (fun wz b h=>by obtain⟨f0,f1,f2,f3,f4⟩:=bx5m h;exact f4) (fun vs wz=>rfl) (fun k wz hk=>OJ e (k%4) (k/4) wz ok (by omega) (by omega))
theorem LO (e:Ed)(w:World)(ok:e.ok):
 Calls Tryz.prog 73 #[.int .i64 0,.agg (edC e)] w fun r w'=>r= .returned (.agg (ic (prd 0 e)))∧Ext w w':=by
 have OK:=Aa ok;have HI:=Aa (A9 0 e);have Hm:=Aa (fun(k:Nat) (hk:k<16)=>Gn 0 e hk);have a2:=Ext.alloc (w.alloc (.cells (edC e) 67)) (.cells (ic (List.replicate 16 0)) 47);have a3:=Ext.alloc ((w.alloc (.cells (edC e) 67)).alloc (.cells (ic (List.replicate 16 0)) 47)) (.cells (ic (List.replicate 16 0)) 47);have p0:=((EB.new w e).ext a2).ext a3;have p1:=(IB.new (w.alloc (.cells (edC e) 67)) 47 (List.replicate 16 0)).ext a3;have p2:=IB.new ((w.alloc (.cells (edC e) 67)).alloc (.cells (ic (List.replicate 16 0)) 47)) 47 (List.replicate 16 0);have E1:=((Ext.alloc w (.cells (edC e) 67)).trans a2).trans a3;simp only[World.size_alloc]at p1 p2;clear a2 a3 ok;go_enter Tryz.func73,Tryz.ntmps73
 go_wp2_with (refine AA 67 _ rfl rfl p0 rfl _ Rq rfl 11 Aq (As OK.out.ln) ?_)
 try simp only[World.size_alloc]
 obtain⟨B,hB⟩:∃ B,B=w.heap.size:=⟨_,rfl⟩;rw[←hB]at p0 p1 p2⊢;have hwB:w.heap.size≤B:=by omega
 have HB:=Aa hB;clear hB;refine(DI e _ OK.out).mono ?_
 rintro r w0 ⟨rfl,e0⟩
 have q0:=p0.ext e0;have q1:=p1.ext e0;have q2:=p2.ext e0;have E2:=E1.trans e0;clear p0 p1 p2 E1 e0;go_wp2_with fail
 go_loopw [7] (fun y wr=>∃ Y:Nat,Y≤4∧y= .int .i64 Y∧Ext w wr∧EB wr B e∧IB wr (B+1) 47 (List.replicate 16 0)∧IB wr (B+1+1) 47 (mixI (prd 0 e) (List.replicate 16 0) (4*Y))) (fun y _=>4-(intOf y).toNat)
 case atStart=>exact⟨0,by omega,rfl,E2,q0,q1,by rw[AO];exact q2⟩
 case round =>
  obtain⟨Y,hY,rfl,E4,s0,s1,s2⟩:=hrel;obtain⟨wo,rfl⟩:∃ wo:World,wo=wr:=⟨_,rfl⟩;clear q0 q1 q2 E2
  by_cases hltY:Y<4
  ·have hdY:decide ((Y:Int)<4)=true:=by simp;omega
   go_wp2_with fail
   go_loopw [8] (fun x wr=>∃ X:Nat,X≤4∧x= .int .i64 X∧Ext w wr∧EB wr B e∧IB wr (B+1) 47 (List.replicate 16 0)∧IB wr (B+1+1) 47 (mixI (prd 0 e) (List.replicate 16 0) (4*Y+X))) (fun x _=>4-(intOf x).toNat)
   case atStart=>exact⟨0,by omega,rfl,E4,s0,s1,s2⟩
   case round =>
    obtain⟨X,hX,rfl,E5,r0,r1,r2⟩:=hrel;clear E4 s0 s1 s2
    by_cases hltX:X<4
    ·have hdX:decide ((X:Int)<4)=true:=by simp;omega
     have hs:=Hm.out (4*Y+X) (by omega);rw[show(4*Y+X)%4=X by omega,show(4*Y+X)/4=Y by omega]at hs;have Hset:=Aa hs;clear hs;obtain⟨w1,rfl⟩:∃ w1:World,w1=wr:=⟨_,rfl⟩;have hv:prd1 0 e X Y=mean e:=rfl;have Hv:=Aa hv;clear hv;rw[Hv.out]at Hset;have E5':=E5;have r0':=r0;have r1':=r1;have r2':=r2;clear E5 r0 r1 r2;have cB:=r2'.cell (i:=4*Y+X) (by rw[AE _ _ _ 16 HI.out lenZ];omega);have fB:=r2'.frozen (4*Y+X);go_wp2;go_roundw
     case rel =>
      have t2:=r2'.set (4*Y+X) (mean e);rw[Hset.out]at t2;exact⟨X+1,by omega,by go_num,sC _ _ _ _ (by omega) E5',r0'.set_other (by omega),r1'.set_other (by omega),t2⟩
     case measure=>simp[intOf];omega
    ·obtain rfl:X=4:=by omega
     go_wp2;go_roundw
     case rel=>exact⟨Y+1,by omega,by go_num,E5,r0,r1,by rw[mul4];exact r2⟩
     case measure=>simp[intOf];omega
  ·obtain rfl:Y=4:=by omega
   rw[show 4*4=16 from rfl,AY _ _ 16 HI.out lenZ]at s2;go_wp2_with (first|(refine Ab 47 _ rfl rfl s2 0 16 rfl _ Rm rfl Ag (by rw[HI.out];omega) _ (by rw[Ak _ _ (HI.out)]) ?_)|(refine Af 47 _ _ rfl rfl s1 0 16 rfl _ rfl _ rfl Ag (HI.out) (by simp) ?_;intro w6 p6 g6;refine Hid.out ?_))
   rw[Ap (by rw[HI.out];simp)]at p6;have E6:Ext w w6:=Ext.grown E4 g6 (fun q hq=>by cases hq;omega);refine Aa ?_;go_wp2;exact bodyPost_ret (v := .agg (ic (prd 0 e))) (results_cell_row rfl _ _ (B+1) 47 (ic (prd 0 e)) (0,0) _ rfl p6 Rm rfl (by rw[AJ,A9];exact Ag)) rfl ⟨rfl,E6⟩
theorem LP (e:Ed)(w:World)(ok:e.ok):
 Calls Tryz.prog 73 #[.int .i64 1,.agg (edC e)] w fun r w'=>r= .returned (.agg (ic (prd 1 e)))∧Ext w w':=by
 have OK:=Aa ok;have HI:=Aa (A9 1 e);have Hm:=Aa (fun(k:Nat) (hk:k<16)=>Gn 1 e hk);have a2:=Ext.alloc (w.alloc (.cells (edC e) 67)) (.cells (ic (List.replicate 16 0)) 47);have a3:=Ext.alloc ((w.alloc (.cells (edC e) 67)).alloc (.cells (ic (List.replicate 16 0)) 47)) (.cells (ic (List.replicate 16 0)) 47);have p0:=((EB.new w e).ext a2).ext a3;have p1:=(IB.new (w.alloc (.cells (edC e) 67)) 47 (List.replicate 16 0)).ext a3;have p2:=IB.new ((w.alloc (.cells (edC e) 67)).alloc (.cells (ic (List.replicate 16 0)) 47)) 47 (List.replicate 16 0);have E1:=((Ext.alloc w (.cells (edC e) 67)).trans a2).trans a3;simp only[World.size_alloc]at p1 p2;clear a2 a3 ok;go_enter Tryz.func73,Tryz.ntmps73
 go_wp2_with (refine AA 67 _ rfl rfl p0 rfl _ Rq rfl 11 Aq (As OK.out.ln) ?_)
 try simp only[World.size_alloc]
 obtain⟨B,hB⟩:∃ B,B=w.heap.size:=⟨_,rfl⟩;rw[←hB]at p0 p1 p2⊢;have hwB:w.heap.size≤B:=by omega
 have HB:=Aa hB;clear hB;refine(DI e _ OK.out).mono ?_
 rintro r w0 ⟨rfl,e0⟩
 have q0:=p0.ext e0;have q1:=p1.ext e0;have q2:=p2.ext e0;have E2:=E1.trans e0;clear p0 p1 p2 E1 e0;go_wp2_with fail
 go_loopw [7] (fun y wr=>∃ Y:Nat,Y≤4∧y= .int .i64 Y∧Ext w wr∧EB wr B e∧IB wr (B+1) 47 (List.replicate 16 0)∧IB wr (B+1+1) 47 (mixI (prd 1 e) (List.replicate 16 0) (4*Y))) (fun y _=>4-(intOf y).toNat)
 case atStart=>exact⟨0,by omega,rfl,E2,q0,q1,by rw[AO];exact q2⟩
 case round =>
  obtain⟨Y,hY,rfl,E4,s0,s1,s2⟩:=hrel;obtain⟨wo,rfl⟩:∃ wo:World,wo=wr:=⟨_,rfl⟩;clear q0 q1 q2 E2
  by_cases hltY:Y<4
  ·have hdY:decide ((Y:Int)<4)=true:=by simp;omega
   go_wp2_with fail
   go_loopw [8] (fun x wr=>∃ X:Nat,X≤4∧x= .int .i64 X∧Ext w wr∧EB wr B e∧IB wr (B+1) 47 (List.replicate 16 0)∧IB wr (B+1+1) 47 (mixI (prd 1 e) (List.replicate 16 0) (4*Y+X))) (fun x _=>4-(intOf x).toNat)
   case atStart=>exact⟨0,by omega,rfl,E4,s0,s1,s2⟩
   case round =>
    obtain⟨X,hX,rfl,E5,r0,r1,r2⟩:=hrel;clear E4 s0 s1 s2
    by_cases hltX:X<4
    ·have hdX:decide ((X:Int)<4)=true:=by simp;omega
     have hs:=Hm.out (4*Y+X) (by omega);rw[show(4*Y+X)%4=X by omega,show(4*Y+X)/4=Y by omega]at hs;have Hset:=Aa hs;clear hs;obtain⟨w1,rfl⟩:∃ w1:World,w1=wr:=⟨_,rfl⟩;have Hv:=Aa (show prd1 1 e X Y=nth e.ab X from rfl);have ca:=r0.ab OK.out.ln hltX;generalize nth e.ab X=va at *;rw[Hv.out]at Hset;have E5':=E5;have r0':=r0;have r1':=r1;have r2':=r2;clear E5 r0 r1 r2;have cB:=r2'.cell (i:=4*Y+X) (by rw[AE _ _ _ 16 HI.out lenZ];omega);have fB:=r2'.frozen (4*Y+X);go_wp2;go_roundw
     case rel =>
      have t2:=r2'.set (4*Y+X) va;rw[Hset.out]at t2;exact⟨X+1,by omega,by go_num,sC _ _ _ _ (by omega) E5',r0'.set_other (by omega),r1'.set_other (by omega),t2⟩
     case measure=>simp[intOf];omega
    ·obtain rfl:X=4:=by omega
     go_wp2;go_roundw
     case rel=>exact⟨Y+1,by omega,by go_num,E5,r0,r1,by rw[mul4];exact r2⟩
     case measure=>simp[intOf];omega
  ·obtain rfl:Y=4:=by omega
   rw[show 4*4=16 from rfl,AY _ _ 16 HI.out lenZ]at s2;go_wp2_with (first|(refine Ab 47 _ rfl rfl s2 0 16 rfl _ Rm rfl Ag (by rw[HI.out];omega) _ (by rw[Ak _ _ (HI.out)]) ?_)|(refine Af 47 _ _ rfl rfl s1 0 16 rfl _ rfl _ rfl Ag (HI.out) (by simp) ?_;intro w6 p6 g6;refine Hid.out ?_))
   rw[Ap (by rw[HI.out];simp)]at p6;have E6:Ext w w6:=Ext.grown E4 g6 (fun q hq=>by cases hq;omega);refine Aa ?_;go_wp2;exact bodyPost_ret (v := .agg (ic (prd 1 e))) (results_cell_row rfl _ _ (B+1) 47 (ic (prd 1 e)) (0,0) _ rfl p6 Rm rfl (by rw[AJ,A9];exact Ag)) rfl ⟨rfl,E6⟩
theorem LQ (e:Ed)(w:World)(ok:e.ok):
 Calls Tryz.prog 73 #[.int .i64 2,.agg (edC e)] w fun r w'=>r= .returned (.agg (ic (prd 2 e)))∧Ext w w':=by
 have OK:=Aa ok;have HI:=Aa (A9 2 e);have Hm:=Aa (fun(k:Nat) (hk:k<16)=>Gn 2 e hk);have a2:=Ext.alloc (w.alloc (.cells (edC e) 67)) (.cells (ic (List.replicate 16 0)) 47);have a3:=Ext.alloc ((w.alloc (.cells (edC e) 67)).alloc (.cells (ic (List.replicate 16 0)) 47)) (.cells (ic (List.replicate 16 0)) 47);have p0:=((EB.new w e).ext a2).ext a3;have p1:=(IB.new (w.alloc (.cells (edC e) 67)) 47 (List.replicate 16 0)).ext a3;have p2:=IB.new ((w.alloc (.cells (edC e) 67)).alloc (.cells (ic (List.replicate 16 0)) 47)) 47 (List.replicate 16 0);have E1:=((Ext.alloc w (.cells (edC e) 67)).trans a2).trans a3;simp only[World.size_alloc]at p1 p2;clear a2 a3 ok;go_enter Tryz.func73,Tryz.ntmps73
 go_wp2_with (refine AA 67 _ rfl rfl p0 rfl _ Rq rfl 11 Aq (As OK.out.ln) ?_)
 try simp only[World.size_alloc]
 obtain⟨B,hB⟩:∃ B,B=w.heap.size:=⟨_,rfl⟩;rw[←hB]at p0 p1 p2⊢;have hwB:w.heap.size≤B:=by omega
 have HB:=Aa hB;clear hB;refine(DI e _ OK.out).mono ?_
 rintro r w0 ⟨rfl,e0⟩
 have q0:=p0.ext e0;have q1:=p1.ext e0;have q2:=p2.ext e0;have E2:=E1.trans e0;clear p0 p1 p2 E1 e0;go_wp2_with fail
 go_loopw [7] (fun y wr=>∃ Y:Nat,Y≤4∧y= .int .i64 Y∧Ext w wr∧EB wr B e∧IB wr (B+1) 47 (List.replicate 16 0)∧IB wr (B+1+1) 47 (mixI (prd 2 e) (List.replicate 16 0) (4*Y))) (fun y _=>4-(intOf y).toNat)
 case atStart=>exact⟨0,by omega,rfl,E2,q0,q1,by rw[AO];exact q2⟩
 case round =>
  obtain⟨Y,hY,rfl,E4,s0,s1,s2⟩:=hrel;obtain⟨wo,rfl⟩:∃ wo:World,wo=wr:=⟨_,rfl⟩;clear q0 q1 q2 E2
  by_cases hltY:Y<4
  ·have hdY:decide ((Y:Int)<4)=true:=by simp;omega
   go_wp2_with fail
   go_loopw [8] (fun x wr=>∃ X:Nat,X≤4∧x= .int .i64 X∧Ext w wr∧EB wr B e∧IB wr (B+1) 47 (List.replicate 16 0)∧IB wr (B+1+1) 47 (mixI (prd 2 e) (List.replicate 16 0) (4*Y+X))) (fun x _=>4-(intOf x).toNat)
   case atStart=>exact⟨0,by omega,rfl,E4,s0,s1,s2⟩
   case round =>
    obtain⟨X,hX,rfl,E5,r0,r1,r2⟩:=hrel;clear E4 s0 s1 s2
    by_cases hltX:X<4
    ·have hdX:decide ((X:Int)<4)=true:=by simp;omega
     have hs:=Hm.out (4*Y+X) (by omega);rw[show(4*Y+X)%4=X by omega,show(4*Y+X)/4=Y by omega]at hs;have Hset:=Aa hs;clear hs;obtain⟨w1,rfl⟩:∃ w1:World,w1=wr:=⟨_,rfl⟩;have Hv:=Aa (show prd1 2 e X Y=nth e.lf Y from rfl);have ca:=r0.lf OK.out.ln hltY;generalize nth e.lf Y=va at *;rw[Hv.out]at Hset;have E5':=E5;have r0':=r0;have r1':=r1;have r2':=r2;clear E5 r0 r1 r2;have cB:=r2'.cell (i:=4*Y+X) (by rw[AE _ _ _ 16 HI.out lenZ];omega);have fB:=r2'.frozen (4*Y+X);go_wp2;go_roundw
     case rel =>
      have t2:=r2'.set (4*Y+X) va;rw[Hset.out]at t2;exact⟨X+1,by omega,by go_num,sC _ _ _ _ (by omega) E5',r0'.set_other (by omega),r1'.set_other (by omega),t2⟩
     case measure=>simp[intOf];omega
    ·obtain rfl:X=4:=by omega
     go_wp2;go_roundw
     case rel=>exact⟨Y+1,by omega,by go_num,E5,r0,r1,by rw[mul4];exact r2⟩
     case measure=>simp[intOf];omega
  ·obtain rfl:Y=4:=by omega
   rw[show 4*4=16 from rfl,AY _ _ 16 HI.out lenZ]at s2;go_wp2_with (first|(refine Ab 47 _ rfl rfl s2 0 16 rfl _ Rm rfl Ag (by rw[HI.out];omega) _ (by rw[Ak _ _ (HI.out)]) ?_)|(refine Af 47 _ _ rfl rfl s1 0 16 rfl _ rfl _ rfl Ag (HI.out) (by simp) ?_;intro w6 p6 g6;refine Hid.out ?_))
   rw[Ap (by rw[HI.out];simp)]at p6;have E6:Ext w w6:=Ext.grown E4 g6 (fun q hq=>by cases hq;omega);refine Aa ?_;go_wp2;exact bodyPost_ret (v := .agg (ic (prd 2 e))) (results_cell_row rfl _ _ (B+1) 47 (ic (prd 2 e)) (0,0) _ rfl p6 Rm rfl (by rw[AJ,A9];exact Ag)) rfl ⟨rfl,E6⟩
theorem LR (e:Ed)(w:World)(ok:e.ok):
 Calls Tryz.prog 73 #[.int .i64 3,.agg (edC e)] w fun r w'=>r= .returned (.agg (ic (prd 3 e)))∧Ext w w':=by
 have OK:=Aa ok;have HI:=Aa (A9 3 e);have Hm:=Aa (fun(k:Nat) (hk:k<16)=>Gn 3 e hk);have a2:=Ext.alloc (w.alloc (.cells (edC e) 67)) (.cells (ic (List.replicate 16 0)) 47);have a3:=Ext.alloc ((w.alloc (.cells (edC e) 67)).alloc (.cells (ic (List.replicate 16 0)) 47)) (.cells (ic (List.replicate 16 0)) 47);have p0:=((EB.new w e).ext a2).ext a3;have p1:=(IB.new (w.alloc (.cells (edC e) 67)) 47 (List.replicate 16 0)).ext a3;have p2:=IB.new ((w.alloc (.cells (edC e) 67)).alloc (.cells (ic (List.replicate 16 0)) 47)) 47 (List.replicate 16 0);have E1:=((Ext.alloc w (.cells (edC e) 67)).trans a2).trans a3;simp only[World.size_alloc]at p1 p2;clear a2 a3 ok;go_enter Tryz.func73,Tryz.ntmps73
 go_wp2_with (refine AA 67 _ rfl rfl p0 rfl _ Rq rfl 11 Aq (As OK.out.ln) ?_)
 try simp only[World.size_alloc]
 obtain⟨B,hB⟩:∃ B,B=w.heap.size:=⟨_,rfl⟩;rw[←hB]at p0 p1 p2⊢;have hwB:w.heap.size≤B:=by omega
 have HB:=Aa hB;clear hB;refine(DI e _ OK.out).mono ?_
 rintro r w0 ⟨rfl,e0⟩
 have q0:=p0.ext e0;have q1:=p1.ext e0;have q2:=p2.ext e0;have E2:=E1.trans e0;clear p0 p1 p2 E1 e0;go_wp2_with fail
 go_loopw [7] (fun y wr=>∃ Y:Nat,Y≤4∧y= .int .i64 Y∧Ext w wr∧EB wr B e∧IB wr (B+1) 47 (List.replicate 16 0)∧IB wr (B+1+1) 47 (mixI (prd 3 e) (List.replicate 16 0) (4*Y))) (fun y _=>4-(intOf y).toNat)
 case atStart=>exact⟨0,by omega,rfl,E2,q0,q1,by rw[AO];exact q2⟩
 case round =>
  obtain⟨Y,hY,rfl,E4,s0,s1,s2⟩:=hrel;obtain⟨wo,rfl⟩:∃ wo:World,wo=wr:=⟨_,rfl⟩;clear q0 q1 q2 E2
  by_cases hltY:Y<4
  ·have hdY:decide ((Y:Int)<4)=true:=by simp;omega
   go_wp2_with fail
   go_loopw [8] (fun x wr=>∃ X:Nat,X≤4∧x= .int .i64 X∧Ext w wr∧EB wr B e∧IB wr (B+1) 47 (List.replicate 16 0)∧IB wr (B+1+1) 47 (mixI (prd 3 e) (List.replicate 16 0) (4*Y+X))) (fun x _=>4-(intOf x).toNat)
   case atStart=>exact⟨0,by omega,rfl,E4,s0,s1,s2⟩
   case round =>
    obtain⟨X,hX,rfl,E5,r0,r1,r2⟩:=hrel;clear E4 s0 s1 s2
    by_cases hltX:X<4
    ·have hdX:decide ((X:Int)<4)=true:=by simp;omega
     have hs:=Hm.out (4*Y+X) (by omega);rw[show(4*Y+X)%4=X by omega,show(4*Y+X)/4=Y by omega]at hs;have Hset:=Aa hs;clear hs;obtain⟨w1,rfl⟩:∃ w1:World,w1=wr:=⟨_,rfl⟩;have Hv:=Aa (show prd1 3 e X Y=(bord e (3+X-Y)+2*bord e (4+X-Y)+bord e (5+X-Y)+2)/4 from rfl);have q1:=Cj OK.out (k:=3+X-Y) (by omega);have q2:=Cj OK.out (k:=4+X-Y) (by omega);have q3:=Cj OK.out (k:=5+X-Y) (by omega);have K1:=Aa (show(4:Int)+(X:Int)-(Y:Int)-1=((3+X-Y:Nat):Int) by omega);have K2:=Aa (show(4:Int)+(X:Int)-(Y:Int)=((4+X-Y:Nat):Int) by omega);have K3:=Aa (show(4:Int)+(X:Int)-(Y:Int)+1=((5+X-Y:Nat):Int) by omega);obtain⟨k1,hk1⟩:∃ k,k=3+X-Y:=⟨_,rfl⟩;obtain⟨k2,hk2⟩:∃ k,k=4+X-Y:=⟨_,rfl⟩;obtain⟨k3,hk3⟩:∃ k,k=5+X-Y:=⟨_,rfl⟩;have l1:k1≤8:=by omega
     have l2:k2≤8:=by omega
     have l3:k3≤8:=by omega
     rw[←hk1]at K1 q1 Hv;rw[←hk2]at K2 q2 Hv;rw[←hk3]at K3 q3 Hv;obtain⟨v1,hv1⟩:∃ v,v=bord e k1:=⟨_,rfl⟩;obtain⟨v2,hv2⟩:∃ v,v=bord e k2:=⟨_,rfl⟩;obtain⟨v3,hv3⟩:∃ v,v=bord e k3:=⟨_,rfl⟩;rw[←hv1,←hv2,←hv3]at Hv;rw[←hv1]at q1;rw[←hv2]at q2;rw[←hv3]at q3;have Hv1:=Aa hv1;have Hv2:=Aa hv2;have Hv3:=Aa hv3;clear hk1 hk2 hk3 hv1 hv2 hv3;go_wp2_with fail
     refine An (by kernel_rfl) [(9,18),(42,0),(43,1),(44,2),(45,3),(46,4),(47,5),(48,6),(49,7),(50,8),(51,9),(52,10),(53,11),(54,12),(55,13),(56,14),(57,15),(58,16),(59,17)] [[],[],[1],[1,2],[0,1,2,3],[],[],[0,1,2,3,4,5,6],[0,1,2,3,4,5,6,7],[0,1,2,3,4,5,6,7,8],[],[],[11],[11,12],[0,1,2,3,4,5,6,7,10,11,12,13],[0,1,2,3,4,5,6,7,8,9,10,11,12,13,14],[0,1,2,3,4,5,6,7,8,9,10,11,12,13,14,15],[0,1,2,3,4,5,6,7,8,9,10,11,12,13,14,15,16],[0,1,2,3,4,5,6,7,8,9,10,11,12,13,14,15,16,17]] (fun i own ys wx=>match i with|0=>own= .agg (edC e)|1=>own= .int .i64 (4+(X:Int)-(Y:Int))|2=>own= .int .i64 (k1:Nat)|3=>own= .int .i64 (k1:Nat)|4=>own= .int .i64 v1|5=>own= .agg (edC e)|6=>own= .int .i64 (k2:Nat)|7=>own= .int .i64 v2|8=>own= .int .i64 (2*v2)|9=>own= .int .i64 (v1+2*v2)|10=>own= .agg (edC e)|11=>own= .int .i64 (4+(X:Int)-(Y:Int))|12=>own= .int .i64 (k3:Nat)|13=>own= .int .i64 (k3:Nat)|14=>own= .int .i64 v3|15=>own= .int .i64 (v1+2*v2+v3)|16=>own= .int .i64 (v1+2*v2+v3+2)|17=>own= .int .i64 ((v1+2*v2+v3+2)/4)|18=>own= .int .i64 ((v1+2*v2+v3+2)/4)|_=>True) (fun kx wx=>Ext w1 wx) (by kernel_rfl) (by kernel_rfl) (by kernel_rfl) ?g0_r1 ?gop_r1 ?gend_r1
     case g0_r1=>exact Ext.drewN _ 1
     case gop_r1 =>
      refine⟨?_,?o1,?o2,?o3,?o4,?_,?o6,?o7,?o8,?o9,?_,?o11,?o12,?o13,?o14,?o15,?o16,?o17,?o18,trivial⟩ <;> (intro kx xs wx hk hG hD hI Qo Kx hK hQo;simp only[Ad,Nat.reduceAdd,Nat.reduceEqDiff,↓reduceIte]at hQo⊢)
      case o1 =>
       clear hD hI;go_wp2;exact hK.out _ _ ⟨rfl,hG,kkp⟩
      case o2 =>
       rw[ddq (hD 1 rfl)]at hQo⊢;clear hD hI;go_wp2;exact hK.out _ _ ⟨by rw[←K1.out],hG,fun _ _ _ _ _ _ h=>h⟩
      case o3 =>
       rw[ddq (hD 2 rfl)]at hQo⊢;clear hD hI;go_wp2
       ·exact hK.out _ _ ⟨rfl,hG,fun _ _ _ _ _ _ h=>h⟩
       ·exact hK.out _ _ ⟨by rw[show k1=0 by omega];rfl,hG,fun _ _ _ _ _ _ h=>h⟩
      case o4 =>
       rw[ddq (hD 0 rfl),ddq (hD 3 rfl)]at hQo⊢;clear hD hI;go_wp2_with fail
       refine(DG e k1 _ OK.out (by omega)).mono ?_
       rintro r w9 ⟨rfl,e9⟩
       rw[←Hv1.out];go_wp2;exact hK.out _ _ ⟨rfl,hG.trans e9,fun _ _ _ _ _ _ h=>h⟩
      case o6 =>
       clear hD hI;go_wp2;exact hK.out _ _ ⟨by rw[←K2.out],hG,fun _ _ _ _ _ _ h=>h⟩
      case o7 =>
       rw[ddq (hD 5 rfl),ddq (hD 6 rfl)]at hQo⊢;clear hD hI;go_wp2_with fail
       refine(DG e k2 _ OK.out (by omega)).mono ?_
       rintro r w9 ⟨rfl,e9⟩
       rw[←Hv2.out];go_wp2;exact hK.out _ _ ⟨rfl,hG.trans e9,fun _ _ _ _ _ _ h=>h⟩
      case o8 =>
       rw[ddq (hD 7 rfl)]at hQo⊢;clear hD hI;go_wp2;exact hK.out _ _ ⟨rfl,hG,kkp⟩
      case o9 =>
       rw[ddq (hD 4 rfl),ddq (hD 8 rfl)]at hQo⊢;clear hD hI;go_wp2;exact hK.out _ _ ⟨rfl,hG,kkp⟩
      case o11 =>
       clear hD hI;go_wp2;exact hK.out _ _ ⟨rfl,hG,kkp⟩
      case o12 =>
       rw[ddq (hD 11 rfl)]at hQo⊢;clear hD hI;go_wp2;exact hK.out _ _ ⟨by rw[←K3.out],hG,fun _ _ _ _ _ _ h=>h⟩
      case o13 =>
       rw[ddq (hD 12 rfl)]at hQo⊢;clear hD hI;go_wp2
       ·exact hK.out _ _ ⟨rfl,hG,fun _ _ _ _ _ _ h=>h⟩
       ·exact hK.out _ _ ⟨by rw[show k3=8 by omega];rfl,hG,fun _ _ _ _ _ _ h=>h⟩
      case o14 =>
       rw[ddq (hD 10 rfl),ddq (hD 13 rfl)]at hQo⊢;clear hD hI;go_wp2_with fail
       refine(DG e k3 _ OK.out (by omega)).mono ?_
       rintro r w9 ⟨rfl,e9⟩
       rw[←Hv3.out];go_wp2;exact hK.out _ _ ⟨rfl,hG.trans e9,fun _ _ _ _ _ _ h=>h⟩
      case o15 =>
       rw[ddq (hD 9 rfl),ddq (hD 14 rfl)]at hQo⊢;clear hD hI;go_wp2;exact hK.out _ _ ⟨rfl,hG,kkp⟩
      case o16 =>
       rw[ddq (hD 15 rfl)]at hQo⊢;clear hD hI;go_wp2;exact hK.out _ _ ⟨rfl,hG,kkp⟩
      case o17 =>
       rw[ddq (hD 16 rfl)]at hQo⊢;clear hD hI;go_wp2;exact hK.out _ _ ⟨rfl,hG,kkp⟩
      case o18 =>
       rw[ddq (hD 17 rfl)]at hQo⊢;clear hD hI;go_wp2;exact hK.out _ _ ⟨rfl,hG,kkp⟩
      all_goals
       clear hD hI;go_wp2_with (refine AA 67 _ rfl rfl (r0.ext hG) rfl _ Rq rfl 11 Aq (As OK.out.ln) ?_)
       exact hK.out _ _ ⟨rfl,hG,kkp⟩
     intro xs wx hV hG;have d18:_=_:=hV 18 (by decide);clear hV;simp only[Ad,Nat.reduceAdd,Nat.reduceEqDiff,↓reduceIte];generalize xs 0=y0,xs 1=y1,xs 2=y2,xs 3=y3,xs 4=y4,xs 5=y5,xs 6=y6,xs 7=y7,xs 8=y8,xs 9=y9,xs 10=y10,xs 11=y11,xs 12=y12,xs 13=y13,xs 14=y14,xs 15=y15,xs 16=y16,xs 17=y17,xs 18=y18 at *
     replace hG:Ext w1 wx:=hG
     subst d18;rw[Hv.out]at Hset;have E5':=E5.trans hG;have r0':=r0.ext hG;have r1':=r1.ext hG;have r2':=r2.ext hG;clear E5 r0 r1 r2 hG;have cB:=r2'.cell (i:=4*Y+X) (by rw[AE _ _ _ 16 HI.out lenZ];omega);have fB:=r2'.frozen (4*Y+X);go_wp2;go_roundw
     case rel =>
      have t2:=r2'.set (4*Y+X) ((v1+2*v2+v3+2)/4);rw[Hset.out]at t2;exact⟨X+1,by omega,by go_num,sC _ _ _ _ (by omega) E5',r0'.set_other (by omega),r1'.set_other (by omega),t2⟩
     case measure=>simp[intOf];omega
    ·obtain rfl:X=4:=by omega
     go_wp2;go_roundw
     case rel=>exact⟨Y+1,by omega,by go_num,E5,r0,r1,by rw[mul4];exact r2⟩
     case measure=>simp[intOf];omega
  ·obtain rfl:Y=4:=by omega
   rw[show 4*4=16 from rfl,AY _ _ 16 HI.out lenZ]at s2;go_wp2_with (first|(refine Ab 47 _ rfl rfl s2 0 16 rfl _ Rm rfl Ag (by rw[HI.out];omega) _ (by rw[Ak _ _ (HI.out)]) ?_)|(refine Af 47 _ _ rfl rfl s1 0 16 rfl _ rfl _ rfl Ag (HI.out) (by simp) ?_;intro w6 p6 g6;refine Hid.out ?_))
   rw[Ap (by rw[HI.out];simp)]at p6;have E6:Ext w w6:=Ext.grown E4 g6 (fun q hq=>by cases hq;omega);refine Aa ?_;go_wp2;exact bodyPost_ret (v := .agg (ic (prd 3 e))) (results_cell_row rfl _ _ (B+1) 47 (ic (prd 3 e)) (0,0) _ rfl p6 Rm rfl (by rw[AJ,A9];exact Ag)) rfl ⟨rfl,E6⟩
theorem LS (e:Ed)(w:World)(ok:e.ok):
 Calls Tryz.prog 73 #[.int .i64 4,.agg (edC e)] w fun r w'=>r= .returned (.agg (ic (prd 4 e)))∧Ext w w':=by
 have OK:=Aa ok;have HI:=Aa (A9 4 e);have Hm:=Aa (fun(k:Nat) (hk:k<16)=>Gn 4 e hk);have a2:=Ext.alloc (w.alloc (.cells (edC e) 67)) (.cells (ic (List.replicate 16 0)) 47);have a3:=Ext.alloc ((w.alloc (.cells (edC e) 67)).alloc (.cells (ic (List.replicate 16 0)) 47)) (.cells (ic (List.replicate 16 0)) 47);have p0:=((EB.new w e).ext a2).ext a3;have p1:=(IB.new (w.alloc (.cells (edC e) 67)) 47 (List.replicate 16 0)).ext a3;have p2:=IB.new ((w.alloc (.cells (edC e) 67)).alloc (.cells (ic (List.replicate 16 0)) 47)) 47 (List.replicate 16 0);have E1:=((Ext.alloc w (.cells (edC e) 67)).trans a2).trans a3;simp only[World.size_alloc]at p1 p2;clear a2 a3 ok;go_enter Tryz.func73,Tryz.ntmps73
 go_wp2_with (refine AA 67 _ rfl rfl p0 rfl _ Rq rfl 11 Aq (As OK.out.ln) ?_)
 try simp only[World.size_alloc]
 obtain⟨B,hB⟩:∃ B,B=w.heap.size:=⟨_,rfl⟩;rw[←hB]at p0 p1 p2⊢;have hwB:w.heap.size≤B:=by omega
 have HB:=Aa hB;clear hB;refine(DI e _ OK.out).mono ?_
 rintro r w0 ⟨rfl,e0⟩
 have q0:=p0.ext e0;have q1:=p1.ext e0;have q2:=p2.ext e0;have E2:=E1.trans e0;clear p0 p1 p2 E1 e0;go_wp2_with fail
 go_loopw [7] (fun y wr=>∃ Y:Nat,Y≤4∧y= .int .i64 Y∧Ext w wr∧EB wr B e∧IB wr (B+1) 47 (List.replicate 16 0)∧IB wr (B+1+1) 47 (mixI (prd 4 e) (List.replicate 16 0) (4*Y))) (fun y _=>4-(intOf y).toNat)
 case atStart=>exact⟨0,by omega,rfl,E2,q0,q1,by rw[AO];exact q2⟩
 case round =>
  obtain⟨Y,hY,rfl,E4,s0,s1,s2⟩:=hrel;obtain⟨wo,rfl⟩:∃ wo:World,wo=wr:=⟨_,rfl⟩;clear q0 q1 q2 E2
  by_cases hltY:Y<4
  ·have hdY:decide ((Y:Int)<4)=true:=by simp;omega
   go_wp2_with fail
   go_loopw [8] (fun x wr=>∃ X:Nat,X≤4∧x= .int .i64 X∧Ext w wr∧EB wr B e∧IB wr (B+1) 47 (List.replicate 16 0)∧IB wr (B+1+1) 47 (mixI (prd 4 e) (List.replicate 16 0) (4*Y+X))) (fun x _=>4-(intOf x).toNat)
   case atStart=>exact⟨0,by omega,rfl,E4,s0,s1,s2⟩
   case round =>
    obtain⟨X,hX,rfl,E5,r0,r1,r2⟩:=hrel;clear E4 s0 s1 s2
    by_cases hltX:X<4
    ·have hdX:decide ((X:Int)<4)=true:=by simp;omega
     have hs:=Hm.out (4*Y+X) (by omega);rw[show(4*Y+X)%4=X by omega,show(4*Y+X)/4=Y by omega]at hs;have Hset:=Aa hs;clear hs;obtain⟨w1,rfl⟩:∃ w1:World,w1=wr:=⟨_,rfl⟩;have Hv:=Aa (show prd1 4 e X Y=AZ (nth e.ab X+nth e.lf Y-e.co) 0 255 from rfl);have ha:=AD OK.out.sab (i:=X) (by rw[OK.out.ab];exact hltX);have hf:=AD OK.out.slf (i:=Y) (by rw[OK.out.lf];exact hltY);have hc:=OK.out.sco;have CA:=Aa (r0.ab OK.out.ln hltX);have CL:=Aa (r0.lf OK.out.ln hltY);have CC:=Aa (r0.co OK.out.ln);generalize nth e.ab X=va at *;generalize nth e.lf Y=vl at *;obtain⟨v,hv⟩:∃ v,v=AZ (va+vl-e.co) 0 255:=⟨_,rfl⟩;rw[←hv]at Hv;have HV:=Aa hv;clear hv;go_wp2_with fail
     refine An (by kernel_rfl) [(9,13),(62,0),(63,1),(64,2),(65,3),(66,4),(67,5),(68,6),(69,7),(70,8),(71,9),(72,10),(73,11),(74,12)] [[],[],[0,1],[0,1,2],[],[],[4,5],[4,5,6],[0,1,2,3,4,5,6,7],[],[9],[0,1,2,3,4,5,6,7,8,9,10],[0,1,2,3,4,5,6,7,8,9,10,11],[0,1,2,3,4,5,6,7,8,9,10,11,12]] (fun i own ys wx=>match i with|0=>own= .int .i64 (X:Nat)|1=>own= .pointer (some ⟨B,0,none⟩)|2=>own= .pointer (some ⟨B,X,none⟩)|3=>own= .int .i64 va|4=>own= .int .i64 (Y:Nat)|5=>own= .pointer (some ⟨B,4,none⟩)|6=>own= .pointer (some ⟨B,4+Y,none⟩)|7=>own= .int .i64 vl|8=>own= .int .i64 (va+vl)|9=>own= .pointer (some ⟨B,8,none⟩)|10=>own= .int .i64 e.co|11=>own= .int .i64 (va+vl-e.co)|12=>own= .int .i64 v|13=>own= .int .i64 v|_=>True) (fun kx wx=>Ext w1 wx) (by kernel_rfl) (by kernel_rfl) (by kernel_rfl) ?g0_r2 ?gop_r2 ?gend_r2
     case g0_r2=>exact Ext.drewN _ 1
     case gop_r2 =>
      refine⟨?_,?_,?o2,?o3,?_,?_,?o6,?o7,?o8,?_,?o10,?o11,?o12,?o13,trivial⟩ <;> (intro kx xs wx hk hG hD hI Qo Kx hK hQo;simp only[Ad,Nat.reduceAdd,Nat.reduceEqDiff,↓reduceIte]at hQo⊢)
      case o2 =>
       rw[ddq (hD 0 rfl),ddq (hD 1 rfl)]at hQo⊢;clear hD hI;go_wp2;exact hK.out _ _ ⟨rfl,hG,kkp⟩
      case o3 =>
       rw[ddq (hD 2 rfl)]at hQo⊢;clear hD hI;have cx:=AI hG CA.out;go_wp2;exact hK.out _ _ ⟨rfl,hG,kkp⟩
      case o6 =>
       rw[ddq (hD 4 rfl),ddq (hD 5 rfl)]at hQo⊢;clear hD hI;go_wp2;exact hK.out _ _ ⟨rfl,hG,kkp⟩
      case o7 =>
       rw[ddq (hD 6 rfl)]at hQo⊢;clear hD hI;have cx:=AI hG CL.out;go_wp2;exact hK.out _ _ ⟨rfl,hG,kkp⟩
      case o8 =>
       rw[ddq (hD 3 rfl),ddq (hD 7 rfl)]at hQo⊢;clear hD hI;go_wp2;exact hK.out _ _ ⟨rfl,hG,kkp⟩
      case o10 =>
       rw[ddq (hD 9 rfl)]at hQo⊢;clear hD hI;have cx:=AI hG CC.out;go_wp2;exact hK.out _ _ ⟨rfl,hG,kkp⟩
      case o11 =>
       rw[ddq (hD 8 rfl),ddq (hD 10 rfl)]at hQo⊢;clear hD hI;go_wp2;exact hK.out _ _ ⟨rfl,hG,kkp⟩
      case o12 =>
       rw[ddq (hD 11 rfl)]at hQo⊢;clear hD hI;go_wp2_with fail
       refine(DF _ _ _ _).mono ?_
       rintro r w9 ⟨rfl,rfl⟩
       rw[←HV.out];go_wp2;exact hK.out _ _ ⟨rfl,hG,kkp⟩
      case o13 =>
       rw[ddq (hD 12 rfl)]at hQo⊢;clear hD hI;go_wp2;exact hK.out _ _ ⟨rfl,hG,kkp⟩
      all_goals
       clear hD hI;go_wp2;exact hK.out _ _ ⟨rfl,hG,kkp⟩
     intro xs wx hV hG;have d13:_=_:=hV 13 (by decide);clear hV;simp only[Ad,Nat.reduceAdd,Nat.reduceEqDiff,↓reduceIte];generalize xs 0=y0,xs 1=y1,xs 2=y2,xs 3=y3,xs 4=y4,xs 5=y5,xs 6=y6,xs 7=y7,xs 8=y8,xs 9=y9,xs 10=y10,xs 11=y11,xs 12=y12,xs 13=y13 at *
     replace hG:Ext w1 wx:=hG
     subst d13;rw[Hv.out]at Hset;have E5':=E5.trans hG;have r0':=r0.ext hG;have r1':=r1.ext hG;have r2':=r2.ext hG;clear E5 r0 r1 r2 hG;have cB:=r2'.cell (i:=4*Y+X) (by rw[AE _ _ _ 16 HI.out lenZ];omega);have fB:=r2'.frozen (4*Y+X);go_wp2;go_roundw
     case rel =>
      have t2:=r2'.set (4*Y+X) v;rw[Hset.out]at t2;exact⟨X+1,by omega,by go_num,sC _ _ _ _ (by omega) E5',r0'.set_other (by omega),r1'.set_other (by omega),t2⟩
     case measure=>simp[intOf];omega
    ·obtain rfl:X=4:=by omega
     go_wp2;go_roundw
     case rel=>exact⟨Y+1,by omega,by go_num,E5,r0,r1,by rw[mul4];exact r2⟩
     case measure=>simp[intOf];omega
  ·obtain rfl:Y=4:=by omega
   rw[show 4*4=16 from rfl,AY _ _ 16 HI.out lenZ]at s2;go_wp2_with (first|(refine Ab 47 _ rfl rfl s2 0 16 rfl _ Rm rfl Ag (by rw[HI.out];omega) _ (by rw[Ak _ _ (HI.out)]) ?_)|(refine Af 47 _ _ rfl rfl s1 0 16 rfl _ rfl _ rfl Ag (HI.out) (by simp) ?_;intro w6 p6 g6;refine Hid.out ?_))
   rw[Ap (by rw[HI.out];simp)]at p6;have E6:Ext w w6:=Ext.grown E4 g6 (fun q hq=>by cases hq;omega);refine Aa ?_;go_wp2;exact bodyPost_ret (v := .agg (ic (prd 4 e))) (results_cell_row rfl _ _ (B+1) 47 (ic (prd 4 e)) (0,0) _ rfl p6 Rm rfl (by rw[AJ,A9];exact Ag)) rfl ⟨rfl,E6⟩
theorem D9 (e:Ed)(m:Nat)(w:World)(ok:e.ok)(hm:m≤4):
 Calls Tryz.prog 73 #[.int .i64 (m:Nat),.agg (edC e)] w fun r w'=>r= .returned (.agg (ic (prd m e)))∧Ext w w':=by
 match m,hm with
 | 0,_=>exact LO e w ok
 | 1,_=>exact LP e w ok
 | 2,_=>exact LQ e w ok
 | 3,_=>exact LR e w ok
 | 4,_=>exact LS e w ok
theorem GF (x:Int)(w:World)(h1:8≤x)(h2:x≤32)(h3:x%8=0):
 Calls Tryz.prog 37 #[.int .i64 x] w fun e w'=>e= .returned (.bool true)∧w=w':=by
 have hm:=Aa h3;clear h3;go_enter Tryz.func37,Tryz.ntmps37
 go_wp2;go_ret
 exact⟨by simp[hm.out],rfl⟩
theorem Dc (x:Int)(w:World)(h1:0≤x)(h2:x≤255):
 Calls Tryz.prog 39 #[.int .i64 x] w fun e w'=>e= .returned (.bool true)∧w=w':=by
 go_enter Tryz.func39,Tryz.ntmps39
 go_wp2;go_ret
 exact⟨by simp,rfl⟩
theorem Fq (x y v:Int)(n:Nat)(w:World)(hx:8≤x∧x≤32∧x%8=0)(hy:8≤y∧y≤32∧y%8=0)(hv:0≤v∧v≤255)(hn:x*y=n)(hn2:n≤1024):
 Calls Tryz.prog 22 #[.int .i64 x,.int .i64 y,.int .i64 v] w fun e w'=>∃ a c,e= .returned (.agg #[.int .i64 x,.int .i64 y,.slice a n c])∧w'.ownsRow w.heap.size 3 1 (.slice a n c) n (List.replicate n (.int .i64 v))∧Ext w w':=by
 have Hx:=Aa hx;have Hy:=Aa hy;have Hv:=Aa hv;have Hn:=Aa hn;clear hx hy hv hn;go_enter Tryz.func22,Tryz.ntmps22
 go_wp2_with fail
 refine(GF x _ Hx.out.1 Hx.out.2.1 Hx.out.2.2).mono ?_
 rintro e w1 ⟨rfl,rfl⟩
 go_wp2_with fail
 refine(GF y _ Hy.out.1 Hy.out.2.1 Hy.out.2.2).mono ?_
 rintro e w1 ⟨rfl,rfl⟩
 go_wp2_with fail
 refine(Dc v _ Hv.out.1 Hv.out.2).mono ?_
 rintro e w1 ⟨rfl,rfl⟩
 have hb:x*y≤1024:=by rw[Hn.out];omega
 have hb0:0≤x*y:=by rw[Hn.out];omega
 have p0:=Aj w (.cells #[.int .i64 0,.int .i64 0,.slice none 0 0] 30);go_wp2_with (at_make;refine KG _ rfl _ _ 22 rfl 3 (.int .i64 0) 8 Rv Cp rfl _ n rfl rfl Hn.out (by omega) (by omega) ?_;intro w1 hown hgrow)
 have e1:Ext (w.alloc (.cells #[.int .i64 0,.int .i64 0,.slice none 0 0] 30)) w1:=Ext.grown (Below.refl _ _) hgrow (by simp);simp only[World.size_alloc]at hown;have E1:Ext w w1:=Ext.trans (Ext.alloc _ _) e1;have hB:w.heap.size+1<w1.heap.size:=(hown.lt _ rfl).2;have p1:=e1.blk p0;clear p0 e1 hgrow;have p2:=Cy p1 (.cells #[.int .i64 x,.int .i64 y,.slice (some ⟨w.heap.size+1,0,none⟩) n n] 30);have q2:=Aj w1 (.cells #[.int .i64 x,.int .i64 y,.slice (some ⟨w.heap.size+1,0,none⟩) n n] 30);have E2:Ext w (w1.alloc (.cells #[.int .i64 x,.int .i64 y,.slice (some ⟨w.heap.size+1,0,none⟩) n n] 30)):=E1.trans (Ext.alloc _ _);have hsz:w.heap.size+1≤w1.heap.size:=by have:=lt_of_block p1;omega
 have own2:=Ae hown (Ext.alloc w1 (.cells #[.int .i64 x,.int .i64 y,.slice (some ⟨w.heap.size+1,0,none⟩) n n] 30));have H0:=Ig (List.replicate n (.int .i64 v)) (List.replicate n (.int .i64 0));rw[←H0]at own2;clear H0 p1 hown E1;generalize w1.alloc (.cells #[.int .i64 x,.int .i64 y,.slice (some ⟨w.heap.size+1,0,none⟩) n n] 30)=w2 at *;generalize w1.heap.size=B at *;go_loopw [8,33] (fun _ i wr=>∃ k:Nat,k≤n∧i= .int .i64 k∧Ext w wr∧wr.heap[w.heap.size]?=some (.cells #[.int .i64 0,.int .i64 0,.slice none 0 0] 30 (0,0))∧wr.heap[B]?=some (.cells #[.int .i64 x,.int .i64 y,.slice (some ⟨w.heap.size+1,0,none⟩) n n] 30 (0,0))∧wr.ownsRow (w.heap.size+1) 3 1 (.slice (some ⟨w.heap.size+1,0,none⟩) n n) n (mix (List.replicate n (.int .i64 v)) (List.replicate n (.int .i64 0)) k)) (fun _ i _=>n-(intOf i).toNat)
 case atStart=>exact⟨0,by omega,rfl,E2,p2,q2,own2⟩
 case round =>
  obtain⟨k,hk,rfl,E3,p3,q3,own3⟩:=hrel;clear p2 q2 own2 E2;obtain⟨z0,z1,z2,z3,z4,z5,z6⟩:=bx3 q3
  by_cases hlt:k<n
  ·obtain⟨u,g2,-⟩:=Ii own3 hlt;have g3:=own3.frozenAt k;go_wp2;go_roundw
   case rel =>
    obtain⟨o2,gr⟩:=own3.stored k (.int .i64 v);rw[Jd _ _ k (by simp) (by simp[hlt]) _ (by simp[hlt])]at o2;exact⟨k+1,by omega,rfl,Ext.grown E3 gr (by simp),by rw[gr.block _ (lt_of_block p3) (by simp)];exact p3,by rw[gr.block _ (lt_of_block q3) (by simp;omega)];exact q3,o2⟩
   case measure=>simp[intOf];omega
  ·obtain rfl:k=n:=by omega
   rw[Jc _ _ k (by simp) (by simp)]at own3;obtain⟨y0,y1,y2,y3,y4,y5,y6⟩:=bx3 p3;have hne:B≠w.heap.size:=by omega
   go_wp2;have p4:=Fu (x' := .int .i64 x) (y' := .int .i64 y) (z' := .slice (some ⟨w.heap.size+1,0,none⟩) k k) p3;obtain⟨x0,x1,x2,x3,-⟩:=bx3 p4;refine bodyPost_ret (v := .agg #[.int .i64 x,.int .i64 y,.slice (some ⟨w.heap.size+1,0,none⟩) k k]) (by simp[results,Tryz.results22,go_sem,x1,x2,x3]) rfl ⟨_,_,rfl,?_,?_⟩
   ·have hlt:∀ i:Nat,(⟨w.heap.size,i,none⟩:Addr).block<w.heap.size+1:=fun i=>Nat.lt_succ_self _
    exact AH (ownsRow_setCell_below (ownsRow_setCell_below (ownsRow_setCell_below own3 (hlt 0) _) (hlt 1) _) (hlt 2) _) (by omega)
   ·exact(((E3.setCell (Nat.le_refl _) _).setCell (Nat.le_refl _) _).setCell (Nat.le_refl _) _)
theorem PC {zs:List Int}{k:Nat}(hk:k<zs.length)(h:nth zs k<0∨255<nth zs k): ¬ smp zs:=fun hs=>by
 have:=AD hs hk;omega
theorem NV {zs:List Int}(h:∀ j,j<zs.length→0≤nth zs j∧nth zs j≤255):smp zs:=Cg h
def Nn (W H:Int)(n:Nat):Prop:=side W∧side H∧(n:Int)=W*H
theorem Ga (W H:Int)(a:Option Addr)(c n:Nat)(zs:List Int)(w:World)(r:Sl w a n (zs.map (Value.int .i64)))(hs:Nn W H n):
 Calls Tryz.prog 14 #[.agg #[.int .i64 W,.int .i64 H,.slice a n c]] w fun e w'=>e= .returned (.bool (decide (smp zs)))∧Ext w w':=by
 obtain⟨⟨w1,w2,w3⟩,⟨h1,h2,h3⟩,hn⟩:=hs;have hp:=IX ⟨w1,w2,w3⟩ ⟨h1,h2,h3⟩;have hl:=r.int_len;have Hl:=Aa hl;have hnb:n≤1024:=by omega
 have hd1:((n:Int) != W*H)=false:=by simp[hn]
 have hdw:(W%8 != 0)=false:=by simp[w3]
 have hdh:(H%8 != 0)=false:=by simp[h3]
 have E0:=Ext.alloc w (.cells #[.int .i64 W,.int .i64 H,.slice a n c] 30);have p0:=Aj w (.cells #[.int .i64 W,.int .i64 H,.slice a n c] 30);clear hn w3 h3 hl;go_enter Tryz.func14,Tryz.ntmps14
 go_wp2_with fail
 refine(Az _ _ _ _ w1 w2).mono ?_
 rintro e w1' ⟨rfl,rfl⟩
 go_wp2_with fail
 refine(Az _ _ _ _ h1 h2).mono ?_
 rintro e w1' ⟨rfl,rfl⟩
 go_wp2_with fail
 go_loop [3] (fun i=>∃ k:Nat,k≤n∧i= .int .i64 k∧Hid (∀ j,j<k→0≤nth zs j∧nth zs j≤255)) (fun i=>n-(intOf i).toNat)
 case atStart=>exact⟨0,by omega,rfl,Aa (fun j hj=>by omega)⟩
 case round =>
  obtain⟨k,hk,rfl,hall⟩:=hrel
  by_cases hlt:k<n
  ·obtain⟨b1,o1,rfl,g1⟩:=(r.ext E0).int hlt
   by_cases hin:0≤nth zs k∧nth zs k≤255
   ·have hall2:=Aa (show ∀ j,j<k+1→0≤nth zs j∧nth zs j≤255 from fun j hj=>by
     rcases Nat.lt_succ_iff_lt_or_eq.1 hj with h|rfl
     ·exact hall.out j h
     ·exact hin)
    generalize nth zs k=z at *;go_wp2_with fail
    refine(Az _ _ _ _ hin.1 hin.2).mono ?_
    rintro e w2' ⟨rfl,rfl⟩
    go_wp2;go_round
    case rel=>exact⟨k+1,by omega,by go_num,hall2⟩
    case measure=>simp[intOf];omega
   ·have hno:=Aa (PC (zs:=zs) (k:=k) (by rw[Hl.out];exact hlt) (by omega));generalize nth zs k=z at *;go_wp2_with fail
    refine(BU _ _ _ _ (by omega)).mono ?_
    rintro e w2' ⟨rfl,rfl⟩
    go_wp2;go_ret
    exact⟨(Ay (decide_eq_false hno.out)).symm,E0⟩
  ·obtain rfl:k=n:=by omega
   go_wp2;go_ret
   exact⟨(Ay (decide_eq_true (NV (fun j hj=>hall.out j (by rw[Hl.out]at hj;exact hj))))).symm,E0⟩
theorem Fo (W H:Int)(a:Option Addr)(c n:Nat)(w:World)(hc:n≤9223372036854775807)(hs : ¬ Nn W H n):
 Calls Tryz.prog 14 #[.agg #[.int .i64 W,.int .i64 H,.slice a n c]] w fun e w'=>e= .returned (.bool false)∧Ext w w':=by
 have E0:=Ext.alloc w (.cells #[.int .i64 W,.int .i64 H,.slice a n c] 30);have p0:=Aj w (.cells #[.int .i64 W,.int .i64 H,.slice a n c] 30)
 by_cases hw:8≤W∧W≤32
 ·by_cases hh:8≤H∧H≤32
  ·by_cases hw8:W%8=0
   ·have hdw:(W%8 != 0)=false:=by simp[hw8]
    by_cases hh8:H%8=0
    ·have hdh:(H%8 != 0)=false:=by simp[hh8]
     have hp:=IX ⟨hw.1,hw.2,hw8⟩ ⟨hh.1,hh.2,hh8⟩;have hd1:((n:Int) != W*H)=true:=by
      simp;intro he;exact hs ⟨⟨hw.1,hw.2,hw8⟩,⟨hh.1,hh.2,hh8⟩,he⟩
     clear hw8 hh8 hs;go_enter Tryz.func14,Tryz.ntmps14
     go_wp2_with fail
     refine(Az _ _ _ _ hw.1 hw.2).mono ?_
     rintro e w1' ⟨rfl,rfl⟩
     go_wp2_with fail
     refine(Az _ _ _ _ hh.1 hh.2).mono ?_
     rintro e w1' ⟨rfl,rfl⟩
     go_wp2;go_ret
     exact⟨rfl,E0⟩
    ·have hdh:(H%8 != 0)=true:=by simp[hh8]
     clear hw8 hs;go_enter Tryz.func14,Tryz.ntmps14
     go_wp2_with fail
     refine(Az _ _ _ _ hw.1 hw.2).mono ?_
     rintro e w1' ⟨rfl,rfl⟩
     go_wp2_with fail
     refine(Az _ _ _ _ hh.1 hh.2).mono ?_
     rintro e w1' ⟨rfl,rfl⟩
     go_wp2;go_ret
     exact⟨rfl,E0⟩
   ·have hdw:(W%8 != 0)=true:=by simp[hw8]
    clear hs;go_enter Tryz.func14,Tryz.ntmps14
    go_wp2_with fail
    refine(Az _ _ _ _ hw.1 hw.2).mono ?_
    rintro e w1' ⟨rfl,rfl⟩
    go_wp2_with fail
    refine(Az _ _ _ _ hh.1 hh.2).mono ?_
    rintro e w1' ⟨rfl,rfl⟩
    go_wp2;go_ret
    exact⟨rfl,E0⟩
  ·clear hs;go_enter Tryz.func14,Tryz.ntmps14
   go_wp2_with fail
   refine(Az _ _ _ _ hw.1 hw.2).mono ?_
   rintro e w1' ⟨rfl,rfl⟩
   go_wp2_with fail
   refine(BU _ _ _ _ (by omega)).mono ?_
   rintro e w1' ⟨rfl,rfl⟩
   go_wp2;go_ret
   exact⟨rfl,E0⟩
 ·clear hs;go_enter Tryz.func14,Tryz.ntmps14
  go_wp2_with fail
  refine(BU _ _ _ _ (by omega)).mono ?_
  rintro e w1' ⟨rfl,rfl⟩
  go_wp2;go_ret
  exact⟨rfl,E0⟩
theorem Bc (p:Pic)(a:Option Addr)(c n:Nat)(w:World)(hn:n=p.px.length)(hc:n≤9223372036854775807)(r:Sl w a n (p.px.map (Value.int .i64))):
 Calls Tryz.prog 14 #[.agg #[.int .i64 p.w,.int .i64 p.h,.slice a n c]] w fun e w'=>e= .returned (.bool (decide p.valid))∧Ext w w':=by
 subst hn
 by_cases hs:Nn p.w p.h p.px.length
 ·have h:=Ga p.w p.h a c _ p.px w r hs;rw[show decide (smp p.px)=decide p.valid from decide_eq_decide.2 ⟨fun h=>⟨hs.1,hs.2.1,hs.2.2,h⟩,fun h=>h.2.2.2⟩]at h;exact h
 ·rw[decide_eq_false (fun h=>hs ⟨h.1,h.2.1,h.2.2.1⟩)];exact Fo p.w p.h a c _ w hc hs
theorem GE (x:Int)(w:World):Calls Tryz.prog 37 #[.int .i64 x] w fun e w'=>e= .returned (.bool (decide (side x)))∧w=w':=by
 by_cases h1:8≤x
 ·have d1:decide (8≤x)=true:=by simpa using h1
  by_cases h2:x≤32
  ·have d2:decide (x≤32)=true:=by simpa using h2
   by_cases h3:x%8=0
   ·have d3:(x%8 == 0)=true:=by simp[h3]
    have H:=Aa (show decide (side x)=true from decide_eq_true ⟨h1,h2,h3⟩);clear h3;go_enter Tryz.func37,Tryz.ntmps37
    go_wp2;go_ret
    exact⟨(Ay H.out).symm,rfl⟩
   ·have d3:(x%8 == 0)=false:=by simp[h3]
    have H:=Aa (show decide (side x)=false from decide_eq_false (fun h=>h3 h.2.2));clear h3;go_enter Tryz.func37,Tryz.ntmps37
    go_wp2;go_ret
    exact⟨(Ay H.out).symm,rfl⟩
  ·have d2:decide (x≤32)=false:=by simpa using h2
   have H:=Aa (show decide (side x)=false from decide_eq_false (fun h=>h2 h.2.1));go_enter Tryz.func37,Tryz.ntmps37
   go_wp2;go_ret
   exact⟨(Ay H.out).symm,rfl⟩
 ·have d1:decide (8≤x)=false:=by simpa using h1
  have H:=Aa (show decide (side x)=false from decide_eq_false (fun h=>h1 h.1));go_enter Tryz.func37,Tryz.ntmps37
  go_wp2;go_ret
  exact⟨(Ay H.out).symm,rfl⟩
theorem JU (x:Int)(w:World)(h:x<0∨255<x):Calls Tryz.prog 39 #[.int .i64 x] w fun e w'=>e= .returned (.bool false)∧w=w':=by
 by_cases h1:0≤x
 ·have d1:decide (0≤x)=true:=by simpa using h1
  have d2:decide (x≤255)=false:=by simp;omega
  go_enter Tryz.func39,Tryz.ntmps39
  go_wp2;go_ret
  exact⟨rfl,rfl⟩
 ·have d1:decide (0≤x)=false:=by simpa using h1
  go_enter Tryz.func39,Tryz.ntmps39
  go_wp2;go_ret
  exact⟨rfl,rfl⟩
theorem BQ (a:Option Addr)(c n:Nat)(zs:List Int)(w:World)(hn:n<2^47)(r:Sl w a n (zs.map (Value.int .i64))):
 Calls Tryz.prog 38 #[.slice a n c] w fun e w'=>e= .returned (.bool (decide (smp zs)))∧w=w':=by
 have Hl:=Aa r.int_len;go_enter Tryz.func38,Tryz.ntmps38
 go_wp2;go_loop [7] (fun i=>∃ k:Nat,k≤n∧i= .int .i64 k∧Hid (∀ j,j<k→0≤nth zs j∧nth zs j≤255)) (fun i=>n-(intOf i).toNat)
 case atStart=>exact⟨0,by omega,rfl,Aa (fun j hj=>by omega)⟩
 case round =>
  obtain⟨k,hk,rfl,hall⟩:=hrel
  by_cases hlt:k<n
  ·obtain⟨b1,o1,rfl,g1⟩:=r.int hlt
   by_cases hin:0≤nth zs k∧nth zs k≤255
   ·have hall2:=Aa (show ∀ j,j<k+1→0≤nth zs j∧nth zs j≤255 from fun j hj=>by
     rcases Nat.lt_succ_iff_lt_or_eq.1 hj with h|rfl
     ·exact hall.out j h
     ·exact hin)
    generalize nth zs k=z at *;go_wp2_with fail
    refine(Dc z _ hin.1 hin.2).mono ?_
    rintro e w2' ⟨rfl,rfl⟩
    go_wp2;go_round
    case rel=>exact⟨k+1,by omega,by go_num,hall2⟩
    case measure=>simp[intOf];omega
   ·have hno:=Aa (PC (zs:=zs) (k:=k) (by rw[Hl.out];exact hlt) (by omega));generalize nth zs k=z at *;go_wp2_with fail
    refine(JU z _ (by omega)).mono ?_
    rintro e w2' ⟨rfl,rfl⟩
    go_wp2;go_ret
    exact⟨(Ay (decide_eq_false hno.out)).symm,rfl⟩
  ·obtain rfl:k=n:=by omega
   go_wp2;go_ret
   exact⟨(Ay (decide_eq_true (NV (fun j hj=>hall.out j (by rw[Hl.out]at hj;exact hj))))).symm,rfl⟩
theorem Bb (p:Pic)(a:Option Addr)(c n:Nat)(w:World)(hn:n=p.px.length)(hc:n≤9223372036854775807)(r:Sl w a n (p.px.map (Value.int .i64))):
 Calls Tryz.prog 19 #[.agg #[.int .i64 p.w,.int .i64 p.h,.slice a n c]] w fun e w'=>e= .returned (.bool (decide p.valid))∧Ext w w':=by
 obtain⟨W,H,zs⟩:=p;have E0:=Ext.alloc w (.cells #[.int .i64 W,.int .i64 H,.slice a n c] 30);have p0:=Aj w (.cells #[.int .i64 W,.int .i64 H,.slice a n c] 30);have HN:=Aa hn;clear hn;go_enter Tryz.func19,Tryz.ntmps19
 go_wp2_with fail
 refine(GE W _).mono ?_
 rintro e w1' ⟨rfl,rfl⟩
 by_cases hw:side W
 ·rw[decide_eq_true hw];go_wp2_with fail
  refine(GE H _).mono ?_
  rintro e w1' ⟨rfl,rfl⟩
  by_cases hh:side H
  ·rw[decide_eq_true hh];have hp:=IX hw hh;have hw1:=hw.1;have hw2:=hw.2.1;have hh1:=hh.1;have hh2:=hh.2.1
   by_cases hd:(n:Int)=W*H
   ·have hd1:((n:Int) != W*H)=false:=by simp[hd]
    have hnb:n≤1024:=by omega
    have H2:=Aa (show smp zs↔Pic.valid ⟨W,H,zs⟩from ⟨fun h=>⟨hw,hh,by rw[←hd,HN.out],h⟩,fun h=>h.2.2.2⟩);clear hw hh hd;go_wp2_with fail
    refine(BQ a c n zs _ (by omega) (r.ext E0)).mono ?_
    rintro e w1' ⟨rfl,rfl⟩
    go_wp2;go_ret
    exact⟨Ay (decide_eq_decide.2 H2.out),E0⟩
   ·have hd1:((n:Int) != W*H)=true:=by simpa using hd
    have H2:=Aa (show ¬ Pic.valid ⟨W,H,zs⟩from fun h=>hd (by rw[HN.out];exact h.2.2.1));clear hw hh hd;go_wp2;go_ret
    exact⟨(Ay (decide_eq_false H2.out)).symm,E0⟩
  ·rw[decide_eq_false hh];have H2:=Aa (show ¬ Pic.valid ⟨W,H,zs⟩from fun h=>hh h.2.1);clear hw hh;go_wp2;go_ret
   exact⟨(Ay (decide_eq_false H2.out)).symm,E0⟩
 ·rw[decide_eq_false hw];have H2:=Aa (show ¬ Pic.valid ⟨W,H,zs⟩from fun h=>hw h.1);clear hw;go_wp2;go_ret
  exact⟨(Ay (decide_eq_false H2.out)).symm,E0⟩
theorem bxs2 (w:World)(o0 o1:Obj):((w.alloc o0).alloc o1).heap[w.heap.size]?=some o0∧((w.alloc o0).alloc o1).heap[w.heap.size+1]?=some o1∧Ext w ((w.alloc o0).alloc o1):=by
 have h0:=Aj w o0;have E:=Ext.alloc w o0;have e:=Ext.alloc (w.alloc o0) o1;have hn:=Aj (w.alloc o0) o1;simp only[World.size_alloc]at hn;exact⟨e.blk h0,hn,E.trans e⟩
theorem bxs3 (w:World)(o0 o1 o2:Obj):(((w.alloc o0).alloc o1).alloc o2).heap[w.heap.size]?=some o0∧(((w.alloc o0).alloc o1).alloc o2).heap[w.heap.size+1]?=some o1∧(((w.alloc o0).alloc o1).alloc o2).heap[w.heap.size+1+1]?=some o2∧Ext w (((w.alloc o0).alloc o1).alloc o2):=by
 obtain⟨h0,h1,E⟩:=bxs2 w o0 o1;have e:=Ext.alloc ((w.alloc o0).alloc o1) o2;have hn:=Aj ((w.alloc o0).alloc o1) o2;simp only[World.size_alloc]at hn;exact⟨e.blk h0,e.blk h1,hn,E.trans e⟩
theorem bxs4 (w:World)(o0 o1 o2 o3:Obj):((((w.alloc o0).alloc o1).alloc o2).alloc o3).heap[w.heap.size]?=some o0∧((((w.alloc o0).alloc o1).alloc o2).alloc o3).heap[w.heap.size+1]?=some o1∧((((w.alloc o0).alloc o1).alloc o2).alloc o3).heap[w.heap.size+1+1]?=some o2∧((((w.alloc o0).alloc o1).alloc o2).alloc o3).heap[w.heap.size+1+1+1]?=some o3∧Ext w ((((w.alloc o0).alloc o1).alloc o2).alloc o3):=by
 obtain⟨h0,h1,h2,E⟩:=bxs3 w o0 o1 o2;have e:=Ext.alloc (((w.alloc o0).alloc o1).alloc o2) o3;have hn:=Aj (((w.alloc o0).alloc o1).alloc o2) o3;simp only[World.size_alloc]at hn;exact⟨e.blk h0,e.blk h1,e.blk h2,hn,E.trans e⟩
theorem bxs5 (w:World)(o0 o1 o2 o3 o4:Obj):(((((w.alloc o0).alloc o1).alloc o2).alloc o3).alloc o4).heap[w.heap.size]?=some o0∧(((((w.alloc o0).alloc o1).alloc o2).alloc o3).alloc o4).heap[w.heap.size+1]?=some o1∧(((((w.alloc o0).alloc o1).alloc o2).alloc o3).alloc o4).heap[w.heap.size+1+1]?=some o2∧(((((w.alloc o0).alloc o1).alloc o2).alloc o3).alloc o4).heap[w.heap.size+1+1+1]?=some o3∧(((((w.alloc o0).alloc o1).alloc o2).alloc o3).alloc o4).heap[w.heap.size+1+1+1+1]?=some o4∧Ext w (((((w.alloc o0).alloc o1).alloc o2).alloc o3).alloc o4):=by
 obtain⟨h0,h1,h2,h3,E⟩:=bxs4 w o0 o1 o2 o3;have e:=Ext.alloc ((((w.alloc o0).alloc o1).alloc o2).alloc o3) o4;have hn:=Aj ((((w.alloc o0).alloc o1).alloc o2).alloc o3) o4;simp only[World.size_alloc]at hn;exact⟨e.blk h0,e.blk h1,e.blk h2,e.blk h3,hn,E.trans e⟩
theorem bxs6 (w:World)(o0 o1 o2 o3 o4 o5:Obj):((((((w.alloc o0).alloc o1).alloc o2).alloc o3).alloc o4).alloc o5).heap[w.heap.size]?=some o0∧((((((w.alloc o0).alloc o1).alloc o2).alloc o3).alloc o4).alloc o5).heap[w.heap.size+1]?=some o1∧((((((w.alloc o0).alloc o1).alloc o2).alloc o3).alloc o4).alloc o5).heap[w.heap.size+1+1]?=some o2∧((((((w.alloc o0).alloc o1).alloc o2).alloc o3).alloc o4).alloc o5).heap[w.heap.size+1+1+1]?=some o3∧((((((w.alloc o0).alloc o1).alloc o2).alloc o3).alloc o4).alloc o5).heap[w.heap.size+1+1+1+1]?=some o4∧((((((w.alloc o0).alloc o1).alloc o2).alloc o3).alloc o4).alloc o5).heap[w.heap.size+1+1+1+1+1]?=some o5∧Ext w ((((((w.alloc o0).alloc o1).alloc o2).alloc o3).alloc o4).alloc o5):=by
 obtain⟨h0,h1,h2,h3,h4,E⟩:=bxs5 w o0 o1 o2 o3 o4;have e:=Ext.alloc (((((w.alloc o0).alloc o1).alloc o2).alloc o3).alloc o4) o5;have hn:=Aj (((((w.alloc o0).alloc o1).alloc o2).alloc o3).alloc o4) o5;simp only[World.size_alloc]at hn;exact⟨e.blk h0,e.blk h1,e.blk h2,e.blk h3,e.blk h4,hn,E.trans e⟩
theorem bxs7 (w:World)(o0 o1 o2 o3 o4 o5 o6:Obj):(((((((w.alloc o0).alloc o1).alloc o2).alloc o3).alloc o4).alloc o5).alloc o6).heap[w.heap.size]?=some o0∧(((((((w.alloc o0).alloc o1).alloc o2).alloc o3).alloc o4).alloc o5).alloc o6).heap[w.heap.size+1]?=some o1∧(((((((w.alloc o0).alloc o1).alloc o2).alloc o3).alloc o4).alloc o5).alloc o6).heap[w.heap.size+1+1]?=some o2∧(((((((w.alloc o0).alloc o1).alloc o2).alloc o3).alloc o4).alloc o5).alloc o6).heap[w.heap.size+1+1+1]?=some o3∧(((((((w.alloc o0).alloc o1).alloc o2).alloc o3).alloc o4).alloc o5).alloc o6).heap[w.heap.size+1+1+1+1]?=some o4∧(((((((w.alloc o0).alloc o1).alloc o2).alloc o3).alloc o4).alloc o5).alloc o6).heap[w.heap.size+1+1+1+1+1]?=some o5∧(((((((w.alloc o0).alloc o1).alloc o2).alloc o3).alloc o4).alloc o5).alloc o6).heap[w.heap.size+1+1+1+1+1+1]?=some o6∧Ext w (((((((w.alloc o0).alloc o1).alloc o2).alloc o3).alloc o4).alloc o5).alloc o6):=by
 obtain⟨h0,h1,h2,h3,h4,h5,E⟩:=bxs6 w o0 o1 o2 o3 o4 o5;have e:=Ext.alloc ((((((w.alloc o0).alloc o1).alloc o2).alloc o3).alloc o4).alloc o5) o6;have hn:=Aj ((((((w.alloc o0).alloc o1).alloc o2).alloc o3).alloc o4).alloc o5) o6;simp only[World.size_alloc]at hn;exact⟨e.blk h0,e.blk h1,e.blk h2,e.blk h3,e.blk h4,e.blk h5,hn,E.trans e⟩
theorem bxs8 (w:World)(o0 o1 o2 o3 o4 o5 o6 o7:Obj):((((((((w.alloc o0).alloc o1).alloc o2).alloc o3).alloc o4).alloc o5).alloc o6).alloc o7).heap[w.heap.size]?=some o0∧((((((((w.alloc o0).alloc o1).alloc o2).alloc o3).alloc o4).alloc o5).alloc o6).alloc o7).heap[w.heap.size+1]?=some o1∧((((((((w.alloc o0).alloc o1).alloc o2).alloc o3).alloc o4).alloc o5).alloc o6).alloc o7).heap[w.heap.size+1+1]?=some o2∧((((((((w.alloc o0).alloc o1).alloc o2).alloc o3).alloc o4).alloc o5).alloc o6).alloc o7).heap[w.heap.size+1+1+1]?=some o3∧((((((((w.alloc o0).alloc o1).alloc o2).alloc o3).alloc o4).alloc o5).alloc o6).alloc o7).heap[w.heap.size+1+1+1+1]?=some o4∧((((((((w.alloc o0).alloc o1).alloc o2).alloc o3).alloc o4).alloc o5).alloc o6).alloc o7).heap[w.heap.size+1+1+1+1+1]?=some o5∧((((((((w.alloc o0).alloc o1).alloc o2).alloc o3).alloc o4).alloc o5).alloc o6).alloc o7).heap[w.heap.size+1+1+1+1+1+1]?=some o6∧((((((((w.alloc o0).alloc o1).alloc o2).alloc o3).alloc o4).alloc o5).alloc o6).alloc o7).heap[w.heap.size+1+1+1+1+1+1+1]?=some o7∧Ext w ((((((((w.alloc o0).alloc o1).alloc o2).alloc o3).alloc o4).alloc o5).alloc o6).alloc o7):=by
 obtain⟨h0,h1,h2,h3,h4,h5,h6,E⟩:=bxs7 w o0 o1 o2 o3 o4 o5 o6;have e:=Ext.alloc (((((((w.alloc o0).alloc o1).alloc o2).alloc o3).alloc o4).alloc o5).alloc o6) o7;have hn:=Aj (((((((w.alloc o0).alloc o1).alloc o2).alloc o3).alloc o4).alloc o5).alloc o6) o7;simp only[World.size_alloc]at hn;exact⟨e.blk h0,e.blk h1,e.blk h2,e.blk h3,e.blk h4,e.blk h5,e.blk h6,hn,E.trans e⟩
theorem Oe (p s:Pic)(a b:Option Addr)(c d n m:Nat)(w:World)(hn:n=p.px.length)(hm:m=s.px.length)(nc:n≤9223372036854775807)(mc:m≤9223372036854775807)(r:Sl w a n (p.px.map (Value.int .i64)))(q:Sl w b m (s.px.map (Value.int .i64))):
 Calls Tryz.prog 21 #[.agg #[.int .i64 p.w,.int .i64 p.h,.slice a n c],.agg #[.int .i64 s.w,.int .i64 s.h,.slice b m d]] w fun e w'=>e= .returned (.bool (decide ((p.valid)∧(s.valid)∧(p.w=s.w)∧(p.h=s.h))))∧Ext w w':=by
 obtain⟨B,hB⟩:∃ B,B=decide ((p.valid)∧(s.valid)∧(p.w=s.w)∧(p.h=s.h)):=⟨_,rfl⟩;rw[←hB];have HB:=Aa hB;clear hB;have HN:=Aa hn;have HM:=Aa hm;clear hn hm;obtain⟨X0_0,X1_0,E_0⟩:=bxs2 w (.cells #[.int .i64 p.w,.int .i64 p.h,.slice a n c] 30) (.cells #[.int .i64 s.w,.int .i64 s.h,.slice b m d] 30);obtain⟨-,k0_0,k0_1,k0_2,-⟩:=bx3 X0_0;obtain⟨-,k1_0,k1_1,k1_2,-⟩:=bx3 X1_0;go_enter Tryz.func21,Tryz.ntmps21
 obtain⟨D0,hD0⟩:∃ D0,D0=decide (p.valid):=⟨_,rfl⟩;have HD0:=Aa hD0.symm;clear hD0;go_wp2_with fail
 refine(Bb p a c n _ HN.out nc (r.ext E_0)).mono ?_;rw[show decide (p.valid)=D0 from HD0.out]
 rintro e w_1 ⟨rfl,e_1⟩
 have X0_1:=e_1.blk X0_0;have X1_1:=e_1.blk X1_0;have E_1:=E_0.trans e_1;clear k0_0 k0_1 k0_2 X0_0 k1_0 k1_1 k1_2 X1_0 E_0 e_1;obtain⟨-,k0_0,k0_1,k0_2,-⟩:=bx3 X0_1;obtain⟨-,k1_0,k1_1,k1_2,-⟩:=bx3 X1_1
 by_cases h0:p.valid
 rotate_left
 ·have H0:=Aa (show ¬ (p.valid) by first|exact h0|omega);obtain rfl:D0=false:=by rw[←HD0.out];exact decide_eq_false h0
  clear h0;go_wp2;go_ret
  exact⟨by rw[HB.out,(decide_eq_false fun hh=>by have h9:=H0.out;have h8:=hh.1;first|exact h9 h8|omega)];(first|done|rfl),E_1⟩
 obtain rfl:D0=true:=by rw[←HD0.out];exact decide_eq_true h0
 have H0:=Aa h0;clear h0;obtain⟨D1,hD1⟩:∃ D1,D1=decide (s.valid):=⟨_,rfl⟩;have HD1:=Aa hD1.symm;clear hD1;go_wp2_with fail
 refine(Bb s b d m _ HM.out mc (q.ext E_1)).mono ?_;rw[show decide (s.valid)=D1 from HD1.out]
 rintro e w_2 ⟨rfl,e_2⟩
 have X0_2:=e_2.blk X0_1;have X1_2:=e_2.blk X1_1;have E_2:=E_1.trans e_2;clear k0_0 k0_1 k0_2 X0_1 k1_0 k1_1 k1_2 X1_1 E_1 e_2;obtain⟨-,k0_0,k0_1,k0_2,-⟩:=bx3 X0_2;obtain⟨-,k1_0,k1_1,k1_2,-⟩:=bx3 X1_2
 by_cases h1:s.valid
 rotate_left
 ·have H1:=Aa (show ¬ (s.valid) by first|exact h1|omega);obtain rfl:D1=false:=by rw[←HD1.out];exact decide_eq_false h1
  clear h1;go_wp2;go_ret
  exact⟨by rw[HB.out,(decide_eq_false fun hh=>by have h9:=H1.out;have h8:=hh.2.1;first|exact h9 h8|omega)];(first|done|rfl),E_2⟩
 obtain rfl:D1=true:=by rw[←HD1.out];exact decide_eq_true h1
 have H1:=Aa h1;clear h1
 by_cases h2:p.w=s.w
 rotate_left
 ·have H2:=Aa (show ¬ (p.w=s.w) by first|exact h2|omega);have dw:(p.w == s.w)=false:=by simpa using h2
  clear h2;go_wp2;go_ret
  exact⟨by rw[HB.out,(decide_eq_false fun hh=>by have h9:=H2.out;have h8:=hh.2.2.1;first|exact h9 h8|omega)];(first|done|rfl),E_2⟩
 have H2:=Aa h2;have dw:(p.w == s.w)=true:=by simpa using h2
 clear h2
 by_cases h3:p.h=s.h
 rotate_left
 ·have H3:=Aa (show ¬ (p.h=s.h) by first|exact h3|omega);have dh:(p.h == s.h)=false:=by simpa using h3
  clear h3;go_wp2;go_ret
  exact⟨by rw[HB.out,(decide_eq_false fun hh=>by have h9:=H3.out;have h8:=hh.2.2.2;first|exact h9 h8|omega)];(first|done|rfl),E_2⟩
 have H3:=Aa h3;have dh:(p.h == s.h)=true:=by simpa using h3
 clear h3;go_wp2;go_ret
 exact⟨by rw[HB.out,(decide_eq_true ⟨H0.out,H1.out,H2.out,H3.out⟩)];(first|done|rfl),E_2⟩
theorem MV (p s:Pic)(a b:Option Addr)(c d n m:Nat)(w:World)(hn:n=p.px.length)(hm:m=s.px.length)(nc:n≤9223372036854775807)(mc:m≤9223372036854775807)(r:Sl w a n (p.px.map (Value.int .i64)))(q:Sl w b m (s.px.map (Value.int .i64))):
 Calls Tryz.prog 16 #[.agg #[.int .i64 p.w,.int .i64 p.h,.slice a n c],.agg #[.int .i64 s.w,.int .i64 s.h,.slice b m d]] w fun e w'=>e= .returned (.bool (decide ((p.valid)∧(s.valid)∧(p.w=s.w)∧(p.h=s.h))))∧Ext w w':=by
 obtain⟨B,hB⟩:∃ B,B=decide ((p.valid)∧(s.valid)∧(p.w=s.w)∧(p.h=s.h)):=⟨_,rfl⟩;rw[←hB];have HB:=Aa hB;clear hB;have HN:=Aa hn;have HM:=Aa hm;clear hn hm;obtain⟨X0_0,X1_0,E_0⟩:=bxs2 w (.cells #[.int .i64 p.w,.int .i64 p.h,.slice a n c] 30) (.cells #[.int .i64 s.w,.int .i64 s.h,.slice b m d] 30);obtain⟨-,k0_0,k0_1,k0_2,-⟩:=bx3 X0_0;obtain⟨-,k1_0,k1_1,k1_2,-⟩:=bx3 X1_0;go_enter Tryz.func16,Tryz.ntmps16
 obtain⟨D0,hD0⟩:∃ D0,D0=decide (p.valid):=⟨_,rfl⟩;have HD0:=Aa hD0.symm;clear hD0;go_wp2_with fail
 refine(Bc p a c n _ HN.out nc (r.ext E_0)).mono ?_;rw[show decide (p.valid)=D0 from HD0.out]
 rintro e w_1 ⟨rfl,e_1⟩
 have X0_1:=e_1.blk X0_0;have X1_1:=e_1.blk X1_0;have E_1:=E_0.trans e_1;clear k0_0 k0_1 k0_2 X0_0 k1_0 k1_1 k1_2 X1_0 E_0 e_1;obtain⟨-,k0_0,k0_1,k0_2,-⟩:=bx3 X0_1;obtain⟨-,k1_0,k1_1,k1_2,-⟩:=bx3 X1_1
 by_cases h0:p.valid
 rotate_left
 ·have H0:=Aa (show ¬ (p.valid) by first|exact h0|omega);obtain rfl:D0=false:=by rw[←HD0.out];exact decide_eq_false h0
  clear h0;go_wp2;go_ret
  exact⟨by rw[HB.out,(decide_eq_false fun hh=>by have h9:=H0.out;have h8:=hh.1;first|exact h9 h8|omega)];(first|done|rfl),E_1⟩
 obtain rfl:D0=true:=by rw[←HD0.out];exact decide_eq_true h0
 have H0:=Aa h0;clear h0;obtain⟨D1,hD1⟩:∃ D1,D1=decide (s.valid):=⟨_,rfl⟩;have HD1:=Aa hD1.symm;clear hD1;go_wp2_with fail
 refine(Bc s b d m _ HM.out mc (q.ext E_1)).mono ?_;rw[show decide (s.valid)=D1 from HD1.out]
 rintro e w_2 ⟨rfl,e_2⟩
 have X0_2:=e_2.blk X0_1;have X1_2:=e_2.blk X1_1;have E_2:=E_1.trans e_2;clear k0_0 k0_1 k0_2 X0_1 k1_0 k1_1 k1_2 X1_1 E_1 e_2;obtain⟨-,k0_0,k0_1,k0_2,-⟩:=bx3 X0_2;obtain⟨-,k1_0,k1_1,k1_2,-⟩:=bx3 X1_2
 by_cases h1:s.valid
 rotate_left
 ·have H1:=Aa (show ¬ (s.valid) by first|exact h1|omega);obtain rfl:D1=false:=by rw[←HD1.out];exact decide_eq_false h1
  clear h1;go_wp2;go_ret
  exact⟨by rw[HB.out,(decide_eq_false fun hh=>by have h9:=H1.out;have h8:=hh.2.1;first|exact h9 h8|omega)];(first|done|rfl),E_2⟩
 obtain rfl:D1=true:=by rw[←HD1.out];exact decide_eq_true h1
 have H1:=Aa h1;clear h1
 by_cases h2:p.w=s.w
 rotate_left
 ·have H2:=Aa (show ¬ (p.w=s.w) by first|exact h2|omega);have dw:(p.w == s.w)=false:=by simpa using h2
  clear h2;go_wp2;go_ret
  exact⟨by rw[HB.out,(decide_eq_false fun hh=>by have h9:=H2.out;have h8:=hh.2.2.1;first|exact h9 h8|omega)];(first|done|rfl),E_2⟩
 have H2:=Aa h2;have dw:(p.w == s.w)=true:=by simpa using h2
 clear h2
 by_cases h3:p.h=s.h
 rotate_left
 ·have H3:=Aa (show ¬ (p.h=s.h) by first|exact h3|omega);have dh:(p.h == s.h)=false:=by simpa using h3
  clear h3;go_wp2;go_ret
  exact⟨by rw[HB.out,(decide_eq_false fun hh=>by have h9:=H3.out;have h8:=hh.2.2.2;first|exact h9 h8|omega)];(first|done|rfl),E_2⟩
 have H3:=Aa h3;have dh:(p.h == s.h)=true:=by simpa using h3
 clear h3;go_wp2;go_ret
 exact⟨by rw[HB.out,(decide_eq_true ⟨H0.out,H1.out,H2.out,H3.out⟩)];(first|done|rfl),E_2⟩
theorem Ev (p:Pic)(x y:Int)(a:Option Addr)(c n:Nat)(w:World):
 Calls Tryz.prog 40 #[.agg #[.int .i64 p.w,.int .i64 p.h,.slice a n c],.int .i64 x,.int .i64 y] w fun e w'=>e= .returned (.bool (decide ((0≤x)∧(x<p.w)∧(x%8=0)∧(0≤y)∧(y<p.h)∧(y%8=0))))∧Ext w w':=by
 obtain⟨B,hB⟩:∃ B,B=decide ((0≤x)∧(x<p.w)∧(x%8=0)∧(0≤y)∧(y<p.h)∧(y%8=0)):=⟨_,rfl⟩;rw[←hB];have HB:=Aa hB;clear hB;have X0_0:=Aj w (.cells #[.int .i64 p.w,.int .i64 p.h,.slice a n c] 30);have E_0:=Ext.alloc w (.cells #[.int .i64 p.w,.int .i64 p.h,.slice a n c] 30);obtain⟨-,k0_0,k0_1,k0_2,-⟩:=bx3 X0_0;go_enter Tryz.func40,Tryz.ntmps40
 by_cases h0:0≤x
 rotate_left
 ·have H0:=Aa (show ¬ (0≤x) by first|exact h0|omega);have f0:decide (0≤x)=false:=by simpa using h0
  go_wp2;go_ret
  exact⟨by rw[HB.out,(decide_eq_false fun hh=>by have h9:=H0.out;have h8:=hh.1;first|exact h9 h8|omega)];(first|done|rfl),E_0⟩
 have H0:=Aa h0;have f0:decide (0≤x)=true:=by simpa using h0
 by_cases h1:x<p.w
 rotate_left
 ·have H1:=Aa (show ¬ (x<p.w) by first|exact h1|omega);have f1:decide (x<p.w)=false:=by simpa using h1
  clear h1;go_wp2;go_ret
  exact⟨by rw[HB.out,(decide_eq_false fun hh=>by have h9:=H1.out;have h8:=hh.2.1;first|exact h9 h8|omega)];(first|done|rfl),E_0⟩
 have H1:=Aa h1;have f1:decide (x<p.w)=true:=by simpa using h1
 clear h1
 by_cases h2:x%8=0
 rotate_left
 ·have H2:=Aa (show ¬ (x%8=0) by first|exact h2|omega);have f2:(x%8 == 0)=false:=by simpa using h2
  clear h2;go_wp2;go_ret
  exact⟨by rw[HB.out,(decide_eq_false fun hh=>by have h9:=H2.out;have h8:=hh.2.2.1;first|exact h9 h8|omega)];(first|done|rfl),E_0⟩
 have H2:=Aa h2;have f2:(x%8 == 0)=true:=by simpa using h2
 clear h2
 by_cases h3:0≤y
 rotate_left
 ·have H3:=Aa (show ¬ (0≤y) by first|exact h3|omega);have f3:decide (0≤y)=false:=by simpa using h3
  go_wp2;go_ret
  exact⟨by rw[HB.out,(decide_eq_false fun hh=>by have h9:=H3.out;have h8:=hh.2.2.2.1;first|exact h9 h8|omega)];(first|done|rfl),E_0⟩
 have H3:=Aa h3;have f3:decide (0≤y)=true:=by simpa using h3
 by_cases h4:y<p.h
 rotate_left
 ·have H4:=Aa (show ¬ (y<p.h) by first|exact h4|omega);have f4:decide (y<p.h)=false:=by simpa using h4
  clear h4;go_wp2;go_ret
  exact⟨by rw[HB.out,(decide_eq_false fun hh=>by have h9:=H4.out;have h8:=hh.2.2.2.2.1;first|exact h9 h8|omega)];(first|done|rfl),E_0⟩
 have H4:=Aa h4;have f4:decide (y<p.h)=true:=by simpa using h4
 clear h4
 by_cases h5:y%8=0
 rotate_left
 ·have H5:=Aa (show ¬ (y%8=0) by first|exact h5|omega);have f5:(y%8 == 0)=false:=by simpa using h5
  clear h5;go_wp2;go_ret
  exact⟨by rw[HB.out,(decide_eq_false fun hh=>by have h9:=H5.out;have h8:=hh.2.2.2.2.2;first|exact h9 h8|omega)];(first|done|rfl),E_0⟩
 have H5:=Aa h5;have f5:(y%8 == 0)=true:=by simpa using h5
 clear h5;go_wp2;go_ret
 exact⟨by rw[HB.out,(decide_eq_true ⟨H0.out,H1.out,H2.out,H3.out,H4.out,H5.out⟩)];(first|done|rfl),E_0⟩
theorem DL (k:Nat)(w:World)(hk:k<4):
 Calls Tryz.prog 42 #[.int .i64 (k:Nat)] w fun e w'=>e= .returned (.tuple #[.int .i64 ((k%2*4:Nat):Int),.int .i64 ((k/2*4:Nat):Int)])∧w=w':=by
 go_enter Tryz.func42,Tryz.ntmps42
 go_wp2;go_ret2
 exact⟨by congr 1,rfl⟩
theorem CK (m:Mac)(w:World)(h:m.ok)(hk:m.kind=0):
 Calls Tryz.prog 59 #[.agg (ic m.zs)] w fun e w'=>e= .returned (.iface 84 (.agg (ic m.zs)))∧Ext w w':=by
 have H:=IB.new w 50 m.zs;have h0:=H.cell (i:=0) (by rw[Mac.zs_len h];omega);rw[Mac.zs_kind,hk]at h0;have Hl:=Aa (Mac.zs_len h);clear hk;go_enter Tryz.func59,Tryz.ntmps59
 go_wp2_with (refine Ab 50 _ rfl rfl H 0 71 rfl _ Ro rfl Ah (by rw[Hl.out];omega) _ (by rw[Ak _ _ Hl.out]) ?_)
 go_ret
 exact⟨rfl,Ext.alloc _ _⟩
theorem CN (m:Mac)(w:World)(h:m.ok)(hk:m.kind=1):
 Calls Tryz.prog 59 #[.agg (ic m.zs)] w fun e w'=>e= .returned (.iface 85 (.agg (ic m.zs)))∧Ext w w':=by
 have H:=IB.new w 50 m.zs;have h0:=H.cell (i:=0) (by rw[Mac.zs_len h];omega);rw[Mac.zs_kind,hk]at h0;have Hl:=Aa (Mac.zs_len h);clear hk;go_enter Tryz.func59,Tryz.ntmps59
 go_wp2_with (refine Ab 50 _ rfl rfl H 0 71 rfl _ Ro rfl Ah (by rw[Hl.out];omega) _ (by rw[Ak _ _ Hl.out]) ?_)
 go_ret
 exact⟨rfl,Ext.alloc _ _⟩
theorem B8 (m:Mac)(w:World)(h:m.ok)(hk:m.kind=2):
 Calls Tryz.prog 59 #[.agg (ic m.zs)] w fun e w'=>e= .returned (.iface 115 (.agg (ic m.zs)))∧Ext w w':=by
 have H:=IB.new w 50 m.zs;have h0:=H.cell (i:=0) (by rw[Mac.zs_len h];omega);rw[Mac.zs_kind,hk]at h0;have Hl:=Aa (Mac.zs_len h);clear hk;go_enter Tryz.func59,Tryz.ntmps59
 go_wp2_with (refine Ab 50 _ rfl rfl H 0 71 rfl _ Ro rfl Ah (by rw[Hl.out];omega) _ (by rw[Ak _ _ Hl.out]) ?_)
 go_ret
 exact⟨rfl,Ext.alloc _ _⟩
theorem JB (m:Mac)(w:World)(h:m.ok)(hk:m.kind<0∨2<m.kind):
 Calls Tryz.prog 59 #[.agg (ic m.zs)] w fun e w'=>e= .returned .nilIface∧Ext w w':=by
 have H:=IB.new w 50 m.zs;have h0:=H.cell (i:=0) (by rw[Mac.zs_len h];omega);rw[Mac.zs_kind]at h0;have d0:(m.kind == 0)=false:=by simp;omega
 have d1:(m.kind == 1)=false:=by simp;omega
 have d2:(m.kind == 2)=false:=by simp;omega
 clear hk;go_enter Tryz.func59,Tryz.ntmps59
 go_wp2;go_ret
 exact⟨rfl,Ext.alloc _ _⟩
theorem Er (m:Mac)(w:World)(h:m.ok)(r:Bool)(hr:decide (m.x=0∧m.y=0∧m.modes=Bn∧m.lv=CI)=r):
 Calls Tryz.prog 170 #[.agg (ic m.zs)] w fun e w'=>e= .returned (.bool r)∧Ext w w':=by
 have H:=IB.new w 84 m.zs;have Hl:=Aa (Mac.zs_len h);have Hm:=Aa h;clear h
 by_cases h1:m.x=0∧m.y=0
 ·have Hv:=Aa (Fa m.x m.y true (by simpa using h1))
  by_cases h2:m.modes=Bn
  ·have Hd2:=Aa (show decide (m.modes=List.replicate 4 0)=true by simpa [Bn] using h2)
   by_cases h3:m.lv=CI
   ·have Hd3:=Aa (show decide (m.lv=List.replicate 64 0)=true by simpa [CI] using h3);have hr2:r=true:=by rw[←hr];simp[h1,h2,h3]
    subst hr2;clear hr h1 h2 h3;go_enter Tryz.func170,Tryz.ntmps170
    go_wp2_with (first|(refine Ab 45 _ rfl rfl H 1 2 rfl _ Rr rfl Av (by rw[Hl.out];omega) _ Mac.zs_mv ?_)|(refine Ab 46 _ rfl rfl H 3 4 rfl _ Rp rfl BZ (by rw[Hl.out];omega) _ (by rw[Mac.zs_modes Hm.out]) ?_)|(refine Ab 48 _ rfl rfl H 7 64 rfl _ Rs rfl Be (by rw[Hl.out];omega) _ (by rw[Mac.zs_lv Hm.out]) ?_)|(refine AP 46 rfl rfl Rp AC 4 Dq ?_)|(refine AP 48 rfl rfl Rs Ag 64 DW ?_)|(refine C9 45 _ _ _ rfl rfl _ _ rfl rfl _ Hv.out A8 ?_)|(refine BL 46 _ _ _ rfl rfl _ _ rfl rfl _ _ rfl rfl Rp AC Dh Hm.out.modes (by simp) Cn _ Hd2.out ?_)|(refine BL 48 _ _ _ rfl rfl _ _ rfl rfl _ _ rfl rfl Rs Ag I7 Hm.out.lv (by simp) DX _ Hd3.out ?_))
    go_ret
    exact⟨rfl,Ext.alloc _ _⟩
   ·have Hd3:=Aa (show decide (m.lv=List.replicate 64 0)=false by simpa [CI] using h3);have hr2:r=false:=by rw[←hr];simp[h3]
    subst hr2;clear hr h1 h2 h3;go_enter Tryz.func170,Tryz.ntmps170
    go_wp2_with (first|(refine Ab 45 _ rfl rfl H 1 2 rfl _ Rr rfl Av (by rw[Hl.out];omega) _ Mac.zs_mv ?_)|(refine Ab 46 _ rfl rfl H 3 4 rfl _ Rp rfl BZ (by rw[Hl.out];omega) _ (by rw[Mac.zs_modes Hm.out]) ?_)|(refine Ab 48 _ rfl rfl H 7 64 rfl _ Rs rfl Be (by rw[Hl.out];omega) _ (by rw[Mac.zs_lv Hm.out]) ?_)|(refine AP 46 rfl rfl Rp AC 4 Dq ?_)|(refine AP 48 rfl rfl Rs Ag 64 DW ?_)|(refine C9 45 _ _ _ rfl rfl _ _ rfl rfl _ Hv.out A8 ?_)|(refine BL 46 _ _ _ rfl rfl _ _ rfl rfl _ _ rfl rfl Rp AC Dh Hm.out.modes (by simp) Cn _ Hd2.out ?_)|(refine BL 48 _ _ _ rfl rfl _ _ rfl rfl _ _ rfl rfl Rs Ag I7 Hm.out.lv (by simp) DX _ Hd3.out ?_))
    go_ret
    exact⟨rfl,Ext.alloc _ _⟩
  ·have Hd2:=Aa (show decide (m.modes=List.replicate 4 0)=false by simpa [Bn] using h2);have hr2:r=false:=by rw[←hr];simp[h2]
   subst hr2;clear hr h1 h2;go_enter Tryz.func170,Tryz.ntmps170
   go_wp2_with (first|(refine Ab 45 _ rfl rfl H 1 2 rfl _ Rr rfl Av (by rw[Hl.out];omega) _ Mac.zs_mv ?_)|(refine Ab 46 _ rfl rfl H 3 4 rfl _ Rp rfl BZ (by rw[Hl.out];omega) _ (by rw[Mac.zs_modes Hm.out]) ?_)|(refine Ab 48 _ rfl rfl H 7 64 rfl _ Rs rfl Be (by rw[Hl.out];omega) _ (by rw[Mac.zs_lv Hm.out]) ?_)|(refine AP 46 rfl rfl Rp AC 4 Dq ?_)|(refine AP 48 rfl rfl Rs Ag 64 DW ?_)|(refine C9 45 _ _ _ rfl rfl _ _ rfl rfl _ Hv.out A8 ?_)|(refine BL 46 _ _ _ rfl rfl _ _ rfl rfl _ _ rfl rfl Rp AC Dh Hm.out.modes (by simp) Cn _ Hd2.out ?_))
   go_ret
   exact⟨rfl,Ext.alloc _ _⟩
 ·have Hv:=Aa (Fa m.x m.y false (by simpa using h1));have hr2:r=false:=by rw[←hr];simp;intro a b;exact absurd ⟨a,b⟩ h1
  subst hr2;clear hr h1;go_enter Tryz.func170,Tryz.ntmps170
  go_wp2_with (first|(refine Ab 45 _ rfl rfl H 1 2 rfl _ Rr rfl Av (by rw[Hl.out];omega) _ Mac.zs_mv ?_)|(refine C9 45 _ _ _ rfl rfl _ _ rfl rfl _ Hv.out A8 ?_))
  go_ret
  exact⟨rfl,Ext.alloc _ _⟩
theorem FI (m:Mac)(w:World)(h:m.ok)(r:Bool)(hr:decide (m.modes=Bn)=r):
 Calls Tryz.prog 171 #[.agg (ic m.zs)] w fun e w'=>e= .returned (.bool r)∧Ext w w':=by
 have H:=IB.new w 85 m.zs;have Hl:=Aa (Mac.zs_len h);have Hm:=Aa h;have Hd2:=Aa (show decide (m.modes=List.replicate 4 0)=r from hr);clear h hr;go_enter Tryz.func171,Tryz.ntmps171
 go_wp2_with (first|(refine Ab 46 _ rfl rfl H 3 4 rfl _ Rp rfl BZ (by rw[Hl.out];omega) _ (by rw[Mac.zs_modes Hm.out]) ?_)|(refine AP 46 rfl rfl Rp AC 4 Dq ?_)|(refine BL 46 _ _ _ rfl rfl _ _ rfl rfl _ _ rfl rfl Rp AC Dh Hm.out.modes (by simp) Cn _ Hd2.out ?_))
 go_ret
 exact⟨rfl,Ext.alloc _ _⟩
theorem FJ (m:Mac)(w:World)(h:m.ok)(hj:∀ j,j<4→0≤nth m.modes j∧nth m.modes j≤4)(r:Bool)(hr:decide (m.x=0∧m.y=0)=r):
 Calls Tryz.prog 172 #[.agg (ic m.zs)] w fun e w'=>e= .returned (.bool r)∧Ext w w':=by
 have H:=IB.new w 115 m.zs;have Hl:=Aa (Mac.zs_len h);have Hm:=Aa h;have Hv:=Aa (Fa m.x m.y r hr);have Hj:=Aa hj;clear h hr hj;go_enter Tryz.func172,Tryz.ntmps172
 go_wp2_with (refine Ab 46 _ rfl rfl H 3 4 rfl _ Rp rfl BZ (by rw[Hl.out];omega) _ (by rw[Mac.zs_modes Hm.out]) ?_)
 go_loopw [7] (fun i wr=>∃ k:Nat,k≤4∧i= .int .i64 k∧wr=w.alloc (.cells (ic m.zs) 115)) (fun i _=>4-(intOf i).toNat)
 case atStart=>exact⟨0,by omega,rfl,rfl⟩
 case round =>
  obtain⟨k,hk,rfl,rfl⟩:=hrel
  by_cases hlt:k<4
  ·obtain⟨h1,h2⟩:=Hj.out k hlt;go_wp2_with (refine AF _ _ _ rfl rfl m.modes rfl k 4 _ rfl rfl _ Rp Rt AC hlt Hm.out.modes ?_)
   go_roundw
   case rel=>exact⟨k+1,by omega,by go_num,by first|trivial|rfl⟩
   case measure=>simp[intOf];omega
  ·obtain rfl:k=4:=by omega
   go_wp2_with (first|(refine Ab 45 _ rfl rfl H 1 2 rfl _ Rr rfl Av (by rw[Hl.out];omega) _ Mac.zs_mv ?_)|(refine C9 45 _ _ _ rfl rfl _ _ rfl rfl _ Hv.out A8 ?_))
   go_ret
   exact⟨rfl,Ext.alloc _ _⟩
theorem J9 (m:Mac)(w:World)(h:m.ok)(hj : ¬ ∀ j,j<4→0≤nth m.modes j∧nth m.modes j≤4):
 Calls Tryz.prog 172 #[.agg (ic m.zs)] w fun e w'=>e= .returned (.bool false)∧Ext w w':=by
 have H:=IB.new w 115 m.zs;have Hl:=Aa (Mac.zs_len h);have Hm:=Aa h;have Hj:=Aa hj;clear h hj;go_enter Tryz.func172,Tryz.ntmps172
 go_wp2_with (refine Ab 46 _ rfl rfl H 3 4 rfl _ Rp rfl BZ (by rw[Hl.out];omega) _ (by rw[Mac.zs_modes Hm.out]) ?_)
 go_loopw [7] (fun i wr=>∃ k:Nat,k≤4∧i= .int .i64 k∧wr=w.alloc (.cells (ic m.zs) 115)∧Hid (∀ j,j<k→0≤nth m.modes j∧nth m.modes j≤4)) (fun i _=>4-(intOf i).toNat)
 case atStart=>exact⟨0,by omega,rfl,rfl,Aa (fun j hj=>by omega)⟩
 case round =>
  obtain⟨k,hk,rfl,rfl,hall⟩:=hrel
  by_cases hlt:k<4
  ·by_cases h1:nth m.modes k<0
   ·go_wp2_with (refine AF _ _ _ rfl rfl m.modes rfl k 4 _ rfl rfl _ Rp Rt AC hlt Hm.out.modes ?_)
    go_ret
    exact⟨rfl,Ext.alloc _ _⟩
   ·have hd1:decide (nth m.modes k<0)=false:=by simpa using h1
    by_cases h2:4<nth m.modes k
    ·go_wp2_with (refine AF _ _ _ rfl rfl m.modes rfl k 4 _ rfl rfl _ Rp Rt AC hlt Hm.out.modes ?_)
     go_ret
     exact⟨rfl,Ext.alloc _ _⟩
    ·have hd2:decide (4<nth m.modes k)=false:=by simpa using h2
     have hall2:=Aa (show ∀ j,j<k+1→0≤nth m.modes j∧nth m.modes j≤4 from fun j hj=>by
      by_cases hjk:j=k
      ·subst hjk;omega
      ·exact hall.out j (by omega))
     go_wp2_with (refine AF _ _ _ rfl rfl m.modes rfl k 4 _ rfl rfl _ Rp Rt AC hlt Hm.out.modes ?_)
     go_roundw
     case rel=>exact⟨k+1,by omega,by go_num,by first|trivial|rfl,hall2⟩
     case measure=>simp[intOf];omega
  ·obtain rfl:k=4:=by omega
   exact absurd hall.out Hj.out
theorem O9 (cs : Array Value) (w : World) : (method 279 84 (.agg cs) "loop.example/videocodec/impl.fits").run Tryz.prog w = .ok (170, .agg cs) w := by kernel_rfl
theorem Pa (cs : Array Value) (w : World) : (method 279 85 (.agg cs) "loop.example/videocodec/impl.fits").run Tryz.prog w = .ok (171, .agg cs) w := by kernel_rfl
theorem MD (cs : Array Value) (w : World) : (method 279 115 (.agg cs) "loop.example/videocodec/impl.fits").run Tryz.prog w = .ok (172, .agg cs) w := by kernel_rfl
theorem Gv (m:Mac)(w:World)(h:m.ok)(hk:m.kind=0)(hv:vv m.x m.y)(hf:m.modes=Bn∧m.lv=CI)(hxy:m.x=0∧m.y=0)(r:Bool)(hno:∀ k,k<4→inB 4080 (sub m.lv (k*16) 16)=false→r=false)(hyes:(∀ k,k<4→inB 4080 (sub m.lv (k*16) 16)=true)→r=true):
 Calls Tryz.prog 62 #[.agg (ic m.zs)] w fun e w'=>e= .returned (.bool r)∧Ext w w':=by
 have H:=IB.new w 50 m.zs;have Hl:=Aa (Mac.zs_len h);have Hm:=Aa h;have Hk:=Aa hk;have HNO:=Aa hno;have HYES:=Aa hyes;have Hfit:=Aa (show decide (m.x=0∧m.y=0∧m.modes=Bn∧m.lv=CI)=true by simp[hf,hxy]);have hmf:=O9;clear h hk hno hyes hf hxy;go_enter Tryz.func62,Tryz.ntmps62
 go_wp2_with (refine Ab 50 _ rfl rfl H 0 71 rfl _ Ro rfl Ah (by rw[Hl.out];omega) _ (by rw[Ak _ _ Hl.out]) ?_)
 refine(CK m _ Hm.out Hk.out).mono ?_
 rintro e w1 ⟨rfl,e1⟩
 have H1:=H.ext e1;have E1:=(Ext.alloc w (.cells (ic m.zs) 50)).trans e1;clear H e1;go_wp2_with (first|(refine Ab 45 _ rfl rfl H1 1 2 rfl _ Rr rfl Av (by rw[Hl.out];omega) _ Mac.zs_mv ?_))
 refine(AL m.x m.y _ hv).mono ?_
 rintro e w2 ⟨rfl,e2⟩
 have H2:=H1.ext e2;have E2:=E1.trans e2;clear H1 E1 e2 hv;go_wp2_with fail
 refine(Er m _ Hm.out true Hfit.out).mono ?_
 rintro e w3 ⟨rfl,e3⟩
 have H3:=H2.ext e3;have E3:=E2.trans e3;clear H2 E2 e3 hmf;go_wp2_with (refine Ab 48 _ rfl rfl H3 7 64 rfl _ Rs rfl Be (by rw[Hl.out];omega) _ (by rw[Mac.zs_lv Hm.out]) ?_)
 go_loopw [23] (fun i wr=>∃ k:Nat,k≤4∧i= .int .i64 k∧Ext w wr∧Hid (∀ j,j<k→inB 4080 (sub m.lv (j*16) 16)=true)) (fun i _=>4-(intOf i).toNat)
 case atStart=>exact⟨0,by omega,rfl,E3,Aa (fun j hj=>by omega)⟩
 case round =>
  obtain⟨k,hk,rfl,E4,hall⟩:=hrel;clear H3 E3
  by_cases hlt:k<4
  ·have hbl:=Bv m.lv (k*16) 16 (by rw[Hm.out.lv];omega);have Hbl:=Aa hbl;have p0:=IB.new wr 47 (List.replicate 16 0);have Hsa:=Aa (Ak _ 16 hbl);clear hbl;go_wp2_with (first|(refine Bg _ _ _ rfl rfl m.lv rfl k 4 16 _ rfl rfl _ _ Rs Rm rfl Ag hlt ?_)|(refine Af _ _ _ rfl rfl p0 0 16 rfl _ rfl _ rfl Ag Hbl.out (by simp) ?_;intro w6 p6 g6;refine Hid.out ?_))
   rw[Ap (by rw[Hbl.out];rfl)]at p6;have E6:Ext w w6:=Ext.grown (E4.trans (Ext.alloc _ _)) g6 (fun q hq=>by cases hq;exact E4.size);clear g6 p0 E4;refine Aa ?_;go_wp2_with (refine Ab 47 _ rfl rfl p6 0 16 rfl _ Rm rfl Ag (by rw[Hbl.out];omega) _ (by rw[Hsa.out]) ?_)
   refine(A4 _ 4080 _ Hbl.out (by omega) (by omega)).mono ?_
   rintro e w5 ⟨rfl,e5⟩
   have E5:=E6.trans e5;clear E6 e5 p6;cases hb:inB 4080 (sub m.lv (k*16) 16)
   ·have hres:=Aa (HNO.out k hlt hb);clear hb;go_wp2;go_ret
    exact⟨(Ay hres.out).symm,E5⟩
   ·have hall2:=Aa (show ∀ j,j<k+1→inB 4080 (sub m.lv (j*16) 16)=true from fun j hj=>by
     by_cases hjk:j=k
     ·subst hjk;exact hb
     ·exact hall.out j (by omega))
    clear hb;go_wp2;go_roundw
    case rel=>exact⟨k+1,by omega,by go_num,E5,hall2⟩
    case measure=>simp[intOf];omega
  ·obtain rfl:k=4:=by omega
   have hres:=Aa (HYES.out hall.out);go_wp2;go_ret
   exact⟨(Ay hres.out).symm,E4⟩
theorem EE (m:Mac)(w:World)(h:m.ok)(hk:m.kind=0)(hv:vv m.x m.y)(hf : ¬ (m.x=0∧m.y=0∧m.modes=Bn∧m.lv=CI)):
 Calls Tryz.prog 62 #[.agg (ic m.zs)] w fun e w'=>e= .returned (.bool false)∧Ext w w':=by
 have H:=IB.new w 50 m.zs;have Hl:=Aa (Mac.zs_len h);have Hm:=Aa h;have Hk:=Aa hk;have Hfit:=Aa (show decide (m.x=0∧m.y=0∧m.modes=Bn∧m.lv=CI)=false by simpa using hf);have hmf:=O9;clear h hk hf;go_enter Tryz.func62,Tryz.ntmps62
 go_wp2_with (refine Ab 50 _ rfl rfl H 0 71 rfl _ Ro rfl Ah (by rw[Hl.out];omega) _ (by rw[Ak _ _ Hl.out]) ?_)
 refine(CK m _ Hm.out Hk.out).mono ?_
 rintro e w1 ⟨rfl,e1⟩
 have H1:=H.ext e1;have E1:=(Ext.alloc w (.cells (ic m.zs) 50)).trans e1;clear H e1;go_wp2_with (first|(refine Ab 45 _ rfl rfl H1 1 2 rfl _ Rr rfl Av (by rw[Hl.out];omega) _ Mac.zs_mv ?_))
 refine(AL m.x m.y _ hv).mono ?_
 rintro e w2 ⟨rfl,e2⟩
 have H2:=H1.ext e2;have E2:=E1.trans e2;clear H1 E1 e2 hv;go_wp2_with fail
 refine(Er m _ Hm.out false Hfit.out).mono ?_
 rintro e w3 ⟨rfl,e3⟩
 go_wp2;go_ret
 exact⟨rfl,E2.trans e3⟩
theorem EK (m:Mac)(w:World)(h:m.ok)(hk:m.kind=0)(hv : ¬ vv m.x m.y):
 Calls Tryz.prog 62 #[.agg (ic m.zs)] w fun e w'=>e= .returned (.bool false)∧Ext w w':=by
 have H:=IB.new w 50 m.zs;have Hl:=Aa (Mac.zs_len h);have Hm:=Aa h;have Hk:=Aa hk;clear h hk;go_enter Tryz.func62,Tryz.ntmps62
 go_wp2_with (refine Ab 50 _ rfl rfl H 0 71 rfl _ Ro rfl Ah (by rw[Hl.out];omega) _ (by rw[Ak _ _ Hl.out]) ?_)
 refine(CK m _ Hm.out Hk.out).mono ?_
 rintro e w1 ⟨rfl,e1⟩
 have H1:=H.ext e1;have E1:=(Ext.alloc w (.cells (ic m.zs) 50)).trans e1;clear H e1;go_wp2_with (first|(refine Ab 45 _ rfl rfl H1 1 2 rfl _ Rr rfl Av (by rw[Hl.out];omega) _ Mac.zs_mv ?_))
 refine(B5 m.x m.y _ hv).mono ?_
 rintro e w2 ⟨rfl,e2⟩
 clear hv H1;go_wp2;go_ret
 exact⟨rfl,E1.trans e2⟩
theorem Gw (m:Mac)(w:World)(h:m.ok)(hk:m.kind=1)(hv:vv m.x m.y)(hf:m.modes=Bn)(r:Bool)(hno:∀ k,k<4→inB 4080 (sub m.lv (k*16) 16)=false→r=false)(hyes:(∀ k,k<4→inB 4080 (sub m.lv (k*16) 16)=true)→r=true):
 Calls Tryz.prog 62 #[.agg (ic m.zs)] w fun e w'=>e= .returned (.bool r)∧Ext w w':=by
 have H:=IB.new w 50 m.zs;have Hl:=Aa (Mac.zs_len h);have Hm:=Aa h;have Hk:=Aa hk;have HNO:=Aa hno;have HYES:=Aa hyes;have Hfit:=Aa (show decide (m.modes=Bn)=true by simp[hf]);have hmf:=Pa;clear h hk hno hyes hf;go_enter Tryz.func62,Tryz.ntmps62
 go_wp2_with (refine Ab 50 _ rfl rfl H 0 71 rfl _ Ro rfl Ah (by rw[Hl.out];omega) _ (by rw[Ak _ _ Hl.out]) ?_)
 refine(CN m _ Hm.out Hk.out).mono ?_
 rintro e w1 ⟨rfl,e1⟩
 have H1:=H.ext e1;have E1:=(Ext.alloc w (.cells (ic m.zs) 50)).trans e1;clear H e1;go_wp2_with (first|(refine Ab 45 _ rfl rfl H1 1 2 rfl _ Rr rfl Av (by rw[Hl.out];omega) _ Mac.zs_mv ?_))
 refine(AL m.x m.y _ hv).mono ?_
 rintro e w2 ⟨rfl,e2⟩
 have H2:=H1.ext e2;have E2:=E1.trans e2;clear H1 E1 e2 hv;go_wp2_with fail
 refine(FI m _ Hm.out true Hfit.out).mono ?_
 rintro e w3 ⟨rfl,e3⟩
 have H3:=H2.ext e3;have E3:=E2.trans e3;clear H2 E2 e3 hmf;go_wp2_with (refine Ab 48 _ rfl rfl H3 7 64 rfl _ Rs rfl Be (by rw[Hl.out];omega) _ (by rw[Mac.zs_lv Hm.out]) ?_)
 go_loopw [23] (fun i wr=>∃ k:Nat,k≤4∧i= .int .i64 k∧Ext w wr∧Hid (∀ j,j<k→inB 4080 (sub m.lv (j*16) 16)=true)) (fun i _=>4-(intOf i).toNat)
 case atStart=>exact⟨0,by omega,rfl,E3,Aa (fun j hj=>by omega)⟩
 case round =>
  obtain⟨k,hk,rfl,E4,hall⟩:=hrel;clear H3 E3
  by_cases hlt:k<4
  ·have hbl:=Bv m.lv (k*16) 16 (by rw[Hm.out.lv];omega);have Hbl:=Aa hbl;have p0:=IB.new wr 47 (List.replicate 16 0);have Hsa:=Aa (Ak _ 16 hbl);clear hbl;go_wp2_with (first|(refine Bg _ _ _ rfl rfl m.lv rfl k 4 16 _ rfl rfl _ _ Rs Rm rfl Ag hlt ?_)|(refine Af _ _ _ rfl rfl p0 0 16 rfl _ rfl _ rfl Ag Hbl.out (by simp) ?_;intro w6 p6 g6;refine Hid.out ?_))
   rw[Ap (by rw[Hbl.out];rfl)]at p6;have E6:Ext w w6:=Ext.grown (E4.trans (Ext.alloc _ _)) g6 (fun q hq=>by cases hq;exact E4.size);clear g6 p0 E4;refine Aa ?_;go_wp2_with (refine Ab 47 _ rfl rfl p6 0 16 rfl _ Rm rfl Ag (by rw[Hbl.out];omega) _ (by rw[Hsa.out]) ?_)
   refine(A4 _ 4080 _ Hbl.out (by omega) (by omega)).mono ?_
   rintro e w5 ⟨rfl,e5⟩
   have E5:=E6.trans e5;clear E6 e5 p6;cases hb:inB 4080 (sub m.lv (k*16) 16)
   ·have hres:=Aa (HNO.out k hlt hb);clear hb;go_wp2;go_ret
    exact⟨(Ay hres.out).symm,E5⟩
   ·have hall2:=Aa (show ∀ j,j<k+1→inB 4080 (sub m.lv (j*16) 16)=true from fun j hj=>by
     by_cases hjk:j=k
     ·subst hjk;exact hb
     ·exact hall.out j (by omega))
    clear hb;go_wp2;go_roundw
    case rel=>exact⟨k+1,by omega,by go_num,E5,hall2⟩
    case measure=>simp[intOf];omega
  ·obtain rfl:k=4:=by omega
   have hres:=Aa (HYES.out hall.out);go_wp2;go_ret
   exact⟨(Ay hres.out).symm,E4⟩
theorem EF (m:Mac)(w:World)(h:m.ok)(hk:m.kind=1)(hv:vv m.x m.y)(hf : ¬ m.modes=Bn):
 Calls Tryz.prog 62 #[.agg (ic m.zs)] w fun e w'=>e= .returned (.bool false)∧Ext w w':=by
 have H:=IB.new w 50 m.zs;have Hl:=Aa (Mac.zs_len h);have Hm:=Aa h;have Hk:=Aa hk;have Hfit:=Aa (show decide (m.modes=Bn)=false by simpa using hf);have hmf:=Pa;clear h hk hf;go_enter Tryz.func62,Tryz.ntmps62
 go_wp2_with (refine Ab 50 _ rfl rfl H 0 71 rfl _ Ro rfl Ah (by rw[Hl.out];omega) _ (by rw[Ak _ _ Hl.out]) ?_)
 refine(CN m _ Hm.out Hk.out).mono ?_
 rintro e w1 ⟨rfl,e1⟩
 have H1:=H.ext e1;have E1:=(Ext.alloc w (.cells (ic m.zs) 50)).trans e1;clear H e1;go_wp2_with (first|(refine Ab 45 _ rfl rfl H1 1 2 rfl _ Rr rfl Av (by rw[Hl.out];omega) _ Mac.zs_mv ?_))
 refine(AL m.x m.y _ hv).mono ?_
 rintro e w2 ⟨rfl,e2⟩
 have H2:=H1.ext e2;have E2:=E1.trans e2;clear H1 E1 e2 hv;go_wp2_with fail
 refine(FI m _ Hm.out false Hfit.out).mono ?_
 rintro e w3 ⟨rfl,e3⟩
 go_wp2;go_ret
 exact⟨rfl,E2.trans e3⟩
theorem EL (m:Mac)(w:World)(h:m.ok)(hk:m.kind=1)(hv : ¬ vv m.x m.y):
 Calls Tryz.prog 62 #[.agg (ic m.zs)] w fun e w'=>e= .returned (.bool false)∧Ext w w':=by
 have H:=IB.new w 50 m.zs;have Hl:=Aa (Mac.zs_len h);have Hm:=Aa h;have Hk:=Aa hk;clear h hk;go_enter Tryz.func62,Tryz.ntmps62
 go_wp2_with (refine Ab 50 _ rfl rfl H 0 71 rfl _ Ro rfl Ah (by rw[Hl.out];omega) _ (by rw[Ak _ _ Hl.out]) ?_)
 refine(CN m _ Hm.out Hk.out).mono ?_
 rintro e w1 ⟨rfl,e1⟩
 have H1:=H.ext e1;have E1:=(Ext.alloc w (.cells (ic m.zs) 50)).trans e1;clear H e1;go_wp2_with (first|(refine Ab 45 _ rfl rfl H1 1 2 rfl _ Rr rfl Av (by rw[Hl.out];omega) _ Mac.zs_mv ?_))
 refine(B5 m.x m.y _ hv).mono ?_
 rintro e w2 ⟨rfl,e2⟩
 clear hv H1;go_wp2;go_ret
 exact⟨rfl,E1.trans e2⟩
theorem Gx (m:Mac)(w:World)(h:m.ok)(hk:m.kind=2)(hv:vv m.x m.y)(hf:∀ j,j<4→0≤nth m.modes j∧nth m.modes j≤4)(hxy:m.x=0∧m.y=0)(r:Bool)(hno:∀ k,k<4→inB 4080 (sub m.lv (k*16) 16)=false→r=false)(hyes:(∀ k,k<4→inB 4080 (sub m.lv (k*16) 16)=true)→r=true):
 Calls Tryz.prog 62 #[.agg (ic m.zs)] w fun e w'=>e= .returned (.bool r)∧Ext w w':=by
 have H:=IB.new w 50 m.zs;have Hl:=Aa (Mac.zs_len h);have Hm:=Aa h;have Hk:=Aa hk;have HNO:=Aa hno;have HYES:=Aa hyes;have Hfit:=Aa (⟨hf,by simp[hxy]⟩:(∀ j,j<4→0≤nth m.modes j∧nth m.modes j≤4)∧decide (m.x=0∧m.y=0)=true);have hmf:=MD;clear h hk hno hyes hf hxy;go_enter Tryz.func62,Tryz.ntmps62
 go_wp2_with (refine Ab 50 _ rfl rfl H 0 71 rfl _ Ro rfl Ah (by rw[Hl.out];omega) _ (by rw[Ak _ _ Hl.out]) ?_)
 refine(B8 m _ Hm.out Hk.out).mono ?_
 rintro e w1 ⟨rfl,e1⟩
 have H1:=H.ext e1;have E1:=(Ext.alloc w (.cells (ic m.zs) 50)).trans e1;clear H e1;go_wp2_with (first|(refine Ab 45 _ rfl rfl H1 1 2 rfl _ Rr rfl Av (by rw[Hl.out];omega) _ Mac.zs_mv ?_))
 refine(AL m.x m.y _ hv).mono ?_
 rintro e w2 ⟨rfl,e2⟩
 have H2:=H1.ext e2;have E2:=E1.trans e2;clear H1 E1 e2 hv;go_wp2_with fail
 refine(FJ m _ Hm.out Hfit.out.1 true Hfit.out.2).mono ?_
 rintro e w3 ⟨rfl,e3⟩
 have H3:=H2.ext e3;have E3:=E2.trans e3;clear H2 E2 e3 hmf;go_wp2_with (refine Ab 48 _ rfl rfl H3 7 64 rfl _ Rs rfl Be (by rw[Hl.out];omega) _ (by rw[Mac.zs_lv Hm.out]) ?_)
 go_loopw [23] (fun i wr=>∃ k:Nat,k≤4∧i= .int .i64 k∧Ext w wr∧Hid (∀ j,j<k→inB 4080 (sub m.lv (j*16) 16)=true)) (fun i _=>4-(intOf i).toNat)
 case atStart=>exact⟨0,by omega,rfl,E3,Aa (fun j hj=>by omega)⟩
 case round =>
  obtain⟨k,hk,rfl,E4,hall⟩:=hrel;clear H3 E3
  by_cases hlt:k<4
  ·have hbl:=Bv m.lv (k*16) 16 (by rw[Hm.out.lv];omega);have Hbl:=Aa hbl;have p0:=IB.new wr 47 (List.replicate 16 0);have Hsa:=Aa (Ak _ 16 hbl);clear hbl;go_wp2_with (first|(refine Bg _ _ _ rfl rfl m.lv rfl k 4 16 _ rfl rfl _ _ Rs Rm rfl Ag hlt ?_)|(refine Af _ _ _ rfl rfl p0 0 16 rfl _ rfl _ rfl Ag Hbl.out (by simp) ?_;intro w6 p6 g6;refine Hid.out ?_))
   rw[Ap (by rw[Hbl.out];rfl)]at p6;have E6:Ext w w6:=Ext.grown (E4.trans (Ext.alloc _ _)) g6 (fun q hq=>by cases hq;exact E4.size);clear g6 p0 E4;refine Aa ?_;go_wp2_with (refine Ab 47 _ rfl rfl p6 0 16 rfl _ Rm rfl Ag (by rw[Hbl.out];omega) _ (by rw[Hsa.out]) ?_)
   refine(A4 _ 4080 _ Hbl.out (by omega) (by omega)).mono ?_
   rintro e w5 ⟨rfl,e5⟩
   have E5:=E6.trans e5;clear E6 e5 p6;cases hb:inB 4080 (sub m.lv (k*16) 16)
   ·have hres:=Aa (HNO.out k hlt hb);clear hb;go_wp2;go_ret
    exact⟨(Ay hres.out).symm,E5⟩
   ·have hall2:=Aa (show ∀ j,j<k+1→inB 4080 (sub m.lv (j*16) 16)=true from fun j hj=>by
     by_cases hjk:j=k
     ·subst hjk;exact hb
     ·exact hall.out j (by omega))
    clear hb;go_wp2;go_roundw
    case rel=>exact⟨k+1,by omega,by go_num,E5,hall2⟩
    case measure=>simp[intOf];omega
  ·obtain rfl:k=4:=by omega
   have hres:=Aa (HYES.out hall.out);go_wp2;go_ret
   exact⟨(Ay hres.out).symm,E4⟩
theorem EG (m:Mac)(w:World)(h:m.ok)(hk:m.kind=2)(hv:vv m.x m.y)(hf : ¬ ∀ j,j<4→0≤nth m.modes j∧nth m.modes j≤4):
 Calls Tryz.prog 62 #[.agg (ic m.zs)] w fun e w'=>e= .returned (.bool false)∧Ext w w':=by
 have H:=IB.new w 50 m.zs;have Hl:=Aa (Mac.zs_len h);have Hm:=Aa h;have Hk:=Aa hk;have Hfit:=Aa hf;have hmf:=MD;clear h hk hf;go_enter Tryz.func62,Tryz.ntmps62
 go_wp2_with (refine Ab 50 _ rfl rfl H 0 71 rfl _ Ro rfl Ah (by rw[Hl.out];omega) _ (by rw[Ak _ _ Hl.out]) ?_)
 refine(B8 m _ Hm.out Hk.out).mono ?_
 rintro e w1 ⟨rfl,e1⟩
 have H1:=H.ext e1;have E1:=(Ext.alloc w (.cells (ic m.zs) 50)).trans e1;clear H e1;go_wp2_with (first|(refine Ab 45 _ rfl rfl H1 1 2 rfl _ Rr rfl Av (by rw[Hl.out];omega) _ Mac.zs_mv ?_))
 refine(AL m.x m.y _ hv).mono ?_
 rintro e w2 ⟨rfl,e2⟩
 have H2:=H1.ext e2;have E2:=E1.trans e2;clear H1 E1 e2 hv;go_wp2_with fail
 refine(J9 m _ Hm.out Hfit.out).mono ?_
 rintro e w3 ⟨rfl,e3⟩
 go_wp2;go_ret
 exact⟨rfl,E2.trans e3⟩
theorem Eh (m:Mac)(w:World)(h:m.ok)(hk:m.kind=2)(hv:vv m.x m.y)(hf:(∀ j,j<4→0≤nth m.modes j∧nth m.modes j≤4) ∧ ¬ (m.x=0∧m.y=0)):
 Calls Tryz.prog 62 #[.agg (ic m.zs)] w fun e w'=>e= .returned (.bool false)∧Ext w w':=by
 have H:=IB.new w 50 m.zs;have Hl:=Aa (Mac.zs_len h);have Hm:=Aa h;have Hk:=Aa hk;have Hfit:=Aa hf;have hmf:=MD;clear h hk hf;go_enter Tryz.func62,Tryz.ntmps62
 go_wp2_with (refine Ab 50 _ rfl rfl H 0 71 rfl _ Ro rfl Ah (by rw[Hl.out];omega) _ (by rw[Ak _ _ Hl.out]) ?_)
 refine(B8 m _ Hm.out Hk.out).mono ?_
 rintro e w1 ⟨rfl,e1⟩
 have H1:=H.ext e1;have E1:=(Ext.alloc w (.cells (ic m.zs) 50)).trans e1;clear H e1;go_wp2_with (first|(refine Ab 45 _ rfl rfl H1 1 2 rfl _ Rr rfl Av (by rw[Hl.out];omega) _ Mac.zs_mv ?_))
 refine(AL m.x m.y _ hv).mono ?_
 rintro e w2 ⟨rfl,e2⟩
 have H2:=H1.ext e2;have E2:=E1.trans e2;clear H1 E1 e2 hv;go_wp2_with fail
 refine(FJ m _ Hm.out Hfit.out.1 false (by simpa using Hfit.out.2)).mono ?_
 rintro e w3 ⟨rfl,e3⟩
 go_wp2;go_ret
 exact⟨rfl,E2.trans e3⟩
theorem EN (m:Mac)(w:World)(h:m.ok)(hk:m.kind=2)(hv : ¬ vv m.x m.y):
 Calls Tryz.prog 62 #[.agg (ic m.zs)] w fun e w'=>e= .returned (.bool false)∧Ext w w':=by
 have H:=IB.new w 50 m.zs;have Hl:=Aa (Mac.zs_len h);have Hm:=Aa h;have Hk:=Aa hk;clear h hk;go_enter Tryz.func62,Tryz.ntmps62
 go_wp2_with (refine Ab 50 _ rfl rfl H 0 71 rfl _ Ro rfl Ah (by rw[Hl.out];omega) _ (by rw[Ak _ _ Hl.out]) ?_)
 refine(B8 m _ Hm.out Hk.out).mono ?_
 rintro e w1 ⟨rfl,e1⟩
 have H1:=H.ext e1;have E1:=(Ext.alloc w (.cells (ic m.zs) 50)).trans e1;clear H e1;go_wp2_with (first|(refine Ab 45 _ rfl rfl H1 1 2 rfl _ Rr rfl Av (by rw[Hl.out];omega) _ Mac.zs_mv ?_))
 refine(B5 m.x m.y _ hv).mono ?_
 rintro e w2 ⟨rfl,e2⟩
 clear hv H1;go_wp2;go_ret
 exact⟨rfl,E1.trans e2⟩
theorem EH (m:Mac)(w:World)(h:m.ok)(hk:m.kind<0∨2<m.kind):
 Calls Tryz.prog 62 #[.agg (ic m.zs)] w fun e w'=>e= .returned (.bool false)∧Ext w w':=by
 have H:=IB.new w 50 m.zs;have Hl:=Aa (Mac.zs_len h);have Hm:=Aa h;have Hk:=Aa hk;clear h hk;go_enter Tryz.func62,Tryz.ntmps62
 go_wp2_with (refine Ab 50 _ rfl rfl H 0 71 rfl _ Ro rfl Ah (by rw[Hl.out];omega) _ (by rw[Ak _ _ Hl.out]) ?_)
 refine(JB m _ Hm.out Hk.out).mono ?_
 rintro e w1 ⟨rfl,e1⟩
 have H1:=H.ext e1;have E1:=(Ext.alloc w (.cells (ic m.zs) 50)).trans e1;clear H e1;go_wp2;go_ret
 exact⟨rfl,E1⟩
theorem De (m:Mac)(w:World)(h:m.ok):
 Calls Tryz.prog 62 #[.agg (ic m.zs)] w fun e w'=>e= .returned (.bool (decide m.valid))∧Ext w w':=by
 by_cases hk:0≤m.kind∧m.kind≤2
 ·have hlv:=CB (B:=4080) h.lv
  by_cases hv:vv m.x m.y
  ·have step:∀ r:Bool,(r=true↔m.valid)→decide m.valid=r:=fun r hr=>by
    cases r
    ·exact decide_eq_false (fun h=>by have:=hr.2 h;cases this)
    ·exact decide_eq_true (hr.1 rfl)
   obtain hk0|hk1|hk2:m.kind=0∨m.kind=1∨m.kind=2:=by omega
   ·by_cases hf:m.x=0∧m.y=0∧m.modes=Bn∧m.lv=CI
    ·rw[step (inB 4080 m.lv) ⟨fun hb=>⟨hk,hv,fun _=>⟨hf.1,hf.2.1⟩,fun _=>hf.2.2.1,fun h=>by omega,fun _=>hf.2.2.2,hb⟩,fun h=>h.2.2.2.2.2.2⟩];refine Gv m w h hk0 hv hf.2.2 ⟨hf.1,hf.2.1⟩ _ (fun k hk hb => ?_) (fun hb=>hlv.2 hb);cases hc:inB 4080 m.lv
     ·rfl
     ·have:=hlv.1 hc k hk;rw[hb]at this;cases this
    ·rw[step false ⟨fun h=>(by cases h),fun h=>absurd ⟨(h.2.2.1 (by omega)).1,(h.2.2.1 (by omega)).2,h.2.2.2.1 (by omega),h.2.2.2.2.2.1 hk0⟩ hf⟩];exact EE m w h hk0 hv hf
   ·by_cases hf:m.modes=Bn
    ·rw[step (inB 4080 m.lv) ⟨fun hb=>⟨hk,hv,fun h=>absurd hk1 h,fun _=>hf,fun h=>by omega,fun h=>by omega,hb⟩,fun h=>h.2.2.2.2.2.2⟩];refine Gw m w h hk1 hv hf _ (fun k hk hb => ?_) (fun hb=>hlv.2 hb);cases hc:inB 4080 m.lv
     ·rfl
     ·have:=hlv.1 hc k hk;rw[hb]at this;cases this
    ·rw[step false ⟨fun h=>(by cases h),fun h=>absurd (h.2.2.2.1 (by omega)) hf⟩];exact EF m w h hk1 hv hf
   ·by_cases hf:∀ j,j<4→0≤nth m.modes j∧nth m.modes j≤4
    ·by_cases hxy:m.x=0∧m.y=0
     ·rw[step (inB 4080 m.lv) ⟨fun hb=>⟨hk,hv,fun _=>hxy,fun h=>absurd hk2 h,fun _=>hf,fun h=>by omega,hb⟩,fun h=>h.2.2.2.2.2.2⟩];refine Gx m w h hk2 hv hf hxy _ (fun k hk hb => ?_) (fun hb=>hlv.2 hb);cases hc:inB 4080 m.lv
      ·rfl
      ·have:=hlv.1 hc k hk;rw[hb]at this;cases this
     ·rw[step false ⟨fun h=>(by cases h),fun h=>absurd (h.2.2.1 (by omega)) hxy⟩];exact Eh m w h hk2 hv ⟨hf,hxy⟩
    ·rw[step false ⟨fun h=>(by cases h),fun h=>absurd (h.2.2.2.2.1 hk2) hf⟩];exact EG m w h hk2 hv hf
  ·rw[show decide m.valid=false from decide_eq_false (fun h=>hv h.2.1)];obtain hk0|hk1|hk2:m.kind=0∨m.kind=1∨m.kind=2:=by omega
   ·exact EK m w h hk0 hv
   ·exact EL m w h hk1 hv
   ·exact EN m w h hk2 hv
 ·rw[show decide m.valid=false from decide_eq_false (fun h=>hk h.1)];exact EH m w h (by omega)
def BJ (p:Pic)(x y:Int):Prop:=p.valid∧0≤x∧x<p.w∧x%8=0∧0≤y∧y<p.h∧y%8=0
instance (p : Pic) (x y : Int) : Decidable (BJ p x y) := by unfold BJ; infer_instance
def AS (p s:Pic):Prop:=p.valid∧s.valid∧p.w=s.w∧p.h=s.h
instance (p s : Pic) : Decidable (AS p s) := by unfold AS; infer_instance
def okR (ref p:Pic)(x y:Int)(m:Mac)(q top:Int):Prop:=BJ p x y∧m.valid∧(0≤q∧q≤15)∧(0≤top∧top≤y)∧(m.kind=2∨AS ref p)
noncomputable instance (ref p : Pic) (x y : Int) (m : Mac) (q top : Int) : Decidable (okR ref p x y m q top) := Classical.propDecidable _
theorem Ky (p s:Pic)(a b:Option Addr)(c d n m:Nat)(w:World)(hn:n=p.px.length)(hm:m=s.px.length)(nc:n≤9223372036854775807)(mc:m≤9223372036854775807)(r:Sl w a n (p.px.map (Value.int .i64)))(q:Sl w b m (s.px.map (Value.int .i64))):
 Calls Tryz.prog 16 #[.agg #[.int .i64 p.w,.int .i64 p.h,.slice a n c],.agg #[.int .i64 s.w,.int .i64 s.h,.slice b m d]] w fun e w'=>e= .returned (.bool (decide (AS p s)))∧Ext w w':=MV p s a b c d n m w hn hm nc mc r q
theorem Du (p s:Pic)(a b:Option Addr)(c d n m:Nat)(w:World)(hn:n=p.px.length)(hm:m=s.px.length)(nc:n≤9223372036854775807)(mc:m≤9223372036854775807)(r:Sl w a n (p.px.map (Value.int .i64)))(q:Sl w b m (s.px.map (Value.int .i64))):
 Calls Tryz.prog 21 #[.agg #[.int .i64 p.w,.int .i64 p.h,.slice a n c],.agg #[.int .i64 s.w,.int .i64 s.h,.slice b m d]] w fun e w'=>e= .returned (.bool (decide (AS p s)))∧Ext w w':=Oe p s a b c d n m w hn hm nc mc r q
theorem KD (q:Int)(w:World)(h:0≤q∧q≤15):Calls Tryz.prog 20 #[.int .i64 q] w fun e w'=>e= .returned (.bool true)∧w=w':=Bw q w h.1 h.2
theorem QV (q:Int)(w:World)(h : ¬ (0≤q∧q≤15)):Calls Tryz.prog 20 #[.int .i64 q] w fun e w'=>e= .returned (.bool false)∧w=w':=by
 by_cases h1:0≤q
 ·have d1:decide (0≤q)=true:=by simpa using h1
  have d2:decide (q≤15)=false:=by simp;omega
  go_enter Tryz.func20,Tryz.ntmps20
  go_wp2;go_ret
  exact⟨rfl,rfl⟩
 ·have d1:decide (0≤q)=false:=by simpa using h1
  go_enter Tryz.func20,Tryz.ntmps20
  go_wp2;go_ret
  exact⟨rfl,rfl⟩
structure RG (w : World) (base g n c : Nat) (ra : Option Addr) (rn rc W H : Nat) (ref : Pic) (m : Mac) (B : Nat) (Z : List Int) (wx : World) : Prop where
 gr:w.grownBy wx (some g)
 own:wx.ownsRow base 3 1 (.slice (some ⟨g,0,none⟩) n c) n (Z.map (Value.int .i64))
 b0:wx.heap[B]?=some (.cells #[.int .i64 W,.int .i64 H,.slice (some ⟨g,0,none⟩) n c] 30 (0,0))
 b1:wx.heap[B+1]?=some (.cells #[.int .i64 ref.w,.int .i64 ref.h,.slice ra rn rc] 30 (0,0))
 b2:IB wx (B+1+1) 50 m.zs
 gB:g<B
section
variable {w wx wy : World} {base g n c rn rc W H B : Nat} {ra : Option Addr} {ref : Pic} {m : Mac} {Z Z' : List Int}
theorem RG.ex (h:RG w base g n c ra rn rc W H ref m B Z wx)(e:Ext wx wy):RG w base g n c ra rn rc W H ref m B Z wy :=
 ⟨BH h.gr e,Ae h.own e,e.blk h.b0,e.blk h.b1,h.b2.ext e,h.gB⟩
theorem RG.drew (h:RG w base g n c ra rn rc W H ref m B Z wx):RG w base g n c ra rn rc W H ref m B Z wx.drew:=h.ex (Ext.drewN _ 1)
theorem RG.put (h:RG w base g n c ra rn rc W H ref m B Z wx)(gr:wx.grownBy wy (some g))(own:wy.ownsRow base 3 1 (.slice (some ⟨g,0,none⟩) n c) n (Z'.map (Value.int .i64))):RG w base g n c ra rn rc W H ref m B Z' wy:=by
 have:=h.gB;exact⟨grownBy_trans h.gr gr,own,Ar h.b0 gr (by simp;omega),Ar h.b1 gr (by simp;omega),h.b2.gr gr (by simp;omega),h.gB⟩
theorem RG.loc {b':Nat}(h:RG w base g n c ra rn rc W H ref m B Z wx)(gr:wx.grownBy wy (some b'))(hb:B+1+1<b')(hw:w.heap.size≤B):RG w base g n c ra rn rc W H ref m B Z wy:=by
 have:=h.gB;refine⟨⟨gr.os.trans h.gr.os,gr.tape.trans h.gr.tape,gr.output.trans h.gr.output,Nat.le_trans h.gr.size gr.size,fun k hk hne=>(gr.block k (Nat.lt_of_lt_of_le hk h.gr.size) (by simp;omega)).trans (h.gr.block k hk hne)⟩,h.own.kept gr (.inr (by simp[Value.ownBlock];omega)),Ar h.b0 gr (by simp;omega),Ar h.b1 gr (by simp;omega),h.b2.gr gr (by simp;omega),h.gB⟩
end
end Go.Proofs.YtijnbalgnhigbaaGreatDoor
namespace Go.Proofs.YtijnbalgnhigbaaGreatDoor
open Go.RowKit
theorem Fs (ref:Pic)(W H:Nat)(px:List Int)(x y:Nat)(m:Mac)(q:Nat)(top:Int)(k:Nat):bldS ref ⟨W,H,px⟩ x y m q top (k+1)=putS (bldS ref ⟨W,H,px⟩ x y m q top k) W (x+k%2*4) (y+k/2*4) (prK ref W H (bldS ref ⟨W,H,px⟩ x y m q top k) x y m top k) (dec (sub m.lv (k*16) 16) q) 16:=by
 show putS _ ((W:Int).toNat) _ _ _ _ _=_;rw[Int.toNat_natCast]
theorem Qb {b:List Int}(h:bdA 1048576 b):bdA 1099511627776 (ihad b):=KN (by omega) fun j hj=>by
 rw[Co]at hj;rw[JL _ hj];have:=KV h j;omega
theorem GM (l:List Int)(q:Nat):bdA 1099511627776 (dec l q):=Qb (EP (by omega) (KS l q) (by omega))
theorem Cf {b:List Int}(h:smp b):bdA 1099511627776 b:=KN (by omega) fun j hj=>by
 have:=AD h hj;omega
theorem JG {m:Mac}(h:m.ok)(hv:m.valid){k:Nat}(hk:k<4):inB 4080 (sub m.lv (k*16) 16)=true:=(CB h.lv).1 hv.2.2.2.2.2.2 k hk
theorem Mp {zs:List Int}(h:zs.length=64){k:Nat}(hk:k<4):(sub zs (k*16) 16).length=16:=Bv _ _ _ (by omega)
theorem Lp {w w':World}{g:Nat}(h:TabQ w)(gr:w.grownBy w' (some g))(hg:0≠g):TabQ w':=fun j hj=>by
 have h1:=h j hj;exact gr.cell h1 (by simp;omega)
theorem lv2' {a b:Nat}(h:a<b):(some b:Option Nat)≠some a:=by simp;omega
theorem lv2 {a b:Nat}(h:a<b):(some a:Option Nat)≠some b:=by simp;omega
theorem QZ (cs:Array Value)(w:World):(Instr.typeAssert (.iface 84 (.agg cs)) 82 84 true).run Tryz.prog w= .ok (.tuple #[.agg cs,.bool true]) w:=by kernel_rfl
theorem Q0 (cs:Array Value)(w:World):(Instr.typeAssert (.iface 84 (.agg cs)) 82 85 true).run Tryz.prog w= .ok (.tuple #[.agg (ic (List.replicate 71 0)),.bool false]) w:=by kernel_rfl
theorem Q4 (cs:Array Value)(w:World):(Instr.typeAssert (.iface 85 (.agg cs)) 82 84 true).run Tryz.prog w= .ok (.tuple #[.agg (ic (List.replicate 71 0)),.bool false]) w:=by kernel_rfl
theorem Q5 (cs:Array Value)(w:World):(Instr.typeAssert (.iface 85 (.agg cs)) 82 85 true).run Tryz.prog w= .ok (.tuple #[.agg cs,.bool true]) w:=by kernel_rfl
theorem Q6 (cs:Array Value)(w:World):(Instr.typeAssert (.iface 115 (.agg cs)) 82 84 true).run Tryz.prog w= .ok (.tuple #[.agg (ic (List.replicate 71 0)),.bool false]) w:=by kernel_rfl
theorem Q7 (cs:Array Value)(w:World):(Instr.typeAssert (.iface 115 (.agg cs)) 82 85 true).run Tryz.prog w= .ok (.tuple #[.agg (ic (List.replicate 71 0)),.bool false]) w:=by kernel_rfl
theorem OL (ref:Pic)(W H x y:Nat)(px:List Int)(m:Mac)(q:Nat)(top:Int)(ra:Option Addr)(rn rc base g n c:Nat)(w:World)(hT:TabQ w)(hbT:0<base)(own:w.ownsRow base 3 1 (.slice (some ⟨g,0,none⟩) n c) n (px.map (Value.int .i64)))
 (hp:BJ ⟨W,H,px⟩ x y) (hm:m.ok) (hv:m.valid) (hq:q<16) (hk:m.kind=2) :
 Calls Tryz.prog 25 #[.agg #[.int .i64 W,.int .i64 H,.slice (some ⟨g,0,none⟩) n c],.agg #[.int .i64 ref.w,.int .i64 ref.h,.slice ra rn rc],.int .i64 (x:Nat),.int .i64 (y:Nat),.agg (ic m.zs),.int .i64 q,.int .i64 top] w fun e w'=>e= .returned (.tuple #[])∧w'.ownsRow base 3 1 (.slice (some ⟨g,0,none⟩) n c) n ((bldS ref ⟨W,H,px⟩ x y m q top 4).map (Value.int .i64))∧w.grownBy w' (some g):=by
 obtain⟨hpv,hx0,hx1,hx8,hy0,hy1,hy8⟩:=hp;have hxx:x+8≤W:=by have h1:=hpv.1.2.2;simp only at hx1 h1;omega
 have hyy:y+8≤H:=by have h1:=hpv.2.1.2.2;simp only at hy1 h1;omega
 have hW32:W≤32:=by have:=hpv.1.2.1;simp only at this;omega
 have hH32:H≤32:=by have:=hpv.2.1.2.1;simp only at this;omega
 have hpl:n=px.length:=by have:=own.1;simpa using this.symm
 have hnW:n=W*H:=by
  have h1:=hpv.2.2.1;simp only[←Int.natCast_mul]at h1;rw[hpl];exact Int.ofNat.inj h1
 have hn1k:n≤1024:=by rw[hnW];exact Nat.mul_le_mul hW32 hH32
 have inn:∀ u v:Nat,u+4≤H→v+4≤W→(u+3)*W+v+3<n:=fun u v h1 h2=>by
  have h3:=Nat.mul_le_mul_right W (show u+4≤H by omega);rw[Nat.add_mul,Nat.mul_comm H W,←hnW]at h3;rw[Nat.add_mul];omega
 have Inn:=Aa inn;have HV:=Aa (fun k=>BM hpv ref x y m q top k);have HL:=Aa (fun k=>show n=(bldS ref ⟨W,H,px⟩ x y m q top k).length by rw[CR,hpl]);have Hmv:=Aa hv;have Hm:=Aa hm;have Hl:=Aa (Mac.zs_len hm);have HK:=Aa hk;have hbg:base≤g:=(own.lt g rfl).1;have hgT:0≠g:=by omega
 have hgw:g<w.heap.size:=(own.lt g rfl).2;have R0:RG w base g n c ra rn rc W H ref m w.heap.size px (((w.alloc (.cells #[.int .i64 W,.int .i64 H,.slice (some ⟨g,0,none⟩) n c] 30)).alloc (.cells #[.int .i64 ref.w,.int .i64 ref.h,.slice ra rn rc] 30)).alloc (.cells (ic m.zs) 50)):=by
  have a1:=Ext.alloc w (.cells #[.int .i64 W,.int .i64 H,.slice (some ⟨g,0,none⟩) n c] 30);have a2:=Ext.alloc (w.alloc (.cells #[.int .i64 W,.int .i64 H,.slice (some ⟨g,0,none⟩) n c] 30)) (.cells #[.int .i64 ref.w,.int .i64 ref.h,.slice ra rn rc] 30);have a3:=Ext.alloc ((w.alloc (.cells #[.int .i64 W,.int .i64 H,.slice (some ⟨g,0,none⟩) n c] 30)).alloc (.cells #[.int .i64 ref.w,.int .i64 ref.h,.slice ra rn rc] 30)) (.cells (ic m.zs) 50);have q1:=a3.blk (Aj (w.alloc (.cells #[.int .i64 W,.int .i64 H,.slice (some ⟨g,0,none⟩) n c] 30)) (.cells #[.int .i64 ref.w,.int .i64 ref.h,.slice ra rn rc] 30));have q2:=IB.new ((w.alloc (.cells #[.int .i64 W,.int .i64 H,.slice (some ⟨g,0,none⟩) n c] 30)).alloc (.cells #[.int .i64 ref.w,.int .i64 ref.h,.slice ra rn rc] 30)) 50 m.zs;simp only[World.size_alloc]at q1 q2;exact⟨BH (BV _ _) ((a1.trans a2).trans a3),Ae own ((a1.trans a2).trans a3),a3.blk (a2.blk (Aj _ _)),q1,q2,hgw⟩
 have HT:=Aa hT;have ta1:=Q6;have ta2:=Q7;have hnil:=fun(w:World) (a:Option Addr) (n c:Nat)=>Lib.run_eql_slice_nil (P:=Tryz.prog) w 22 3 a n c 0 0 Rv
 have r2:=R0.b2;clear hpv hpl hnW inn hv hm hk own hx8 hy8 hT hx0 hy0 hx1 hy1;go_enter Tryz.func25,Tryz.ntmps25
 go_wp2_with (refine Ab 50 _ rfl rfl r2 0 71 rfl _ Ro rfl Ah (by rw[Hl.out];omega) _ (by rw[Ak _ _ Hl.out]) ?_)
 try simp only[World.size_alloc]
 obtain⟨B,hB⟩:∃ B,B=w.heap.size:=⟨_,rfl⟩;rw[←hB]at R0 r2⊢;have hwB:w.heap.size≤B:=by omega
 have HB:=Aa hB;clear hB r2;refine(B8 m _ Hm.out HK.out).mono ?_
 rintro e w1 ⟨rfl,e1⟩
 have R1:=R0.ex e1;clear R0 e1;have r2:=R1.b2;go_wp2_with (refine Ab 48 _ rfl rfl r2 7 64 rfl _ Rs rfl Be (by rw[Hl.out];omega) _ (by rw[Mac.zs_lv Hm.out]) ?_)
 clear r2;go_loopw [37] (fun i wr=>∃ k:Nat,k≤4∧i= .int .i64 k∧RG w base g n c ra rn rc W H ref m B (bldS ref ⟨W,H,px⟩ x y m q top k) wr) (fun i _=>4-(intOf i).toNat)
 case atStart=>exact⟨0,by omega,rfl,R1⟩
 case round =>
  obtain⟨k,hk,rfl,R3⟩:=hrel;clear R1
  by_cases hlt:k<4
  ·have hd:decide ((k:Int)<4)=true:=by simp;omega
   have hZv:=HV.out k;have hZn:=HL.out k;have Hst:=Aa (Fs ref W H px x y m q top k);obtain⟨Z,hZ⟩:∃ Z,Z=bldS ref ⟨W,H,px⟩ x y m q top k:=⟨_,rfl⟩;obtain⟨Z1,hZ1⟩:∃ Z,Z=bldS ref ⟨W,H,px⟩ x y m q top (k+1):=⟨_,rfl⟩;rw[←hZ]at R3 hZv hZn Hst;rw[←hZ1]at Hst;have HZ1:=Aa hZ1;have HZv:=Aa hZv;have HZn:=Aa hZn;obtain⟨xi,hxi⟩:∃ v,v=x+k%2*4:=⟨_,rfl⟩;obtain⟨yj,hyj⟩:∃ v,v=y+k/2*4:=⟨_,rfl⟩;have HPK:=Aa (show prK ref W H Z x y m top k=prd (nth m.modes k).toNat (edg ⟨W,H,Z⟩ ((x+k%2*4:Nat):Int) ((y+k/2*4:Nat):Int) top)from if_pos HK.out);rw[←hxi,←hyj]at Hst HPK;have hxi4:xi+4≤W:=by omega
   have hyj4:yj+4≤H:=by omega
   have Hxi:=Aa (show(x:Int)+(k:Int)%2*4=((xi:Nat):Int) by omega);have Hyj:=Aa (show(y:Int)+(k:Int)/2*4=((yj:Nat):Int) by omega);have hI:=Inn.out yj xi hyj4 hxi4;have hB16:=Mp Hm.out.lv hlt;have hBv:=JG Hm.out Hmv.out hlt;obtain⟨bk,hbk⟩:∃ b,b=sub m.lv (k*16) 16:=⟨_,rfl⟩;have Hbk:=Aa hbk;rw[←hbk]at hB16 hBv Hst;have HB16:=Aa hB16;have HBv:=Aa hBv;clear hZ hZ1 hxi hyj hbk hB16 hBv hZv hZn
   -- the block's levels are laid
   have ia:=IB.new wr 47 (List.replicate 16 0);have R4:=R3.ex (Ext.alloc wr (.cells (ic (List.replicate 16 0)) 47));have hO:=lt_of_block R3.b2;go_wp2_with (first|(refine Bg _ _ _ rfl rfl m.lv rfl k 4 16 _ rfl rfl _ _ Rs Rm rfl Ag hlt ?_)|(refine Af 47 _ _ rfl rfl ia 0 16 rfl _ rfl bk (by rw[Hbk.out]) Ag HB16.out (by simp) ?_;intro w5 i5 g5;refine Hid.out ?_))
   rw[Ap (by rw[HB16.out];simp)]at i5;have R5:=R4.loc g5 hO hwB;obtain⟨O,hOe⟩:∃ O,O=wr.heap.size:=⟨_,rfl⟩;rw[←hOe]at i5 g5 hO⊢;have HOe:=Aa hOe;clear hOe ia R4 R3 g5;refine Aa ?_;go_wp2_with fail
   refine(DL k _ hlt).mono ?_
   rintro e w6 ⟨rfl,rfl⟩
   have ib:=IB.new w5 47 (List.replicate 16 0);have R6:=R5.ex (Ext.alloc w5 (.cells (ic (List.replicate 16 0)) 47));have i6:=i5.alloc (.cells (ic (List.replicate 16 0)) 47);have hO2:=i5.lt;obtain⟨O2,hO2e⟩:∃ O,O=w5.heap.size:=⟨_,rfl⟩;rw[←hO2e]at ib hO2;have HO2:=Aa hO2e;have hb0:=R6.b0;have hgB:=R6.gB;obtain⟨E,hE⟩:∃ E,E=edg ⟨W,H,Z⟩ (xi:Int) (yj:Int) top:=⟨_,rfl⟩;have hEok:=Jw HZv.out (xi:Int) (yj:Int) top;rw[←hE]at hEok HPK;have HE:=Aa hE;have HEok:=Aa hEok;have hmr:=Hmv.out.2.2.2.2.1 HK.out k hlt;obtain⟨md,hmd⟩:∃ v:Nat,nth m.modes k=(v:Int):=⟨(nth m.modes k).toNat,by omega⟩;rw[hmd]at hmr;rw[hmd,Int.toNat_natCast]at HPK;have Hmd:=Aa hmd;obtain⟨PR,hPR⟩:∃ P,P=prd md E:=⟨_,rfl⟩;rw[←hPR]at HPK;rw[HPK.out]at Hst;have HPR:=Aa hPR;clear hE hEok hmd hPR;have hPl:PR.length=16:=by rw[HPR.out,A9]
   have HPl:=Aa hPl;have hPb:bdA 1099511627776 PR:=by rw[HPR.out];exact Cf (Dm _ HEok.out)
   have HPb:=Aa hPb;clear hPl hPb;go_wp2_with fail
   rw[←hO2e];clear hO2e;have G7:RG w base g n c ra rn rc W H ref m B Z (w5.alloc (.cells (ic (List.replicate 16 0)) 47))∧IB (w5.alloc (.cells (ic (List.replicate 16 0)) 47)) O 47 bk∧IB (w5.alloc (.cells (ic (List.replicate 16 0)) 47)) O2 47 (List.replicate 16 0):=⟨R6,i6,ib⟩;clear R5 i5 R6 i6 ib hb0;refine Am (by kernel_rfl) [(48,0),(49,1),(50,2),(51,3),(52,4),(53,5),(54,6),(55,7),(56,8),(57,9),(58,10),(59,11),(60,12),(61,13)] [[],[],[],[1,2],[],[],[4,5],[],[0,1,2,3,4,5,6,7],[],[],[9,10],[9,10,11],[0,1,2,3,4,5,6,7,8,9,10,11,12],[0,1,2,3,4,5,6,7,8,9,10,11,12,13]] (fun i own ys wx=>match i with|0=>own= .agg #[.int .i64 W,.int .i64 H,.slice (some ⟨g,0,none⟩) n c]|1=>own= .int .i64 (x:Nat)|2=>own= .int .i64 ((k:Int)%2*4)|3=>own= .int .i64 (xi:Nat)|4=>own= .int .i64 (y:Nat)|5=>own= .int .i64 ((k:Int)/2*4)|6=>own= .int .i64 (yj:Nat)|7=>own= .int .i64 top|8=>own= .agg (edC E)|9=>own= .int .i64 (k:Nat)|10=>own= .pointer (some ⟨B+1+1,3,none⟩)|11=>own= .pointer (some ⟨B+1+1,3+k,none⟩)|12=>own= .int .i64 (md:Nat)|13=>own= .agg (ic PR)|14=>True|_=>True) (fun Lx wx=>RG w base g n c ra rn rc W H ref m B Z wx∧IB wx O 47 bk∧IB wx O2 47 (if Lx 14=true then PR else(List.replicate 16 0))) (by kernel_rfl) (by kernel_rfl) (by kernel_rfl) ?g0_r1 ?gop_r1 ?gend_r1
   case g0_r1=>exact⟨G7.1.drew,G7.2.1.drewN 1,G7.2.2.drewN 1⟩
   case gop_r1 =>
    refine⟨?o0,?_,?_,?o3,?_,?_,?o6,?_,?o8,?_,?_,?o11,?o12,?o13,?o14,trivial⟩ <;> (intro Lx xs wx hG hl ha hb hD hI Qo Kx hK hQo;simp only[Ad,Nat.reduceAdd,Nat.reduceEqDiff,↓reduceIte]at hQo⊢)
    case o0 =>
     clear hl ha hb hD hI;obtain⟨-,k0,k1,k2,-⟩:=bx3 hG.1.b0;go_wp2;exact hK.out _ _ ⟨rfl,hG,kkp⟩
    case o3 =>
     clear hl ha hb;rw[ddq (hD 1 rfl),ddq (hD 2 rfl)]at hQo⊢;clear hD hI;go_wp2;exact hK.out _ _ ⟨by rw[←Hxi.out],hG,fun _ _ _ _ _ _ h=>h⟩
    case o6 =>
     clear hl ha hb;rw[ddq (hD 4 rfl),ddq (hD 5 rfl)]at hQo⊢;clear hD hI;go_wp2;exact hK.out _ _ ⟨by rw[←Hyj.out],hG,fun _ _ _ _ _ _ h=>h⟩
    case o8 =>
     clear hl ha hb;rw[ddq (hD 0 rfl),ddq (hD 3 rfl),ddq (hD 6 rfl),ddq (hD 7 rfl)]at hQo⊢;clear hD hI;go_wp2_with fail
     refine(Kr ⟨W,H,Z⟩ (xi:Int) (yj:Int) top (some ⟨g,0,none⟩) c n _ HZv.out HZn.out (Sl.of_owns hG.1.own) (by omega) (by omega) (by omega) (by omega)).mono ?_
     rintro e w9 ⟨rfl,e9⟩
     rw[←HE.out];go_wp2;exact hK.out _ _ ⟨rfl,⟨hG.1.ex e9,hG.2.1.ext e9,hG.2.2.ext e9⟩,fun _ _ _ _ _ _ h=>h⟩
    case o11 =>
     clear hl ha hb;rw[ddq (hD 9 rfl),ddq (hD 10 rfl)]at hQo⊢;clear hD hI;go_wp2;exact hK.out _ _ ⟨rfl,hG,kkp⟩
    case o12 =>
     clear hl ha hb;rw[ddq (hD 11 rfl)]at hQo⊢;clear hD hI;have cx:=hG.1.b2.cell (i:=3+k) (by rw[Hl.out];omega);rw[Mac.nth_mode Hm.out k hlt,Hmd.out]at cx;go_wp2;exact hK.out _ _ ⟨rfl,hG,kkp⟩
    case o13 =>
     clear hl ha hb;rw[ddq (hD 8 rfl),ddq (hD 12 rfl)]at hQo⊢;clear hD hI;go_wp2_with fail
     refine(Z7 E md _ HEok.out (by omega)).mono ?_
     rintro e w9 ⟨rfl,e9⟩
     rw[←HPR.out];go_wp2;exact hK.out _ _ ⟨rfl,⟨hG.1.ex e9,hG.2.1.ext e9,hG.2.2.ext e9⟩,fun _ _ _ _ _ _ h=>h⟩
    case o14 =>
     have l14:Lx 14=false:=hl;clear hl ha hb;rw[ddq (hD 13 rfl)]at hQo⊢;clear hD hI;rw[l14,ifF]at hG;refine Af 47 _ _ rfl rfl hG.2.2 0 16 rfl _ rfl PR rfl Ag HPl.out (by simp) ?_;intro w9 i9 g9;rw[Ap (by rw[HPl.out];simp)]at i9;exact hQo undef _ (hK.out _ _ ⟨trivial,⟨hG.1.loc g9 (by omega) hwB,hG.2.1.gr g9 (lv2' (by omega)),i9⟩,fun _ _ _ _ _ _ h=>h⟩)
    all_goals
     clear hl ha hb hD hI;go_wp2;exact hK.out _ _ ⟨rfl,hG,kkp⟩
   intro xs wx hV hG0;obtain⟨Lx,hL,hG⟩:=hG0;have l14:Lx 14=true:=hL 14 (by decide);clear hL hV;simp only[Ad,Nat.reduceAdd,Nat.reduceEqDiff,↓reduceIte];generalize xs 0=y0,xs 1=y1,xs 2=y2,xs 3=y3,xs 4=y4,xs 5=y5,xs 6=y6,xs 7=y7,xs 8=y8,xs 9=y9,xs 10=y10,xs 11=y11,xs 12=y12,xs 13=y13,xs 14=y14 at *
   replace hG:RG w base g n c ra rn rc W H ref m B Z wx∧IB wx O 47 bk∧IB wx O2 47 (if Lx 14=true then PR else(List.replicate 16 0)):=hG
   rw[l14,ifT]at hG;clear G7;obtain⟨RM,bM,pM⟩:=hG;go_wp2_with fail
   obtain⟨D,hD⟩:∃ D,D=dec bk q:=⟨_,rfl⟩;rw[←hD]at Hst;have HD:=Aa hD;have HDl:=Aa (show D.length=16 by rw[hD,Dg]);have HDb:=Aa (show bdA 1099511627776 D by rw[hD];exact GM _ _);clear hD;refine Am (by kernel_rfl) [(66,0),(67,1),(68,2),(69,3),(70,4),(71,5),(72,6),(73,7),(74,8),(75,9),(76,10),(77,11)] [[],[],[],[1,2],[],[],[4,5],[],[],[],[8,9],[0,1,2,3,4,5,6,7,8,9,10]] (fun i own ys wx=>match i with|0=>own= .agg #[.int .i64 W,.int .i64 H,.slice (some ⟨g,0,none⟩) n c]|1=>own= .int .i64 (x:Nat)|2=>own= .int .i64 ((k:Int)%2*4)|3=>own= .int .i64 (xi:Nat)|4=>own= .int .i64 (y:Nat)|5=>own= .int .i64 ((k:Int)/2*4)|6=>own= .int .i64 (yj:Nat)|7=>own= .agg (ic PR)|8=>own= .agg (ic bk)|9=>own= .int .i64 (q:Nat)|10=>own= .agg (ic D)|11=>True|_=>True) (fun Lx wx=>RG w base g n c ra rn rc W H ref m B (if Lx 11=true then Z1 else Z) wx∧IB wx O 47 bk∧IB wx O2 47 PR) (by kernel_rfl) (by kernel_rfl) (by kernel_rfl) ?g0_r2 ?gop_r2 ?gend_r2
   case g0_r2=>exact⟨RM.drew,bM.drewN 1,pM.drewN 1⟩
   case gop_r2 =>
    refine⟨?o0,?_,?_,?o3,?_,?_,?o6,?o7,?o8,?_,?o10,?o11,trivial⟩ <;> (intro Lx xs wx hG hl ha hb hD hI Qo Kx hK hQo;simp only[Ad,Nat.reduceAdd,Nat.reduceEqDiff,↓reduceIte]at hQo⊢)
    case o0 =>
     clear hl ha hb hD hI;obtain⟨-,k0,k1,k2,-⟩:=bx3 hG.1.b0;go_wp2;exact hK.out _ _ ⟨rfl,hG,kkp⟩
    case o3 =>
     clear hl ha hb;rw[ddq (hD 1 rfl),ddq (hD 2 rfl)]at hQo⊢;clear hD hI;go_wp2;exact hK.out _ _ ⟨by rw[←Hxi.out],hG,fun _ _ _ _ _ _ h=>h⟩
    case o6 =>
     clear hl ha hb;rw[ddq (hD 4 rfl),ddq (hD 5 rfl)]at hQo⊢;clear hD hI;go_wp2;exact hK.out _ _ ⟨by rw[←Hyj.out],hG,fun _ _ _ _ _ _ h=>h⟩
    case o7 =>
     clear hl ha hb hD hI;go_wp2_with (refine Ab 47 _ rfl rfl hG.2.2 0 16 rfl _ Rm rfl Ag (by rw[HPl.out];omega) _ (by rw[Ak _ _ HPl.out]) ?_)
     exact hK.out _ _ ⟨rfl,hG,kkp⟩
    case o8 =>
     clear hl ha hb hD hI;go_wp2_with (refine Ab 47 _ rfl rfl hG.2.1 0 16 rfl _ Rm rfl Ag (by rw[HB16.out];omega) _ (by rw[Ak _ _ HB16.out]) ?_)
     exact hK.out _ _ ⟨rfl,hG,kkp⟩
    case o10 =>
     clear hl ha hb;rw[ddq (hD 8 rfl),ddq (hD 9 rfl)]at hQo⊢;clear hD hI;have hTx:=Lp HT.out hG.1.gr hgT;go_wp2_with fail
     refine(Ca bk q _ hTx HB16.out HBv.out hq).mono ?_
     rintro e w9 ⟨rfl,e9⟩
     rw[←HD.out];go_wp2;exact hK.out _ _ ⟨rfl,⟨hG.1.ex e9,hG.2.1.ext e9,hG.2.2.ext e9⟩,fun _ _ _ _ _ _ h=>h⟩
    case o11 =>
     have l11:Lx 11=false:=hl;clear hl ha hb;rw[ddq (hD 0 rfl),ddq (hD 3 rfl),ddq (hD 6 rfl),ddq (hD 7 rfl),ddq (hD 10 rfl)]at hQo⊢;clear hD hI;rw[l11,ifF]at hG;go_wp2_with fail
     refine(Ji W H xi yj base g n c Z PR D _ HPl.out HDl.out HPb.out HDb.out hW32 (by omega) (by omega) hI (by omega) hG.1.own).mono ?_
     rintro e w9 ⟨rfl,o9,g9⟩
     go_wp2;rw[←Hst.out]at o9;exact hK.out _ _ ⟨trivial,⟨hG.1.put g9 o9,hG.2.1.gr g9 (lv2 (by omega)),hG.2.2.gr g9 (lv2 (by omega))⟩,fun _ _ _ _ _ _ h=>h⟩
    all_goals
     clear hl ha hb hD hI;go_wp2;exact hK.out _ _ ⟨rfl,hG,kkp⟩
   intro xs wx hV hG0;obtain⟨Lx,hL,hG⟩:=hG0;have l11:Lx 11=true:=hL 11 (by decide);clear hL hV;simp only[Ad,Nat.reduceAdd,Nat.reduceEqDiff,↓reduceIte];generalize xs 0=y0,xs 1=y1,xs 2=y2,xs 3=y3,xs 4=y4,xs 5=y5,xs 6=y6,xs 7=y7,xs 8=y8,xs 9=y9,xs 10=y10,xs 11=y11 at *
   replace hG:RG w base g n c ra rn rc W H ref m B (if Lx 11=true then Z1 else Z) wx∧IB wx O 47 bk∧IB wx O2 47 PR:=hG
   rw[l11,ifT]at hG;clear RM bM pM;have HG:=Aa hG;clear hG;go_wp2;go_roundw
   case rel=>exact⟨k+1,by omega,by go_num,by rw[←HZ1.out];exact HG.out.1⟩
   case measure=>simp[intOf];omega
  ·obtain rfl:k=4:=by omega
   have HR:=Aa R3;clear R3;go_wp2;go_end0
   exact⟨rfl,HR.out.own,HR.out.gr⟩
theorem ON (ref:Pic)(W H x y:Nat)(px:List Int)(m:Mac)(q:Nat)(top:Int)(ra:Option Addr)(rn rc base g n c:Nat)(w:World)(hT:TabQ w)(hbT:0<base)(own:w.ownsRow base 3 1 (.slice (some ⟨g,0,none⟩) n c) n (px.map (Value.int .i64)))
 (hp:BJ ⟨W,H,px⟩ x y) (hm:m.ok) (hv:m.valid) (hq:q<16) (hk:m.kind=0) (hrv:ref.valid) (hrn:rn=ref.px.length) (hr:Sl w ra rn (ref.px.map (Value.int .i64))) (hrg:∀ z,ra=some z→z.block≠g) :
 Calls Tryz.prog 25 #[.agg #[.int .i64 W,.int .i64 H,.slice (some ⟨g,0,none⟩) n c],.agg #[.int .i64 ref.w,.int .i64 ref.h,.slice ra rn rc],.int .i64 (x:Nat),.int .i64 (y:Nat),.agg (ic m.zs),.int .i64 q,.int .i64 top] w fun e w'=>e= .returned (.tuple #[])∧w'.ownsRow base 3 1 (.slice (some ⟨g,0,none⟩) n c) n ((bldS ref ⟨W,H,px⟩ x y m q top 4).map (Value.int .i64))∧w.grownBy w' (some g):=by
 obtain⟨hpv,hx0,hx1,hx8,hy0,hy1,hy8⟩:=hp;have hxx:x+8≤W:=by have h1:=hpv.1.2.2;simp only at hx1 h1;omega
 have hyy:y+8≤H:=by have h1:=hpv.2.1.2.2;simp only at hy1 h1;omega
 have hW32:W≤32:=by have:=hpv.1.2.1;simp only at this;omega
 have hH32:H≤32:=by have:=hpv.2.1.2.1;simp only at this;omega
 have hpl:n=px.length:=by have:=own.1;simpa using this.symm
 have hnW:n=W*H:=by
  have h1:=hpv.2.2.1;simp only[←Int.natCast_mul]at h1;rw[hpl];exact Int.ofNat.inj h1
 have hn1k:n≤1024:=by rw[hnW];exact Nat.mul_le_mul hW32 hH32
 have inn:∀ u v:Nat,u+4≤H→v+4≤W→(u+3)*W+v+3<n:=fun u v h1 h2=>by
  have h3:=Nat.mul_le_mul_right W (show u+4≤H by omega);rw[Nat.add_mul,Nat.mul_comm H W,←hnW]at h3;rw[Nat.add_mul];omega
 have Inn:=Aa inn;have HV:=Aa (fun k=>BM hpv ref x y m q top k);have HL:=Aa (fun k=>show n=(bldS ref ⟨W,H,px⟩ x y m q top k).length by rw[CR,hpl]);have Hmv:=Aa hv;have Hm:=Aa hm;have Hl:=Aa (Mac.zs_len hm);have HK:=Aa hk;have hbg:base≤g:=(own.lt g rfl).1;have hgT:0≠g:=by omega
 have hgw:g<w.heap.size:=(own.lt g rfl).2;have R0:RG w base g n c ra rn rc W H ref m w.heap.size px (((w.alloc (.cells #[.int .i64 W,.int .i64 H,.slice (some ⟨g,0,none⟩) n c] 30)).alloc (.cells #[.int .i64 ref.w,.int .i64 ref.h,.slice ra rn rc] 30)).alloc (.cells (ic m.zs) 50)):=by
  have a1:=Ext.alloc w (.cells #[.int .i64 W,.int .i64 H,.slice (some ⟨g,0,none⟩) n c] 30);have a2:=Ext.alloc (w.alloc (.cells #[.int .i64 W,.int .i64 H,.slice (some ⟨g,0,none⟩) n c] 30)) (.cells #[.int .i64 ref.w,.int .i64 ref.h,.slice ra rn rc] 30);have a3:=Ext.alloc ((w.alloc (.cells #[.int .i64 W,.int .i64 H,.slice (some ⟨g,0,none⟩) n c] 30)).alloc (.cells #[.int .i64 ref.w,.int .i64 ref.h,.slice ra rn rc] 30)) (.cells (ic m.zs) 50);have q1:=a3.blk (Aj (w.alloc (.cells #[.int .i64 W,.int .i64 H,.slice (some ⟨g,0,none⟩) n c] 30)) (.cells #[.int .i64 ref.w,.int .i64 ref.h,.slice ra rn rc] 30));have q2:=IB.new ((w.alloc (.cells #[.int .i64 W,.int .i64 H,.slice (some ⟨g,0,none⟩) n c] 30)).alloc (.cells #[.int .i64 ref.w,.int .i64 ref.h,.slice ra rn rc] 30)) 50 m.zs;simp only[World.size_alloc]at q1 q2;exact⟨BH (BV _ _) ((a1.trans a2).trans a3),Ae own ((a1.trans a2).trans a3),a3.blk (a2.blk (Aj _ _)),q1,q2,hgw⟩
 have HT:=Aa hT;have ta1:=QZ;have ta2:=Q0;have hnil:=fun(w:World) (a:Option Addr) (n c:Nat)=>Lib.run_eql_slice_nil (P:=Tryz.prog) w 22 3 a n c 0 0 Rv
 have r2:=R0.b2;clear hpv hpl hnW inn hv hm hk own hx8 hy8 hT;have Hrv:=Aa hrv;have Hrn:=Aa hrn;have Hrg:=Aa hrg;clear hrv hrn hrg hx0 hy0 hx1 hy1;go_enter Tryz.func25,Tryz.ntmps25
 go_wp2_with (refine Ab 50 _ rfl rfl r2 0 71 rfl _ Ro rfl Ah (by rw[Hl.out];omega) _ (by rw[Ak _ _ Hl.out]) ?_)
 try simp only[World.size_alloc]
 obtain⟨B,hB⟩:∃ B,B=w.heap.size:=⟨_,rfl⟩;rw[←hB]at R0 r2⊢;have hwB:w.heap.size≤B:=by omega
 have HB:=Aa hB;clear hB r2;refine(CK m _ Hm.out HK.out).mono ?_
 rintro e w1 ⟨rfl,e1⟩
 have R1:=R0.ex e1;clear R0 e1;have r2:=R1.b2;obtain⟨-,k0,k1,k2,-⟩:=bx3 R1.b1;have hrs:Sl w1 ra rn (ref.px.map (Value.int .i64)):=hr.grown R1.gr (fun z hz=>by have:=Hrg.out z hz;simp;omega);have hvv:=Hmv.out.2.1;go_wp2_with (refine Ab 45 _ rfl rfl r2 1 2 rfl _ Rr rfl Av (by rw[Hl.out];omega) _ Mac.zs_mv ?_)
 refine(Gl ref x y m.x m.y ra rc rn _ Hrv.out Hrn.out hrs (by omega) (by omega) (by omega) (by omega) hvv.1 hvv.2.1 hvv.2.2.1 hvv.2.2.2).mono ?_
 rintro e w2 ⟨a2,c2,rfl,o2,e2⟩
 have R2:=R1.ex e2;have hs1:=R1.gr.size;have ha2:∃ g2,a2=some ⟨g2,0,none⟩∧g2≠g:=by
  rcases o2.2 with⟨-,h0⟩|⟨g2,cc,cur,hv2,hb2,-⟩
  ·omega
  ·simp only[Value.slice.injEq]at hv2;exact⟨g2,hv2.1,by omega⟩
 obtain⟨g2,rfl,hg2⟩:=ha2;have s2:=Sl.of_owns o2;have Hb:=Aa (AQ ref x y m.x m.y);clear k0 k1 k2 r2 R1 e2 o2 hrs hr hvv;have r2:=R2.b2;go_wp2_with (refine Ab 48 _ rfl rfl r2 7 64 rfl _ Rs rfl Be (by rw[Hl.out];omega) _ (by rw[Mac.zs_lv Hm.out]) ?_)
 clear r2;go_loopw [37] (fun i wr=>∃ k:Nat,k≤4∧i= .int .i64 k∧RG w base g n c ra rn rc W H ref m B (bldS ref ⟨W,H,px⟩ x y m q top k) wr∧Hid (Sl wr (some ⟨g2,0,none⟩) 64 ((blkL ref x y m.x m.y).map (Value.int .i64)))) (fun i _=>4-(intOf i).toNat)
 case atStart=>exact⟨0,by omega,rfl,R2,Aa s2⟩
 case round =>
  obtain⟨k,hk,rfl,R3,S3⟩:=hrel;clear R2 s2
  by_cases hlt:k<4
  ·have hd:decide ((k:Int)<4)=true:=by simp;omega
   have hZv:=HV.out k;have hZn:=HL.out k;have Hst:=Aa (Fs ref W H px x y m q top k);obtain⟨Z,hZ⟩:∃ Z,Z=bldS ref ⟨W,H,px⟩ x y m q top k:=⟨_,rfl⟩;obtain⟨Z1,hZ1⟩:∃ Z,Z=bldS ref ⟨W,H,px⟩ x y m q top (k+1):=⟨_,rfl⟩;rw[←hZ]at R3 hZv hZn Hst;rw[←hZ1]at Hst;have HZ1:=Aa hZ1;have HZv:=Aa hZv;have HZn:=Aa hZn;obtain⟨xi,hxi⟩:∃ v,v=x+k%2*4:=⟨_,rfl⟩;obtain⟨yj,hyj⟩:∃ v,v=y+k/2*4:=⟨_,rfl⟩;have HPK:=Aa (show prK ref W H Z x y m top k=pof (blkL ref x y m.x m.y) (k%2*4) (k/2*4)from if_neg (by rw[HK.out];decide));rw[←hxi,←hyj]at Hst;have hxi4:xi+4≤W:=by omega
   have hyj4:yj+4≤H:=by omega
   have Hxi:=Aa (show(x:Int)+(k:Int)%2*4=((xi:Nat):Int) by omega);have Hyj:=Aa (show(y:Int)+(k:Int)/2*4=((yj:Nat):Int) by omega);have hI:=Inn.out yj xi hyj4 hxi4;have hB16:=Mp Hm.out.lv hlt;have hBv:=JG Hm.out Hmv.out hlt;obtain⟨bk,hbk⟩:∃ b,b=sub m.lv (k*16) 16:=⟨_,rfl⟩;have Hbk:=Aa hbk;rw[←hbk]at hB16 hBv Hst;have HB16:=Aa hB16;have HBv:=Aa hBv;clear hZ hZ1 hxi hyj hbk hB16 hBv hZv hZn
   -- the block's levels are laid
   have ia:=IB.new wr 47 (List.replicate 16 0);have R4:=R3.ex (Ext.alloc wr (.cells (ic (List.replicate 16 0)) 47));have hO:=lt_of_block R3.b2;have S4:=S3.out.ext (Ext.alloc wr (.cells (ic (List.replicate 16 0)) 47));go_wp2_with (first|(refine Bg _ _ _ rfl rfl m.lv rfl k 4 16 _ rfl rfl _ _ Rs Rm rfl Ag hlt ?_)|(refine Af 47 _ _ rfl rfl ia 0 16 rfl _ rfl bk (by rw[Hbk.out]) Ag HB16.out (by simp) ?_;intro w5 i5 g5;refine Hid.out ?_))
   rw[Ap (by rw[HB16.out];simp)]at i5;have R5:=R4.loc g5 hO hwB;have hg2r:g2<wr.heap.size:=by
    obtain⟨b8,o8,h8,c8⟩:=S3.out.int (show 0<64 by omega);simp only[Option.some.injEq,Addr.mk.injEq,and_true]at h8;rw[h8.1];exact World.block_lt_of_cell? _ _ c8
   have S5:=S4.grown g5 (fun z hz=>by cases hz;simp;omega);obtain⟨O,hOe⟩:∃ O,O=wr.heap.size:=⟨_,rfl⟩;rw[←hOe]at i5 g5 hO⊢;have HOe:=Aa hOe;clear hOe ia R4 R3 g5 S3 S4;refine Aa ?_;go_wp2_with fail
   refine(DL k _ hlt).mono ?_
   rintro e w6 ⟨rfl,rfl⟩
   have ib:=IB.new w5 47 (List.replicate 16 0);have R6:=R5.ex (Ext.alloc w5 (.cells (ic (List.replicate 16 0)) 47));have i6:=i5.alloc (.cells (ic (List.replicate 16 0)) 47);have hO2:=i5.lt;have S6:=S5.ext (Ext.alloc w5 (.cells (ic (List.replicate 16 0)) 47));obtain⟨O2,hO2e⟩:∃ O,O=w5.heap.size:=⟨_,rfl⟩;rw[←hO2e]at ib hO2;have HO2:=Aa hO2e;have hb0:=R6.b0;have hgB:=R6.gB;obtain⟨E,hE⟩:∃ E,E=edg ⟨W,H,Z⟩ (xi:Int) (yj:Int) top:=⟨_,rfl⟩;clear hE;obtain⟨PR,hPR⟩:∃ P,P=pof (blkL ref x y m.x m.y) (k%2*4) (k/2*4):=⟨_,rfl⟩;rw[←hPR]at HPK;rw[HPK.out]at Hst;have HPR:=Aa hPR;clear hPR;have hPl:PR.length=16:=by rw[HPR.out,BX]
   have HPl:=Aa hPl;have hPb:bdA 1099511627776 PR:=by rw[HPR.out];exact Cf (Gm (Bz Hrv.out _ _ _ _) (AQ _ _ _ _ _) (by omega) (by omega))
   have HPb:=Aa hPb;clear hPl hPb;go_wp2_with fail
   rw[←hO2e];clear hO2e;refine(GX (blkL ref x y m.x m.y) (k%2*4) (k/2*4) (by omega) (by omega) (some ⟨g2,0,none⟩) c2 _ S6).mono ?_
   rintro e w7 ⟨rfl,e7⟩
   rw[←HPR.out];have R7:=R6.ex e7;have i7:=i6.ext e7;have ib7:=ib.ext e7;have S7:=S6.ext e7;have hg2l:g2<w5.heap.size:=by
    obtain⟨b8,o8,h8,c8⟩:=S5.int (show 0<64 by omega);simp only[Option.some.injEq,Addr.mk.injEq,and_true]at h8;rw[h8.1];exact World.block_lt_of_cell? _ _ c8
   rw[←HO2.out]at hg2l;clear R5 i5 R6 i6 ib S5 S6 e7;go_wp2_with (refine Af 47 _ _ rfl rfl ib7 0 16 rfl _ rfl PR rfl Ag HPl.out (by simp) ?_;intro w8 pM g8;refine Hid.out ?_)
   rw[Ap (by rw[HPl.out];simp)]at pM;have RM:=R7.loc g8 (by omega) hwB;have bM:=i7.gr g8 (lv2' (by omega));have SM:=S7.grown g8 (fun z hz=>by cases hz;simp;omega);clear R7 i7 ib7 S7 g8;refine Aa ?_;go_wp2_with fail
   obtain⟨D,hD⟩:∃ D,D=dec bk q:=⟨_,rfl⟩;rw[←hD]at Hst;have HD:=Aa hD;have HDl:=Aa (show D.length=16 by rw[hD,Dg]);have HDb:=Aa (show bdA 1099511627776 D by rw[hD];exact GM _ _);clear hD;refine Am (by kernel_rfl) [(66,0),(67,1),(68,2),(69,3),(70,4),(71,5),(72,6),(73,7),(74,8),(75,9),(76,10),(77,11)] [[],[],[],[1,2],[],[],[4,5],[],[],[],[8,9],[0,1,2,3,4,5,6,7,8,9,10]] (fun i own ys wx=>match i with|0=>own= .agg #[.int .i64 W,.int .i64 H,.slice (some ⟨g,0,none⟩) n c]|1=>own= .int .i64 (x:Nat)|2=>own= .int .i64 ((k:Int)%2*4)|3=>own= .int .i64 (xi:Nat)|4=>own= .int .i64 (y:Nat)|5=>own= .int .i64 ((k:Int)/2*4)|6=>own= .int .i64 (yj:Nat)|7=>own= .agg (ic PR)|8=>own= .agg (ic bk)|9=>own= .int .i64 (q:Nat)|10=>own= .agg (ic D)|11=>True|_=>True) (fun Lx wx=>RG w base g n c ra rn rc W H ref m B (if Lx 11=true then Z1 else Z) wx∧IB wx O 47 bk∧IB wx O2 47 PR∧Sl wx (some ⟨g2,0,none⟩) 64 ((blkL ref x y m.x m.y).map (Value.int .i64))) (by kernel_rfl) (by kernel_rfl) (by kernel_rfl) ?g0_r3 ?gop_r3 ?gend_r3
   case g0_r3=>exact⟨RM.drew,bM.drewN 1,pM.drewN 1,SM.drewN 1⟩
   case gop_r3 =>
    refine⟨?o0,?_,?_,?o3,?_,?_,?o6,?o7,?o8,?_,?o10,?o11,trivial⟩ <;> (intro Lx xs wx hG hl ha hb hD hI Qo Kx hK hQo;simp only[Ad,Nat.reduceAdd,Nat.reduceEqDiff,↓reduceIte]at hQo⊢)
    case o0 =>
     clear hl ha hb hD hI;obtain⟨-,k0,k1,k2,-⟩:=bx3 hG.1.b0;go_wp2;exact hK.out _ _ ⟨rfl,hG,kkp⟩
    case o3 =>
     clear hl ha hb;rw[ddq (hD 1 rfl),ddq (hD 2 rfl)]at hQo⊢;clear hD hI;go_wp2;exact hK.out _ _ ⟨by rw[←Hxi.out],hG,fun _ _ _ _ _ _ h=>h⟩
    case o6 =>
     clear hl ha hb;rw[ddq (hD 4 rfl),ddq (hD 5 rfl)]at hQo⊢;clear hD hI;go_wp2;exact hK.out _ _ ⟨by rw[←Hyj.out],hG,fun _ _ _ _ _ _ h=>h⟩
    case o7 =>
     clear hl ha hb hD hI;go_wp2_with (refine Ab 47 _ rfl rfl hG.2.2.1 0 16 rfl _ Rm rfl Ag (by rw[HPl.out];omega) _ (by rw[Ak _ _ HPl.out]) ?_)
     exact hK.out _ _ ⟨rfl,hG,kkp⟩
    case o8 =>
     clear hl ha hb hD hI;go_wp2_with (refine Ab 47 _ rfl rfl hG.2.1 0 16 rfl _ Rm rfl Ag (by rw[HB16.out];omega) _ (by rw[Ak _ _ HB16.out]) ?_)
     exact hK.out _ _ ⟨rfl,hG,kkp⟩
    case o10 =>
     clear hl ha hb;rw[ddq (hD 8 rfl),ddq (hD 9 rfl)]at hQo⊢;clear hD hI;have hTx:=Lp HT.out hG.1.gr hgT;go_wp2_with fail
     refine(Ca bk q _ hTx HB16.out HBv.out hq).mono ?_
     rintro e w9 ⟨rfl,e9⟩
     rw[←HD.out];go_wp2;exact hK.out _ _ ⟨rfl,⟨hG.1.ex e9,hG.2.1.ext e9,hG.2.2.1.ext e9,hG.2.2.2.ext e9⟩,fun _ _ _ _ _ _ h=>h⟩
    case o11 =>
     have l11:Lx 11=false:=hl;clear hl ha hb;rw[ddq (hD 0 rfl),ddq (hD 3 rfl),ddq (hD 6 rfl),ddq (hD 7 rfl),ddq (hD 10 rfl)]at hQo⊢;clear hD hI;rw[l11,ifF]at hG;go_wp2_with fail
     refine(Ji W H xi yj base g n c Z PR D _ HPl.out HDl.out HPb.out HDb.out hW32 (by omega) (by omega) hI (by omega) hG.1.own).mono ?_
     rintro e w9 ⟨rfl,o9,g9⟩
     go_wp2;rw[←Hst.out]at o9;exact hK.out _ _ ⟨trivial,⟨hG.1.put g9 o9,hG.2.1.gr g9 (lv2 (by omega)),hG.2.2.1.gr g9 (lv2 (by omega)),hG.2.2.2.grown g9 (fun z hz=>by cases hz;simpa using hg2)⟩,fun _ _ _ _ _ _ h=>h⟩
    all_goals
     clear hl ha hb hD hI;go_wp2;exact hK.out _ _ ⟨rfl,hG,kkp⟩
   intro xs wx hV hG0;obtain⟨Lx,hL,hG⟩:=hG0;have l11:Lx 11=true:=hL 11 (by decide);clear hL hV;simp only[Ad,Nat.reduceAdd,Nat.reduceEqDiff,↓reduceIte];generalize xs 0=y0,xs 1=y1,xs 2=y2,xs 3=y3,xs 4=y4,xs 5=y5,xs 6=y6,xs 7=y7,xs 8=y8,xs 9=y9,xs 10=y10,xs 11=y11 at *
   replace hG:RG w base g n c ra rn rc W H ref m B (if Lx 11=true then Z1 else Z) wx∧IB wx O 47 bk∧IB wx O2 47 PR∧Sl wx (some ⟨g2,0,none⟩) 64 ((blkL ref x y m.x m.y).map (Value.int .i64)):=hG
   rw[l11,ifT]at hG;clear RM bM pM SM;have HG:=Aa hG;clear hG;go_wp2;go_roundw
   case rel=>exact⟨k+1,by omega,by go_num,by rw[←HZ1.out];exact HG.out.1,Aa HG.out.2.2.2⟩
   case measure=>simp[intOf];omega
  ·obtain rfl:k=4:=by omega
   have HR:=Aa R3;clear R3;go_wp2;go_end0
   exact⟨rfl,HR.out.own,HR.out.gr⟩
theorem OM (ref:Pic)(W H x y:Nat)(px:List Int)(m:Mac)(q:Nat)(top:Int)(ra:Option Addr)(rn rc base g n c:Nat)(w:World)(hT:TabQ w)(hbT:0<base)(own:w.ownsRow base 3 1 (.slice (some ⟨g,0,none⟩) n c) n (px.map (Value.int .i64)))
 (hp:BJ ⟨W,H,px⟩ x y) (hm:m.ok) (hv:m.valid) (hq:q<16) (hk:m.kind=1) (hrv:ref.valid) (hrn:rn=ref.px.length) (hr:Sl w ra rn (ref.px.map (Value.int .i64))) (hrg:∀ z,ra=some z→z.block≠g) :
 Calls Tryz.prog 25 #[.agg #[.int .i64 W,.int .i64 H,.slice (some ⟨g,0,none⟩) n c],.agg #[.int .i64 ref.w,.int .i64 ref.h,.slice ra rn rc],.int .i64 (x:Nat),.int .i64 (y:Nat),.agg (ic m.zs),.int .i64 q,.int .i64 top] w fun e w'=>e= .returned (.tuple #[])∧w'.ownsRow base 3 1 (.slice (some ⟨g,0,none⟩) n c) n ((bldS ref ⟨W,H,px⟩ x y m q top 4).map (Value.int .i64))∧w.grownBy w' (some g):=by
 obtain⟨hpv,hx0,hx1,hx8,hy0,hy1,hy8⟩:=hp;have hxx:x+8≤W:=by have h1:=hpv.1.2.2;simp only at hx1 h1;omega
 have hyy:y+8≤H:=by have h1:=hpv.2.1.2.2;simp only at hy1 h1;omega
 have hW32:W≤32:=by have:=hpv.1.2.1;simp only at this;omega
 have hH32:H≤32:=by have:=hpv.2.1.2.1;simp only at this;omega
 have hpl:n=px.length:=by have:=own.1;simpa using this.symm
 have hnW:n=W*H:=by
  have h1:=hpv.2.2.1;simp only[←Int.natCast_mul]at h1;rw[hpl];exact Int.ofNat.inj h1
 have hn1k:n≤1024:=by rw[hnW];exact Nat.mul_le_mul hW32 hH32
 have inn:∀ u v:Nat,u+4≤H→v+4≤W→(u+3)*W+v+3<n:=fun u v h1 h2=>by
  have h3:=Nat.mul_le_mul_right W (show u+4≤H by omega);rw[Nat.add_mul,Nat.mul_comm H W,←hnW]at h3;rw[Nat.add_mul];omega
 have Inn:=Aa inn;have HV:=Aa (fun k=>BM hpv ref x y m q top k);have HL:=Aa (fun k=>show n=(bldS ref ⟨W,H,px⟩ x y m q top k).length by rw[CR,hpl]);have Hmv:=Aa hv;have Hm:=Aa hm;have Hl:=Aa (Mac.zs_len hm);have HK:=Aa hk;have hbg:base≤g:=(own.lt g rfl).1;have hgT:0≠g:=by omega
 have hgw:g<w.heap.size:=(own.lt g rfl).2;have R0:RG w base g n c ra rn rc W H ref m w.heap.size px (((w.alloc (.cells #[.int .i64 W,.int .i64 H,.slice (some ⟨g,0,none⟩) n c] 30)).alloc (.cells #[.int .i64 ref.w,.int .i64 ref.h,.slice ra rn rc] 30)).alloc (.cells (ic m.zs) 50)):=by
  have a1:=Ext.alloc w (.cells #[.int .i64 W,.int .i64 H,.slice (some ⟨g,0,none⟩) n c] 30);have a2:=Ext.alloc (w.alloc (.cells #[.int .i64 W,.int .i64 H,.slice (some ⟨g,0,none⟩) n c] 30)) (.cells #[.int .i64 ref.w,.int .i64 ref.h,.slice ra rn rc] 30);have a3:=Ext.alloc ((w.alloc (.cells #[.int .i64 W,.int .i64 H,.slice (some ⟨g,0,none⟩) n c] 30)).alloc (.cells #[.int .i64 ref.w,.int .i64 ref.h,.slice ra rn rc] 30)) (.cells (ic m.zs) 50);have q1:=a3.blk (Aj (w.alloc (.cells #[.int .i64 W,.int .i64 H,.slice (some ⟨g,0,none⟩) n c] 30)) (.cells #[.int .i64 ref.w,.int .i64 ref.h,.slice ra rn rc] 30));have q2:=IB.new ((w.alloc (.cells #[.int .i64 W,.int .i64 H,.slice (some ⟨g,0,none⟩) n c] 30)).alloc (.cells #[.int .i64 ref.w,.int .i64 ref.h,.slice ra rn rc] 30)) 50 m.zs;simp only[World.size_alloc]at q1 q2;exact⟨BH (BV _ _) ((a1.trans a2).trans a3),Ae own ((a1.trans a2).trans a3),a3.blk (a2.blk (Aj _ _)),q1,q2,hgw⟩
 have HT:=Aa hT;have ta1:=Q4;have ta2:=Q5;have hnil:=fun(w:World) (a:Option Addr) (n c:Nat)=>Lib.run_eql_slice_nil (P:=Tryz.prog) w 22 3 a n c 0 0 Rv
 have r2:=R0.b2;clear hpv hpl hnW inn hv hm hk own hx8 hy8 hT;have Hrv:=Aa hrv;have Hrn:=Aa hrn;have Hrg:=Aa hrg;clear hrv hrn hrg hx0 hy0 hx1 hy1;go_enter Tryz.func25,Tryz.ntmps25
 go_wp2_with (refine Ab 50 _ rfl rfl r2 0 71 rfl _ Ro rfl Ah (by rw[Hl.out];omega) _ (by rw[Ak _ _ Hl.out]) ?_)
 try simp only[World.size_alloc]
 obtain⟨B,hB⟩:∃ B,B=w.heap.size:=⟨_,rfl⟩;rw[←hB]at R0 r2⊢;have hwB:w.heap.size≤B:=by omega
 have HB:=Aa hB;clear hB r2;refine(CN m _ Hm.out HK.out).mono ?_
 rintro e w1 ⟨rfl,e1⟩
 have R1:=R0.ex e1;clear R0 e1;have r2:=R1.b2;obtain⟨-,k0,k1,k2,-⟩:=bx3 R1.b1;have hrs:Sl w1 ra rn (ref.px.map (Value.int .i64)):=hr.grown R1.gr (fun z hz=>by have:=Hrg.out z hz;simp;omega);have hvv:=Hmv.out.2.1;go_wp2_with (refine Ab 45 _ rfl rfl r2 1 2 rfl _ Rr rfl Av (by rw[Hl.out];omega) _ Mac.zs_mv ?_)
 refine(Gl ref x y m.x m.y ra rc rn _ Hrv.out Hrn.out hrs (by omega) (by omega) (by omega) (by omega) hvv.1 hvv.2.1 hvv.2.2.1 hvv.2.2.2).mono ?_
 rintro e w2 ⟨a2,c2,rfl,o2,e2⟩
 have R2:=R1.ex e2;have hs1:=R1.gr.size;have ha2:∃ g2,a2=some ⟨g2,0,none⟩∧g2≠g:=by
  rcases o2.2 with⟨-,h0⟩|⟨g2,cc,cur,hv2,hb2,-⟩
  ·omega
  ·simp only[Value.slice.injEq]at hv2;exact⟨g2,hv2.1,by omega⟩
 obtain⟨g2,rfl,hg2⟩:=ha2;have s2:=Sl.of_owns o2;have Hb:=Aa (AQ ref x y m.x m.y);clear k0 k1 k2 r2 R1 e2 o2 hrs hr hvv;have r2:=R2.b2;go_wp2_with (refine Ab 48 _ rfl rfl r2 7 64 rfl _ Rs rfl Be (by rw[Hl.out];omega) _ (by rw[Mac.zs_lv Hm.out]) ?_)
 clear r2;go_loopw [37] (fun i wr=>∃ k:Nat,k≤4∧i= .int .i64 k∧RG w base g n c ra rn rc W H ref m B (bldS ref ⟨W,H,px⟩ x y m q top k) wr∧Hid (Sl wr (some ⟨g2,0,none⟩) 64 ((blkL ref x y m.x m.y).map (Value.int .i64)))) (fun i _=>4-(intOf i).toNat)
 case atStart=>exact⟨0,by omega,rfl,R2,Aa s2⟩
 case round =>
  obtain⟨k,hk,rfl,R3,S3⟩:=hrel;clear R2 s2
  by_cases hlt:k<4
  ·have hd:decide ((k:Int)<4)=true:=by simp;omega
   have hZv:=HV.out k;have hZn:=HL.out k;have Hst:=Aa (Fs ref W H px x y m q top k);obtain⟨Z,hZ⟩:∃ Z,Z=bldS ref ⟨W,H,px⟩ x y m q top k:=⟨_,rfl⟩;obtain⟨Z1,hZ1⟩:∃ Z,Z=bldS ref ⟨W,H,px⟩ x y m q top (k+1):=⟨_,rfl⟩;rw[←hZ]at R3 hZv hZn Hst;rw[←hZ1]at Hst;have HZ1:=Aa hZ1;have HZv:=Aa hZv;have HZn:=Aa hZn;obtain⟨xi,hxi⟩:∃ v,v=x+k%2*4:=⟨_,rfl⟩;obtain⟨yj,hyj⟩:∃ v,v=y+k/2*4:=⟨_,rfl⟩;have HPK:=Aa (show prK ref W H Z x y m top k=pof (blkL ref x y m.x m.y) (k%2*4) (k/2*4)from if_neg (by rw[HK.out];decide));rw[←hxi,←hyj]at Hst;have hxi4:xi+4≤W:=by omega
   have hyj4:yj+4≤H:=by omega
   have Hxi:=Aa (show(x:Int)+(k:Int)%2*4=((xi:Nat):Int) by omega);have Hyj:=Aa (show(y:Int)+(k:Int)/2*4=((yj:Nat):Int) by omega);have hI:=Inn.out yj xi hyj4 hxi4;have hB16:=Mp Hm.out.lv hlt;have hBv:=JG Hm.out Hmv.out hlt;obtain⟨bk,hbk⟩:∃ b,b=sub m.lv (k*16) 16:=⟨_,rfl⟩;have Hbk:=Aa hbk;rw[←hbk]at hB16 hBv Hst;have HB16:=Aa hB16;have HBv:=Aa hBv;clear hZ hZ1 hxi hyj hbk hB16 hBv hZv hZn
   -- the block's levels are laid
   have ia:=IB.new wr 47 (List.replicate 16 0);have R4:=R3.ex (Ext.alloc wr (.cells (ic (List.replicate 16 0)) 47));have hO:=lt_of_block R3.b2;have S4:=S3.out.ext (Ext.alloc wr (.cells (ic (List.replicate 16 0)) 47));go_wp2_with (first|(refine Bg _ _ _ rfl rfl m.lv rfl k 4 16 _ rfl rfl _ _ Rs Rm rfl Ag hlt ?_)|(refine Af 47 _ _ rfl rfl ia 0 16 rfl _ rfl bk (by rw[Hbk.out]) Ag HB16.out (by simp) ?_;intro w5 i5 g5;refine Hid.out ?_))
   rw[Ap (by rw[HB16.out];simp)]at i5;have R5:=R4.loc g5 hO hwB;have hg2r:g2<wr.heap.size:=by
    obtain⟨b8,o8,h8,c8⟩:=S3.out.int (show 0<64 by omega);simp only[Option.some.injEq,Addr.mk.injEq,and_true]at h8;rw[h8.1];exact World.block_lt_of_cell? _ _ c8
   have S5:=S4.grown g5 (fun z hz=>by cases hz;simp;omega);obtain⟨O,hOe⟩:∃ O,O=wr.heap.size:=⟨_,rfl⟩;rw[←hOe]at i5 g5 hO⊢;have HOe:=Aa hOe;clear hOe ia R4 R3 g5 S3 S4;refine Aa ?_;go_wp2_with fail
   refine(DL k _ hlt).mono ?_
   rintro e w6 ⟨rfl,rfl⟩
   have ib:=IB.new w5 47 (List.replicate 16 0);have R6:=R5.ex (Ext.alloc w5 (.cells (ic (List.replicate 16 0)) 47));have i6:=i5.alloc (.cells (ic (List.replicate 16 0)) 47);have hO2:=i5.lt;have S6:=S5.ext (Ext.alloc w5 (.cells (ic (List.replicate 16 0)) 47));obtain⟨O2,hO2e⟩:∃ O,O=w5.heap.size:=⟨_,rfl⟩;rw[←hO2e]at ib hO2;have HO2:=Aa hO2e;have hb0:=R6.b0;have hgB:=R6.gB;obtain⟨E,hE⟩:∃ E,E=edg ⟨W,H,Z⟩ (xi:Int) (yj:Int) top:=⟨_,rfl⟩;clear hE;obtain⟨PR,hPR⟩:∃ P,P=pof (blkL ref x y m.x m.y) (k%2*4) (k/2*4):=⟨_,rfl⟩;rw[←hPR]at HPK;rw[HPK.out]at Hst;have HPR:=Aa hPR;clear hPR;have hPl:PR.length=16:=by rw[HPR.out,BX]
   have HPl:=Aa hPl;have hPb:bdA 1099511627776 PR:=by rw[HPR.out];exact Cf (Gm (Bz Hrv.out _ _ _ _) (AQ _ _ _ _ _) (by omega) (by omega))
   have HPb:=Aa hPb;clear hPl hPb;go_wp2_with fail
   rw[←hO2e];clear hO2e;refine(GX (blkL ref x y m.x m.y) (k%2*4) (k/2*4) (by omega) (by omega) (some ⟨g2,0,none⟩) c2 _ S6).mono ?_
   rintro e w7 ⟨rfl,e7⟩
   rw[←HPR.out];have R7:=R6.ex e7;have i7:=i6.ext e7;have ib7:=ib.ext e7;have S7:=S6.ext e7;have hg2l:g2<w5.heap.size:=by
    obtain⟨b8,o8,h8,c8⟩:=S5.int (show 0<64 by omega);simp only[Option.some.injEq,Addr.mk.injEq,and_true]at h8;rw[h8.1];exact World.block_lt_of_cell? _ _ c8
   rw[←HO2.out]at hg2l;clear R5 i5 R6 i6 ib S5 S6 e7;go_wp2_with (refine Af 47 _ _ rfl rfl ib7 0 16 rfl _ rfl PR rfl Ag HPl.out (by simp) ?_;intro w8 pM g8;refine Hid.out ?_)
   rw[Ap (by rw[HPl.out];simp)]at pM;have RM:=R7.loc g8 (by omega) hwB;have bM:=i7.gr g8 (lv2' (by omega));have SM:=S7.grown g8 (fun z hz=>by cases hz;simp;omega);clear R7 i7 ib7 S7 g8;refine Aa ?_;go_wp2_with fail
   obtain⟨D,hD⟩:∃ D,D=dec bk q:=⟨_,rfl⟩;rw[←hD]at Hst;have HD:=Aa hD;have HDl:=Aa (show D.length=16 by rw[hD,Dg]);have HDb:=Aa (show bdA 1099511627776 D by rw[hD];exact GM _ _);clear hD;refine Am (by kernel_rfl) [(66,0),(67,1),(68,2),(69,3),(70,4),(71,5),(72,6),(73,7),(74,8),(75,9),(76,10),(77,11)] [[],[],[],[1,2],[],[],[4,5],[],[],[],[8,9],[0,1,2,3,4,5,6,7,8,9,10]] (fun i own ys wx=>match i with|0=>own= .agg #[.int .i64 W,.int .i64 H,.slice (some ⟨g,0,none⟩) n c]|1=>own= .int .i64 (x:Nat)|2=>own= .int .i64 ((k:Int)%2*4)|3=>own= .int .i64 (xi:Nat)|4=>own= .int .i64 (y:Nat)|5=>own= .int .i64 ((k:Int)/2*4)|6=>own= .int .i64 (yj:Nat)|7=>own= .agg (ic PR)|8=>own= .agg (ic bk)|9=>own= .int .i64 (q:Nat)|10=>own= .agg (ic D)|11=>True|_=>True) (fun Lx wx=>RG w base g n c ra rn rc W H ref m B (if Lx 11=true then Z1 else Z) wx∧IB wx O 47 bk∧IB wx O2 47 PR∧Sl wx (some ⟨g2,0,none⟩) 64 ((blkL ref x y m.x m.y).map (Value.int .i64))) (by kernel_rfl) (by kernel_rfl) (by kernel_rfl) ?g0_r4 ?gop_r4 ?gend_r4
   case g0_r4=>exact⟨RM.drew,bM.drewN 1,pM.drewN 1,SM.drewN 1⟩
   case gop_r4 =>
    refine⟨?o0,?_,?_,?o3,?_,?_,?o6,?o7,?o8,?_,?o10,?o11,trivial⟩ <;> (intro Lx xs wx hG hl ha hb hD hI Qo Kx hK hQo;simp only[Ad,Nat.reduceAdd,Nat.reduceEqDiff,↓reduceIte]at hQo⊢)
    case o0 =>
     clear hl ha hb hD hI;obtain⟨-,k0,k1,k2,-⟩:=bx3 hG.1.b0;go_wp2;exact hK.out _ _ ⟨rfl,hG,kkp⟩
    case o3 =>
     clear hl ha hb;rw[ddq (hD 1 rfl),ddq (hD 2 rfl)]at hQo⊢;clear hD hI;go_wp2;exact hK.out _ _ ⟨by rw[←Hxi.out],hG,fun _ _ _ _ _ _ h=>h⟩
    case o6 =>
     clear hl ha hb;rw[ddq (hD 4 rfl),ddq (hD 5 rfl)]at hQo⊢;clear hD hI;go_wp2;exact hK.out _ _ ⟨by rw[←Hyj.out],hG,fun _ _ _ _ _ _ h=>h⟩
    case o7 =>
     clear hl ha hb hD hI;go_wp2_with (refine Ab 47 _ rfl rfl hG.2.2.1 0 16 rfl _ Rm rfl Ag (by rw[HPl.out];omega) _ (by rw[Ak _ _ HPl.out]) ?_)
     exact hK.out _ _ ⟨rfl,hG,kkp⟩
    case o8 =>
     clear hl ha hb hD hI;go_wp2_with (refine Ab 47 _ rfl rfl hG.2.1 0 16 rfl _ Rm rfl Ag (by rw[HB16.out];omega) _ (by rw[Ak _ _ HB16.out]) ?_)
     exact hK.out _ _ ⟨rfl,hG,kkp⟩
    case o10 =>
     clear hl ha hb;rw[ddq (hD 8 rfl),ddq (hD 9 rfl)]at hQo⊢;clear hD hI;have hTx:=Lp HT.out hG.1.gr hgT;go_wp2_with fail
     refine(Ca bk q _ hTx HB16.out HBv.out hq).mono ?_
     rintro e w9 ⟨rfl,e9⟩
     rw[←HD.out];go_wp2;exact hK.out _ _ ⟨rfl,⟨hG.1.ex e9,hG.2.1.ext e9,hG.2.2.1.ext e9,hG.2.2.2.ext e9⟩,fun _ _ _ _ _ _ h=>h⟩
    case o11 =>
     have l11:Lx 11=false:=hl;clear hl ha hb;rw[ddq (hD 0 rfl),ddq (hD 3 rfl),ddq (hD 6 rfl),ddq (hD 7 rfl),ddq (hD 10 rfl)]at hQo⊢;clear hD hI;rw[l11,ifF]at hG;go_wp2_with fail
     refine(Ji W H xi yj base g n c Z PR D _ HPl.out HDl.out HPb.out HDb.out hW32 (by omega) (by omega) hI (by omega) hG.1.own).mono ?_
     rintro e w9 ⟨rfl,o9,g9⟩
     go_wp2;rw[←Hst.out]at o9;exact hK.out _ _ ⟨trivial,⟨hG.1.put g9 o9,hG.2.1.gr g9 (lv2 (by omega)),hG.2.2.1.gr g9 (lv2 (by omega)),hG.2.2.2.grown g9 (fun z hz=>by cases hz;simpa using hg2)⟩,fun _ _ _ _ _ _ h=>h⟩
    all_goals
     clear hl ha hb hD hI;go_wp2;exact hK.out _ _ ⟨rfl,hG,kkp⟩
   intro xs wx hV hG0;obtain⟨Lx,hL,hG⟩:=hG0;have l11:Lx 11=true:=hL 11 (by decide);clear hL hV;simp only[Ad,Nat.reduceAdd,Nat.reduceEqDiff,↓reduceIte];generalize xs 0=y0,xs 1=y1,xs 2=y2,xs 3=y3,xs 4=y4,xs 5=y5,xs 6=y6,xs 7=y7,xs 8=y8,xs 9=y9,xs 10=y10,xs 11=y11 at *
   replace hG:RG w base g n c ra rn rc W H ref m B (if Lx 11=true then Z1 else Z) wx∧IB wx O 47 bk∧IB wx O2 47 PR∧Sl wx (some ⟨g2,0,none⟩) 64 ((blkL ref x y m.x m.y).map (Value.int .i64)):=hG
   rw[l11,ifT]at hG;clear RM bM pM SM;have HG:=Aa hG;clear hG;go_wp2;go_roundw
   case rel=>exact⟨k+1,by omega,by go_num,by rw[←HZ1.out];exact HG.out.1,Aa HG.out.2.2.2⟩
   case measure=>simp[intOf];omega
  ·obtain rfl:k=4:=by omega
   have HR:=Aa R3;clear R3;go_wp2;go_end0
   exact⟨rfl,HR.out.own,HR.out.gr⟩
end Go.Proofs.YtijnbalgnhigbaaGreatDoor
