/- Blocks out of pictures and of macroblocks; blocks put into pictures: both sides. | A block put into a picture: both sides. | The samples around a block, in memory; whole blocks stored. | The prediction of a sample from the samples around its block: both sides. -/
import Derived.Test.YtbnhaegidfbgbaaGreatDoorQr5
import Derived.Laws.Rows
set_option linter.unusedVariables false
set_option linter.unusedSimpArgs false
set_option maxRecDepth 100000
set_option maxHeartbeats 4000000
namespace Go.Proofs.YtbnhaegidfbgbaaGreatDoor
open Go.RowKit
theorem lenZ : (List.replicate 16 (0:Int)).length=16:=by simp
theorem partOf_any (L:List Int) (x y:Nat) (hx:x≤4) (hy:y≤4) (a:Option Addr) (c:Nat) (w:World) (r:Sl w a 64 (L.map (Value.int .i64))) :
 Calls Tryz.prog 72 #[.slice a 64 c,.int .i64 (x:Nat),.int .i64 (y:Nat)] w fun e w'=>e= .returned (.agg (ic (pof L (x) (y))))∧Ext w w':=by
 have HI:=Lib.hid (pof_len L (x) (y));have a2:=Ext.alloc (w.alloc (.cells (ic (List.replicate 16 0)) 29)) (.cells (ic (List.replicate 16 0)) 29);have p0:=(IB.new w 29 (List.replicate 16 0)).ext a2;have p1:=IB.new (w.alloc (.cells (ic (List.replicate 16 0)) 29)) 29 (List.replicate 16 0);have E1:=(Ext.alloc w (.cells (ic (List.replicate 16 0)) 29)).trans a2;simp only[World.size_alloc]at p1;clear a2;go_enter Tryz.func72,Tryz.ntmps72
 go_wp2_with fail
 try simp only[World.size_alloc]
 obtain⟨B,hB⟩:∃ B,B=w.heap.size:=⟨_,rfl⟩;rw[←hB]at p0 p1⊢;have hwB:w.heap.size≤B:=by omega
 have HB0:=Lib.hid hB;clear hB;go_loopw [9] (fun i wr=>∃ k:Nat,k≤16∧i= .int .i64 k∧Ext w wr∧IB wr B 29 (List.replicate 16 0)∧IB wr (B+1) 29 (mixI (pof L (x) (y)) (List.replicate 16 0) k)) (fun i _=>16-(intOf i).toNat)
 case atStart=>exact⟨0,by omega,rfl,E1,p0,by rw[mixI_zero];exact p1⟩
 case round =>
  obtain⟨k,hk,rfl,E4,r0,r1⟩:=hrel;clear p0 p1 E1
  by_cases hlt:k<16
  ·have hd:decide ((k:Int)<16)=true:=by simp;omega
   have hset:=mixI_set (pof L (x) (y)) (List.replicate 16 0) k 16 HI.out lenZ hlt;rw[nth_pof _ _ _ hlt]at hset;have Hset:=Lib.hid hset;have c1:=r1.cell (i:=k) (by rw[mixI_len _ _ _ 16 HI.out lenZ];exact hlt);have f1:=r1.frozen k;obtain⟨q,hq⟩:∃ q,q=(y+k/4)*8+x+k%4:=⟨_,rfl⟩;rw[←hq]at Hset;have hq64:q<64:=by omega
   obtain⟨b,off,rfl,hc⟩:=(r.ext E4).int hq64;have HQ:=Lib.hid hq;have hcc:wr.cell? ⟨b,off+((y+k/4)*8+x+k%4),none⟩=some (.int .i64 (nth L q)):=by rw[←HQ.out];exact hc
   clear hset hq hc;generalize nth L q=z at *;go_wp2;go_roundw
   case rel=>exact⟨k+1,by omega,by go_num,Ext.grown E4 (gr_set _ _ _ _) (fun q hq=>by cases hq;omega),r0.set_other (by omega),by rw[←Hset.out];exact r1.set k _⟩
   case measure=>simp[intOf];omega
  ·obtain rfl:k=16:=by omega
   rw[mixI_all _ _ 16 HI.out lenZ]at r1;go_wp2_with (first|(refine wpList_iload 29 _ rfl rfl r1 0 16 rfl _ Tryz.underlying29 rfl size_A16 (by rw[HI.out];omega) _ (by rw[sub_all _ _ (HI.out)]) ?_)|(refine wpList_istore 29 _ _ rfl rfl r0 0 16 rfl _ rfl _ rfl size_A16 (HI.out) (by simp) ?_;intro w6 p6 g6;refine Hid.out ?_))
   rw[spl_all (by rw[HI.out];simp)]at p6;have E6:Ext w w6:=Ext.grown E4 g6 (fun q hq=>by cases hq;omega);refine Lib.hid ?_;go_wp2;exact bodyPost_ret (v := .agg (ic (pof L (x) (y)))) (results_cell_row rfl _ _ B 29 (ic (pof L (x) (y))) (0,0) _ rfl p6 Tryz.underlying29 rfl (by rw[ic_size,pof_len];exact size_A16)) rfl ⟨rfl,E6⟩
theorem l8Part_any (L:List Int) (u:Nat) (hu:u<4) (a:Option Addr) (c:Nat) (w:World) (r:Sl w a 64 (L.map (Value.int .i64))) :
 Calls Tryz.prog 141 #[.slice a 64 c,.int .i64 (u:Nat)] w fun e w'=>e= .returned (.agg (ic (pof L (u%2*4) (u/2*4))))∧Ext w w':=by
 have HI:=Lib.hid (pof_len L (u%2*4) (u/2*4));have a2:=Ext.alloc (w.alloc (.cells (ic (List.replicate 16 0)) 29)) (.cells (ic (List.replicate 16 0)) 29);have p0:=(IB.new w 29 (List.replicate 16 0)).ext a2;have p1:=IB.new (w.alloc (.cells (ic (List.replicate 16 0)) 29)) 29 (List.replicate 16 0);have E1:=(Ext.alloc w (.cells (ic (List.replicate 16 0)) 29)).trans a2;simp only[World.size_alloc]at p1;clear a2;go_enter Tryz.func141,Tryz.ntmps141
 go_wp2_with fail
 try simp only[World.size_alloc]
 obtain⟨B,hB⟩:∃ B,B=w.heap.size:=⟨_,rfl⟩;rw[←hB]at p0 p1⊢;have hwB:w.heap.size≤B:=by omega
 have HB0:=Lib.hid hB;clear hB;go_loopw [6] (fun i wr=>∃ k:Nat,k≤16∧i= .int .i64 k∧Ext w wr∧IB wr B 29 (List.replicate 16 0)∧IB wr (B+1) 29 (mixI (pof L (u%2*4) (u/2*4)) (List.replicate 16 0) k)) (fun i _=>16-(intOf i).toNat)
 case atStart=>exact⟨0,by omega,rfl,E1,p0,by rw[mixI_zero];exact p1⟩
 case round =>
  obtain⟨k,hk,rfl,E4,r0,r1⟩:=hrel;clear p0 p1 E1
  by_cases hlt:k<16
  ·have hd:decide ((k:Int)<16)=true:=by simp;omega
   have hset:=mixI_set (pof L (u%2*4) (u/2*4)) (List.replicate 16 0) k 16 HI.out lenZ hlt;rw[nth_pof _ _ _ hlt]at hset;have Hset:=Lib.hid hset;have c1:=r1.cell (i:=k) (by rw[mixI_len _ _ _ 16 HI.out lenZ];exact hlt);have f1:=r1.frozen k;obtain⟨q,hq⟩:∃ q,q=(u/2*4+k/4)*8+u%2*4+k%4:=⟨_,rfl⟩;rw[←hq]at Hset;have hq64:q<64:=by omega
   obtain⟨b,off,rfl,hc⟩:=(r.ext E4).int hq64;have HQ:=Lib.hid hq;have hcc:wr.cell? ⟨b,off+((u/2*4+k/4)*8+u%2*4+k%4),none⟩=some (.int .i64 (nth L q)):=by rw[←HQ.out];exact hc
   clear hset hq hc;generalize nth L q=z at *;go_wp2;go_roundw
   case rel=>exact⟨k+1,by omega,by go_num,Ext.grown E4 (gr_set _ _ _ _) (fun q hq=>by cases hq;omega),r0.set_other (by omega),by rw[←Hset.out];exact r1.set k _⟩
   case measure=>simp[intOf];omega
  ·obtain rfl:k=16:=by omega
   rw[mixI_all _ _ 16 HI.out lenZ]at r1;go_wp2_with (first|(refine wpList_iload 29 _ rfl rfl r1 0 16 rfl _ Tryz.underlying29 rfl size_A16 (by rw[HI.out];omega) _ (by rw[sub_all _ _ (HI.out)]) ?_)|(refine wpList_istore 29 _ _ rfl rfl r0 0 16 rfl _ rfl _ rfl size_A16 (HI.out) (by simp) ?_;intro w6 p6 g6;refine Hid.out ?_))
   rw[spl_all (by rw[HI.out];simp)]at p6;have E6:Ext w w6:=Ext.grown E4 g6 (fun q hq=>by cases hq;omega);refine Lib.hid ?_;go_wp2;exact bodyPost_ret (v := .agg (ic (pof L (u%2*4) (u/2*4)))) (results_cell_row rfl _ _ B 29 (ic (pof L (u%2*4) (u/2*4))) (0,0) _ rfl p6 Tryz.underlying29 rfl (by rw[ic_size,pof_len];exact size_A16)) rfl ⟨rfl,E6⟩
theorem part_any (p:Pic) (x y:Int) (a:Option Addr) (c n:Nat) (w:World) (hv:p.valid) (hn:n=p.px.length) (r:Sl w a n (p.px.map (Value.int .i64))) (x1:0≤x) (x2:x≤1000) (y1:0≤y) (y2:y≤1000) :
 Calls Tryz.prog 71 #[.agg #[.int .i64 p.w,.int .i64 p.h,.slice a n c],.int .i64 x,.int .i64 y] w fun e w'=>e= .returned (.agg (ic (prt p x y)))∧Ext w w':=by
 have HI:=Lib.hid (prt_len p x y);have HN:=Lib.hid hn;have HV:=Lib.hid hv;clear hn hv;obtain⟨w0,hw0⟩:∃ w0,w0=w.alloc (.cells #[.int .i64 p.w,.int .i64 p.h,.slice a n c] 25):=⟨_,rfl⟩;have b0:=blk_new w (.cells #[.int .i64 p.w,.int .i64 p.h,.slice a n c] 25);have E0:=Ext.alloc w (.cells #[.int .i64 p.w,.int .i64 p.h,.slice a n c] 25);have s0:w0.heap.size=w.heap.size+1:=by rw[hw0];simp
 rw[←hw0]at b0 E0;have a1:=Ext.alloc w0 (.cells (ic (List.replicate 16 0)) 29);have a2:=Ext.alloc (w0.alloc (.cells (ic (List.replicate 16 0)) 29)) (.cells (ic (List.replicate 16 0)) 29);have bx:=(b0:w0.heap[w.heap.size]?=_);have b1:=a2.blk (a1.blk bx);have p0:=(IB.new w0 29 (List.replicate 16 0)).ext a2;have p1:=IB.new (w0.alloc (.cells (ic (List.replicate 16 0)) 29)) 29 (List.replicate 16 0);have E1:=(E0.trans a1).trans a2;simp only[World.size_alloc]at p1;rw[s0]at p0 p1;clear a1 a2 b0 bx s0;go_enter Tryz.func71,Tryz.ntmps71
 go_wp2_with fail
 rw[←hw0];try simp only[World.size_alloc]
 obtain⟨B,hB⟩:∃ B,B=w.heap.size:=⟨_,rfl⟩;rw[←hB]at p0 p1 b1⊢;have hwB:w.heap.size≤B:=by omega
 have HB0:=Lib.hid hB;have HW0:=Lib.hid hw0;clear hB hw0;go_loopw [9] (fun i wr=>∃ k:Nat,k≤16∧i= .int .i64 k∧Ext w wr∧Hid (wr.heap[B]?=some (.cells #[.int .i64 p.w,.int .i64 p.h,.slice a n c] 25 (0,0)))∧IB wr (B+1) 29 (List.replicate 16 0)∧IB wr (B+1+1) 29 (mixI (prt p x y) (List.replicate 16 0) k)) (fun i _=>16-(intOf i).toNat)
 case atStart=>exact⟨0,by omega,rfl,E1,Lib.hid b1,p0,by rw[mixI_zero];exact p1⟩
 case round =>
  obtain⟨k,hk,rfl,E4,X4,r0,r1⟩:=hrel;clear p0 p1 E1 b1
  by_cases hlt:k<16
  ·have hd:decide ((k:Int)<16)=true:=by simp;omega
   have hset:=mixI_set (prt p x y) (List.replicate 16 0) k 16 HI.out lenZ hlt;rw[nth_prt _ _ _ hlt]at hset;have Hset:=Lib.hid hset;obtain⟨-,k0,k1,k2,-⟩:=bx3 X4.out;clear hset;go_wp2_with fail
   refine(at_any p (x+(k%4:Nat)) (y+(k/4:Nat)) a c n _ HV.out HN.out (r.ext E4)).mono ?_
   rintro e w3 ⟨rfl,e3⟩
   have E5:=E4.trans e3;have X5:=Lib.hid (e3.blk X4.out);have s0:=r0.ext e3;have s1:=r1.ext e3;have c1:=s1.cell (i:=k) (by rw[mixI_len _ _ _ 16 HI.out lenZ];exact hlt);have f1:=s1.frozen k;clear r0 r1 E4 X4 e3 k0 k1 k2;go_wp2;go_roundw
   case rel=>exact⟨k+1,by omega,by go_num,Ext.grown E5 (gr_set _ _ _ _) (fun q hq=>by cases hq;omega),Lib.hid (blk_set_other X5.out (by omega)),s0.set_other (by omega),by rw[←Hset.out];exact s1.set k _⟩
   case measure=>simp[intOf];omega
  ·obtain rfl:k=16:=by omega
   rw[mixI_all _ _ 16 HI.out lenZ]at r1;go_wp2_with (first|(refine wpList_iload 29 _ rfl rfl r1 0 16 rfl _ Tryz.underlying29 rfl size_A16 (by rw[HI.out];omega) _ (by rw[sub_all _ _ (HI.out)]) ?_)|(refine wpList_istore 29 _ _ rfl rfl r0 0 16 rfl _ rfl _ rfl size_A16 (HI.out) (by simp) ?_;intro w6 p6 g6;refine Hid.out ?_))
   rw[spl_all (by rw[HI.out];simp)]at p6;have E6:Ext w w6:=Ext.grown E4 g6 (fun q hq=>by cases hq;omega);refine Lib.hid ?_;go_wp2;exact bodyPost_ret (v := .agg (ic (prt p x y))) (results_cell_row rfl _ _ (B+1) 29 (ic (prt p x y)) (0,0) _ rfl p6 Tryz.underlying29 rfl (by rw[ic_size,prt_len];exact size_A16)) rfl ⟨rfl,E6⟩
theorem own_cell {w:World} {base e g n c:Nat} {zs:List Int} (h:w.ownsRow base e 1 (.slice (some ⟨g,0,none⟩) n c) n (zs.map (Value.int .i64))) {i:Nat} (hi:i<n):w.cell? ⟨g,i,none⟩=some (.int .i64 (nth zs i)):=by
 obtain⟨b,o,e,hc⟩:=(Sl.of_owns h).int hi;simp only[Option.some.injEq,Addr.mk.injEq,and_true]at e;obtain⟨rfl,rfl⟩:=e
 rwa [Nat.zero_add]at hc
theorem own_set {w:World} {base e g n c:Nat} {zs:List Int} (h:w.ownsRow base e 1 (.slice (some ⟨g,0,none⟩) n c) n (zs.map (Value.int .i64))) (i:Nat) (v:Int):(w.setCell ⟨g,i,none⟩ (.int .i64 v)).ownsRow base e 1 (.slice (some ⟨g,0,none⟩) n c) n ((zs.set i v).map (Value.int .i64)):=by
 have o2:=(h.stored i (.int .i64 v)).1;rw[←List.map_set]at o2;exact o2
/-- The worlds while a block is put. -/
structure PG (w : World) (B base g W H n c x0 : Nat) (pr rs : List Int) (Z : List Int) (wx : World) : Prop where
 gr:w.grownBy wx (some g)
 own:wx.ownsRow base 3 1 (.slice (some ⟨g,0,none⟩) n c) n (Z.map (Value.int .i64))
 b0:wx.heap[B]?=some (.cells #[.int .i64 W,.int .i64 H,.slice (some ⟨g,0,none⟩) n c] 25 (0,0))
 b1:IB wx (B+1) 29 pr
 b2:IB wx (B+1+1) 29 rs
 gB:g<B
theorem PG.drew {w wx:World} {B base g W H n c x0:Nat} {pr rs Z:List Int} (h:PG w B base g W H n c x0 pr rs Z wx):PG w B base g W H n c x0 pr rs Z wx.drew :=
 ⟨gr_drew h.gr,h.own,h.b0,h.b1.drewN 1,h.b2.drewN 1,h.gB⟩
theorem PG.set {w wx:World} {B base g W H n c x0:Nat} {pr rs Z:List Int} (h:PG w B base g W H n c x0 pr rs Z wx) (i:Nat) (v:Int):PG w B base g W H n c x0 pr rs (Z.set i v) (wx.setCell ⟨g,i,none⟩ (.int .i64 v)):=by
 have:=h.gB;exact⟨grownBy_trans h.gr (gr_set _ _ _ _),own_set h.own i v,blk_set_other h.b0 (by omega),h.b1.set_other (by omega),h.b2.set_other (by omega),h.gB⟩
theorem put_any (W H x y base g n c:Nat) (px pr rs:List Int) (w:World) (hp:pr.length=16) (hr:rs.length=16) (bp:bdA 1099511627776 pr) (br:bdA 1099511627776 rs) (hW:W≤32) (hx:x≤1000) (hy:y≤1000) (hn:(y+3)*W+x+3<n) (hnb:n≤1099511627776)
 (own:w.ownsRow base 3 1 (.slice (some ⟨g,0,none⟩) n c) n (px.map (Value.int .i64))) :
 Calls Tryz.prog 78 #[.agg #[.int .i64 W,.int .i64 H,.slice (some ⟨g,0,none⟩) n c],.int .i64 (x:Nat),.int .i64 (y:Nat),.agg (ic pr),.agg (ic rs)] w fun e w'=>e= .returned (.tuple #[])∧w'.ownsRow base 3 1 (.slice (some ⟨g,0,none⟩) n c) n ((putS px W x y pr rs 16).map (Value.int .i64))∧w.grownBy w' (some g):=by
 have Hp:=Lib.hid hp;have Hr:=Lib.hid hr;have Bp:=Lib.hid bp;have Br:=Lib.hid br;have hgB:g<w.heap.size:=(own.lt g rfl).2;have P0:PG w w.heap.size base g W H n c 0 pr rs px (((w.alloc (.cells #[.int .i64 W,.int .i64 H,.slice (some ⟨g,0,none⟩) n c] 25)).alloc (.cells (ic pr) 29)).alloc (.cells (ic rs) 29)):=by
  have a1:=Ext.alloc w (.cells #[.int .i64 W,.int .i64 H,.slice (some ⟨g,0,none⟩) n c] 25);have a2:=Ext.alloc (w.alloc (.cells #[.int .i64 W,.int .i64 H,.slice (some ⟨g,0,none⟩) n c] 25)) (.cells (ic pr) 29);have a3:=Ext.alloc ((w.alloc (.cells #[.int .i64 W,.int .i64 H,.slice (some ⟨g,0,none⟩) n c] 25)).alloc (.cells (ic pr) 29)) (.cells (ic rs) 29);have q1:=(IB.new (w.alloc (.cells #[.int .i64 W,.int .i64 H,.slice (some ⟨g,0,none⟩) n c] 25)) 29 pr).ext a3;have q2:=IB.new ((w.alloc (.cells #[.int .i64 W,.int .i64 H,.slice (some ⟨g,0,none⟩) n c] 25)).alloc (.cells (ic pr) 29)) 29 rs;simp only[World.size_alloc]at q1 q2;exact⟨grown_ext (grown_refl _ _) ((a1.trans a2).trans a3),owns_ext own ((a1.trans a2).trans a3),a3.blk (a2.blk (blk_new _ _)),q1,q2,hgB⟩
 have q2:=P0.b2;clear hp hr bp br;go_enter Tryz.func78,Tryz.ntmps78
 go_wp2_with (refine wpList_iload 29 _ rfl rfl q2 0 16 rfl _ Tryz.underlying29 rfl size_A16 (by rw[Hr.out];omega) _ (by rw[sub_all _ _ (Hr.out)]) ?_)
 try simp only[World.size_alloc]
 obtain⟨B,hB⟩:∃ B,B=w.heap.size:=⟨_,rfl⟩;rw[←hB]at P0⊢;have HB0:=Lib.hid hB;clear hB own hgB q2;go_loopw [13] (fun i wr=>∃ k:Nat,k≤16∧i= .int .i64 k∧PG w B base g W H n c 0 pr rs (putS px W x y pr rs k) wr) (fun i _=>16-(intOf i).toNat)
 case atStart=>exact⟨0,by omega,rfl,P0⟩
 case round =>
  obtain⟨k,hk,rfl,P1⟩:=hrel;clear P0
  by_cases hlt:k<16
  ·have hd:decide ((k:Int)<16)=true:=by simp;omega
   have hS:=Lib.hid (show putS px W x y pr rs (k+1)=(putS px W x y pr rs k).set ((y+k/4)*W+x+k%4) (clipI (nth pr k+nth rs k) 0 255)from rfl);obtain⟨u,hu⟩:∃ u,u=y+k/4:=⟨_,rfl⟩;rw[←hu]at hS;have hu1:u*W≤(y+3)*W:=Nat.mul_le_mul_right W (by omega);obtain⟨q,hq⟩:∃ q,q=u*W+x+k%4:=⟨_,rfl⟩;rw[←hq]at hS;have hqn:q<n:=by omega
   have hu2:u≤2000:=by omega
   have hm1:(u:Int)*(W:Int)=((u*W:Nat):Int):=by rw[Int.natCast_mul]
   have hm:0≤(u:Int)*(W:Int)∧(u:Int)*(W:Int)≤1099511627776:=by omega
   have Hu:=Lib.hid (show(y:Int)+(k:Int)/4=(u:Int) by omega);have Hq:=Lib.hid (show(u:Int)*(W:Int)+(x:Int)+(k:Int)%4=(q:Int) by omega);have v0b:=Bp.out k;have v1b:=Br.out k;have C0:=Lib.hid (fun(wx:World) (h:IB wx (B+1) 29 pr)=>h.cell (i:=k) (by rw[Hp.out];exact hlt));have C1:=Lib.hid (fun(wx:World) (h:IB wx (B+1+1) 29 rs)=>h.cell (i:=k) (by rw[Hr.out];exact hlt));go_wp2_with (refine wpList_iindex _ _ _ rfl rfl rs rfl k 16 _ rfl rfl _ Tryz.underlying29 Tryz.underlying3 size_int hlt Hr.out ?_)
   generalize nth pr k=v0 at *;generalize nth rs k=v1 at *;obtain⟨v,hv⟩:∃ v,v=clipI (v0+v1) 0 255:=⟨_,rfl⟩;rw[←hv]at hS;have Hv:=Lib.hid hv;have hku:k/4≤3:=by omega
   clear hv hu hq hu1 hm1;generalize putS px W x y pr rs k=Zk at *;obtain⟨Zk1,hZk1⟩:∃ Z,Z=putS px W x y pr rs (k+1):=⟨_,rfl⟩;rw[←hZk1]at hS;have HZk1:=Lib.hid hZk1;clear hZk1;refine wp_region_invL (by kernel_rfl) [(17,0),(18,1),(19,2),(20,3),(21,4),(22,5),(23,6),(24,7),(25,8),(26,9),(27,10),(28,11),(29,12),(30,13),(31,14),(32,15),(33,16),(34,17),(35,18),(36,19),(37,20)] [[],[0],[],[],[3],[2,3,4],[],[6],[2,3,4,5,6,7],[],[2,3,4,5,6,7,8,9],[],[11],[2,3,4,5,6,7,8,9,10,11,12],[],[14],[14,15],[],[14,15,16,17],[14,15,16,17,18],[0,1,2,3,4,5,6,7,8,9,10,11,12,13,14,15,16,17,18,19],[0,1,2,3,4,5,6,7,8,9,10,11,12,13,14,15,16,17,18,19,20]] (fun i own ys wx=>match i with|0=>own= .pointer (some ⟨B,2,none⟩)|1=>own= .slice (some ⟨g,0,none⟩) n c|2=>own= .int .i64 (y:Nat)|3=>own= .int .i64 (k:Nat)|4=>own= .int .i64 ((k:Int)/4)|5=>own= .int .i64 (u:Nat)|6=>own= .pointer (some ⟨B,0,none⟩)|7=>own= .int .i64 (W:Nat)|8=>own= .int .i64 ((u:Int)*(W:Int))|9=>own= .int .i64 (x:Nat)|10=>own= .int .i64 ((u:Int)*(W:Int)+(x:Int))|11=>own= .int .i64 (k:Nat)|12=>own= .int .i64 ((k:Int)%4)|13=>own= .int .i64 (q:Nat)|14=>own= .int .i64 (k:Nat)|15=>own= .pointer (some ⟨B+1,k,none⟩)|16=>own= .int .i64 v0|17=>own= .int .i64 v1|18=>own= .int .i64 (v0+v1)|19=>own= .int .i64 v|20=>own= .pointer (some ⟨g,q,none⟩)|21=>True|_=>True) (fun Lx wx=>PG w B base g W H n c 0 pr rs (if Lx 21=true then Zk1 else Zk) wx) (by kernel_rfl) (by kernel_rfl) (by kernel_rfl) ?g0_r1 ?gop_r1 ?gend_r1
   case g0_r1=>exact P1.drew
   case gop_r1 =>
    refine⟨?_,?o1,?_,?_,?o4,?o5,?_,?o7,?o8,?_,?o10,?_,?o12,?o13,?_,?o15,?o16,?_,?o18,?o19,?o20,?o21,trivial⟩ <;> (intro Lx xs wx hG hl ha hb hD hI Qo Kx hK hQo;simp only[patchS,Nat.reduceAdd,Nat.reduceEqDiff,↓reduceIte]at hQo⊢)
    case o1 =>
     clear hl ha hb;rw[ddq (hD 0 rfl)]at hQo⊢;clear hD hI;obtain⟨-,k0,k1,k2,-⟩:=bx3 hG.b0;go_wp2;exact hK.out _ _ ⟨rfl,hG,kkp⟩
    case o4 =>
     clear hl ha hb;rw[ddq (hD 3 rfl)]at hQo⊢;clear hD hI;go_wp2;exact hK.out _ _ ⟨rfl,hG,kkp⟩
    case o5 =>
     clear hl ha hb;rw[ddq (hD 2 rfl),ddq (hD 4 rfl)]at hQo⊢;clear hD hI;go_wp2;exact hK.out _ _ ⟨by rw[←Hu.out],hG,fun _ _ _ _ _ _ h=>h⟩
    case o7 =>
     clear hl ha hb;rw[ddq (hD 6 rfl)]at hQo⊢;clear hD hI;obtain⟨-,k0,k1,k2,-⟩:=bx3 hG.b0;go_wp2;exact hK.out _ _ ⟨rfl,hG,kkp⟩
    case o8 =>
     clear hl ha hb;rw[ddq (hD 5 rfl),ddq (hD 7 rfl)]at hQo⊢;clear hD hI;go_wp2;exact hK.out _ _ ⟨rfl,hG,kkp⟩
    case o10 =>
     clear hl ha hb;rw[ddq (hD 8 rfl),ddq (hD 9 rfl)]at hQo⊢;clear hD hI;go_wp2;exact hK.out _ _ ⟨rfl,hG,kkp⟩
    case o12 =>
     clear hl ha hb;rw[ddq (hD 11 rfl)]at hQo⊢;clear hD hI;go_wp2;exact hK.out _ _ ⟨rfl,hG,kkp⟩
    case o13 =>
     clear hl ha hb;rw[ddq (hD 10 rfl),ddq (hD 12 rfl)]at hQo⊢;clear hD hI;go_wp2;exact hK.out _ _ ⟨by rw[←Hq.out],hG,fun _ _ _ _ _ _ h=>h⟩
    case o15 =>
     clear hl ha hb;rw[ddq (hD 14 rfl)]at hQo⊢;clear hD hI;go_wp2;exact hK.out _ _ ⟨rfl,hG,kkp⟩
    case o16 =>
     clear hl ha hb;rw[ddq (hD 15 rfl)]at hQo⊢;clear hD hI;have cx:=C0.out wx hG.b1;go_wp2;exact hK.out _ _ ⟨rfl,hG,kkp⟩
    case o18 =>
     clear hl ha hb;rw[ddq (hD 16 rfl),ddq (hD 17 rfl)]at hQo⊢;clear hD hI;go_wp2;exact hK.out _ _ ⟨rfl,hG,kkp⟩
    case o19 =>
     clear hl ha hb;rw[ddq (hD 18 rfl)]at hQo⊢;clear hD hI;go_wp2_with fail
     refine(clamp_any _ _ _ _ (by omega)).mono ?_
     rintro e w9 ⟨rfl,rfl⟩
     rw[←Hv.out];go_wp2;exact hK.out _ _ ⟨rfl,hG,kkp⟩
    case o20 =>
     clear hl ha hb;rw[ddq (hD 1 rfl),ddq (hD 13 rfl)]at hQo⊢;clear hD hI;go_wp2;exact hK.out _ _ ⟨rfl,hG,kkp⟩
    case o21 =>
     have l21:Lx 21=false:=hl;clear hl ha hb;rw[ddq (hD 19 rfl),ddq (hD 20 rfl)]at hQo⊢;clear hD hI;rw[l21,ifF]at hG;have cx:=own_cell hG.own hqn;have fx:=hG.own.frozenAt q;have s2:=hG.set q v;rw[←hS.out]at s2;go_wp2;exact hQo undef _ (hK.out _ _ ⟨trivial,s2,fun _ _ _ _ _ _ h=>h⟩)
    all_goals
     clear hl ha hb hD hI;go_wp2;exact hK.out _ _ ⟨rfl,hG,kkp⟩
   intro xs wx hV hG0;obtain⟨Lx,hL,hG⟩:=hG0;have l21:Lx 21=true:=hL 21 (by decide);clear hL hV;simp only[patchS,Nat.reduceAdd,Nat.reduceEqDiff,↓reduceIte];generalize xs 0=y0,xs 1=y1,xs 2=y2,xs 3=y3,xs 4=y4,xs 5=y5,xs 6=y6,xs 7=y7,xs 8=y8,xs 9=y9,xs 10=y10,xs 11=y11,xs 12=y12,xs 13=y13,xs 14=y14,xs 15=y15,xs 16=y16,xs 17=y17,xs 18=y18,xs 19=y19,xs 20=y20,xs 21=y21 at *
   replace hG:PG w B base g W H n c 0 pr rs (if Lx 21=true then Zk1 else Zk) wx:=hG
   rw[l21,ifT]at hG;clear P1 C0 C1;have HG:=Lib.hid hG;clear hG;go_wp2;go_roundw
   case rel=>exact⟨k+1,by omega,by go_num,by rw[←HZk1.out];exact HG.out⟩
   case measure=>simp[intOf];omega
  ·obtain rfl:k=16:=by omega
   have HP:=Lib.hid P1;clear P1;go_wp2;go_end0
   exact⟨rfl,HP.out.own,HP.out.gr⟩
theorem l8Put_any (W H x y base g n c:Nat) (px pr rs:List Int) (w:World) (hp:pr.length=16) (hr:rs.length=16) (bp:bdA 1099511627776 pr) (br:bdA 1099511627776 rs) (hW:W≤32) (hx:x≤1000) (hy:y≤1000) (hn:(y+3)*W+x+3<n) (hnb:n≤1099511627776)
 (own:w.ownsRow base 3 1 (.slice (some ⟨g,0,none⟩) n c) n (px.map (Value.int .i64))) :
 Calls Tryz.prog 142 #[.agg #[.int .i64 W,.int .i64 H,.slice (some ⟨g,0,none⟩) n c],.int .i64 (x:Nat),.int .i64 (y:Nat),.agg (ic pr),.agg (ic rs)] w fun e w'=>e= .returned (.tuple #[])∧w'.ownsRow base 3 1 (.slice (some ⟨g,0,none⟩) n c) n ((putS px W x y pr rs 16).map (Value.int .i64))∧w.grownBy w' (some g):=by
 have Hp:=Lib.hid hp;have Hr:=Lib.hid hr;have Bp:=Lib.hid bp;have Br:=Lib.hid br;have hgB:g<w.heap.size:=(own.lt g rfl).2;have P0:PG w w.heap.size base g W H n c 0 pr rs px (((w.alloc (.cells #[.int .i64 W,.int .i64 H,.slice (some ⟨g,0,none⟩) n c] 25)).alloc (.cells (ic pr) 29)).alloc (.cells (ic rs) 29)):=by
  have a1:=Ext.alloc w (.cells #[.int .i64 W,.int .i64 H,.slice (some ⟨g,0,none⟩) n c] 25);have a2:=Ext.alloc (w.alloc (.cells #[.int .i64 W,.int .i64 H,.slice (some ⟨g,0,none⟩) n c] 25)) (.cells (ic pr) 29);have a3:=Ext.alloc ((w.alloc (.cells #[.int .i64 W,.int .i64 H,.slice (some ⟨g,0,none⟩) n c] 25)).alloc (.cells (ic pr) 29)) (.cells (ic rs) 29);have q1:=(IB.new (w.alloc (.cells #[.int .i64 W,.int .i64 H,.slice (some ⟨g,0,none⟩) n c] 25)) 29 pr).ext a3;have q2:=IB.new ((w.alloc (.cells #[.int .i64 W,.int .i64 H,.slice (some ⟨g,0,none⟩) n c] 25)).alloc (.cells (ic pr) 29)) 29 rs;simp only[World.size_alloc]at q1 q2;exact⟨grown_ext (grown_refl _ _) ((a1.trans a2).trans a3),owns_ext own ((a1.trans a2).trans a3),a3.blk (a2.blk (blk_new _ _)),q1,q2,hgB⟩
 have q2:=P0.b2;clear hp hr bp br;go_enter Tryz.func142,Tryz.ntmps142
 go_wp2_with fail
 try simp only[World.size_alloc]
 obtain⟨B,hB⟩:∃ B,B=w.heap.size:=⟨_,rfl⟩;rw[←hB]at P0⊢;have HB0:=Lib.hid hB;clear hB own hgB q2;go_loopw [10] (fun i wr=>∃ k:Nat,k≤16∧i= .int .i64 k∧PG w B base g W H n c 0 pr rs (putS px W x y pr rs k) wr) (fun i _=>16-(intOf i).toNat)
 case atStart=>exact⟨0,by omega,rfl,P0⟩
 case round =>
  obtain⟨k,hk,rfl,P1⟩:=hrel;clear P0
  by_cases hlt:k<16
  ·have hd:decide ((k:Int)<16)=true:=by simp;omega
   have hS:=Lib.hid (show putS px W x y pr rs (k+1)=(putS px W x y pr rs k).set ((y+k/4)*W+x+k%4) (clipI (nth pr k+nth rs k) 0 255)from rfl);obtain⟨u,hu⟩:∃ u,u=y+k/4:=⟨_,rfl⟩;rw[←hu]at hS;have hu1:u*W≤(y+3)*W:=Nat.mul_le_mul_right W (by omega);obtain⟨q,hq⟩:∃ q,q=u*W+x+k%4:=⟨_,rfl⟩;rw[←hq]at hS;have hqn:q<n:=by omega
   have hu2:u≤2000:=by omega
   have hm1:(u:Int)*(W:Int)=((u*W:Nat):Int):=by rw[Int.natCast_mul]
   have hm:0≤(u:Int)*(W:Int)∧(u:Int)*(W:Int)≤1099511627776:=by omega
   have Hu:=Lib.hid (show(y:Int)+(k:Int)/4=(u:Int) by omega);have Hq:=Lib.hid (show(u:Int)*(W:Int)+(x:Int)+(k:Int)%4=(q:Int) by omega);have v0b:=Bp.out k;have v1b:=Br.out k;have C0:=Lib.hid (fun(wx:World) (h:IB wx (B+1) 29 pr)=>h.cell (i:=k) (by rw[Hp.out];exact hlt));have C1:=Lib.hid (fun(wx:World) (h:IB wx (B+1+1) 29 rs)=>h.cell (i:=k) (by rw[Hr.out];exact hlt));go_wp2_with fail
   generalize nth pr k=v0 at *;generalize nth rs k=v1 at *;obtain⟨v,hv⟩:∃ v,v=clipI (v0+v1) 0 255:=⟨_,rfl⟩;rw[←hv]at hS;have Hv:=Lib.hid hv;have hku:k/4≤3:=by omega
   clear hv hu hq hu1 hm1;generalize putS px W x y pr rs k=Zk at *;obtain⟨Zk1,hZk1⟩:∃ Z,Z=putS px W x y pr rs (k+1):=⟨_,rfl⟩;rw[←hZk1]at hS;have HZk1:=Lib.hid hZk1;clear hZk1;refine wp_region_invL (by kernel_rfl) [(15,0),(16,1),(17,2),(18,3),(19,4),(20,5),(21,6),(22,7),(23,8),(24,9),(25,10),(26,11),(27,12),(28,13),(29,14),(30,15),(31,16),(32,17),(33,18),(34,19),(35,20),(36,21),(37,22)] [[],[0],[],[],[3],[2,3,4],[],[6],[2,3,4,5,6,7],[],[2,3,4,5,6,7,8,9],[],[11],[2,3,4,5,6,7,8,9,10,11,12],[],[14],[14,15],[],[17],[17,18],[14,15,16,17,18,19],[14,15,16,17,18,19,20],[0,1,2,3,4,5,6,7,8,9,10,11,12,13,14,15,16,17,18,19,20,21],[0,1,2,3,4,5,6,7,8,9,10,11,12,13,14,15,16,17,18,19,20,21,22]] (fun i own ys wx=>match i with|0=>own= .pointer (some ⟨B,2,none⟩)|1=>own= .slice (some ⟨g,0,none⟩) n c|2=>own= .int .i64 (y:Nat)|3=>own= .int .i64 (k:Nat)|4=>own= .int .i64 ((k:Int)/4)|5=>own= .int .i64 (u:Nat)|6=>own= .pointer (some ⟨B,0,none⟩)|7=>own= .int .i64 (W:Nat)|8=>own= .int .i64 ((u:Int)*(W:Int))|9=>own= .int .i64 (x:Nat)|10=>own= .int .i64 ((u:Int)*(W:Int)+(x:Int))|11=>own= .int .i64 (k:Nat)|12=>own= .int .i64 ((k:Int)%4)|13=>own= .int .i64 (q:Nat)|14=>own= .int .i64 (k:Nat)|15=>own= .pointer (some ⟨B+1,k,none⟩)|16=>own= .int .i64 v0|17=>own= .int .i64 (k:Nat)|18=>own= .pointer (some ⟨B+1+1,k,none⟩)|19=>own= .int .i64 v1|20=>own= .int .i64 (v0+v1)|21=>own= .int .i64 v|22=>own= .pointer (some ⟨g,q,none⟩)|23=>True|_=>True) (fun Lx wx=>PG w B base g W H n c 0 pr rs (if Lx 23=true then Zk1 else Zk) wx) (by kernel_rfl) (by kernel_rfl) (by kernel_rfl) ?g0_r2 ?gop_r2 ?gend_r2
   case g0_r2=>exact P1.drew
   case gop_r2 =>
    refine⟨?_,?o1,?_,?_,?o4,?o5,?_,?o7,?o8,?_,?o10,?_,?o12,?o13,?_,?o15,?o16,?_,?o18,?o19,?o20,?o21,?o22,?o23,trivial⟩ <;> (intro Lx xs wx hG hl ha hb hD hI Qo Kx hK hQo;simp only[patchS,Nat.reduceAdd,Nat.reduceEqDiff,↓reduceIte]at hQo⊢)
    case o1 =>
     clear hl ha hb;rw[ddq (hD 0 rfl)]at hQo⊢;clear hD hI;obtain⟨-,k0,k1,k2,-⟩:=bx3 hG.b0;go_wp2;exact hK.out _ _ ⟨rfl,hG,kkp⟩
    case o4 =>
     clear hl ha hb;rw[ddq (hD 3 rfl)]at hQo⊢;clear hD hI;go_wp2;exact hK.out _ _ ⟨rfl,hG,kkp⟩
    case o5 =>
     clear hl ha hb;rw[ddq (hD 2 rfl),ddq (hD 4 rfl)]at hQo⊢;clear hD hI;go_wp2;exact hK.out _ _ ⟨by rw[←Hu.out],hG,fun _ _ _ _ _ _ h=>h⟩
    case o7 =>
     clear hl ha hb;rw[ddq (hD 6 rfl)]at hQo⊢;clear hD hI;obtain⟨-,k0,k1,k2,-⟩:=bx3 hG.b0;go_wp2;exact hK.out _ _ ⟨rfl,hG,kkp⟩
    case o8 =>
     clear hl ha hb;rw[ddq (hD 5 rfl),ddq (hD 7 rfl)]at hQo⊢;clear hD hI;go_wp2;exact hK.out _ _ ⟨rfl,hG,kkp⟩
    case o10 =>
     clear hl ha hb;rw[ddq (hD 8 rfl),ddq (hD 9 rfl)]at hQo⊢;clear hD hI;go_wp2;exact hK.out _ _ ⟨rfl,hG,kkp⟩
    case o12 =>
     clear hl ha hb;rw[ddq (hD 11 rfl)]at hQo⊢;clear hD hI;go_wp2;exact hK.out _ _ ⟨rfl,hG,kkp⟩
    case o13 =>
     clear hl ha hb;rw[ddq (hD 10 rfl),ddq (hD 12 rfl)]at hQo⊢;clear hD hI;go_wp2;exact hK.out _ _ ⟨by rw[←Hq.out],hG,fun _ _ _ _ _ _ h=>h⟩
    case o15 =>
     clear hl ha hb;rw[ddq (hD 14 rfl)]at hQo⊢;clear hD hI;go_wp2;exact hK.out _ _ ⟨rfl,hG,kkp⟩
    case o16 =>
     clear hl ha hb;rw[ddq (hD 15 rfl)]at hQo⊢;clear hD hI;have cx:=C0.out wx hG.b1;go_wp2;exact hK.out _ _ ⟨rfl,hG,kkp⟩
    case o18 =>
     clear hl ha hb;rw[ddq (hD 17 rfl)]at hQo⊢;clear hD hI;go_wp2;exact hK.out _ _ ⟨rfl,hG,kkp⟩
    case o19 =>
     clear hl ha hb;rw[ddq (hD 18 rfl)]at hQo⊢;clear hD hI;have cx:=C1.out wx hG.b2;go_wp2;exact hK.out _ _ ⟨rfl,hG,kkp⟩
    case o20 =>
     clear hl ha hb;rw[ddq (hD 16 rfl),ddq (hD 19 rfl)]at hQo⊢;clear hD hI;go_wp2;exact hK.out _ _ ⟨rfl,hG,kkp⟩
    case o21 =>
     clear hl ha hb;rw[ddq (hD 20 rfl)]at hQo⊢;clear hD hI;go_wp2_with fail
     refine(l1Clip_any _ _ _ _).mono ?_
     rintro e w9 ⟨rfl,rfl⟩
     rw[←Hv.out];go_wp2;exact hK.out _ _ ⟨rfl,hG,kkp⟩
    case o22 =>
     clear hl ha hb;rw[ddq (hD 1 rfl),ddq (hD 13 rfl)]at hQo⊢;clear hD hI;go_wp2;exact hK.out _ _ ⟨rfl,hG,kkp⟩
    case o23 =>
     have l23:Lx 23=false:=hl;clear hl ha hb;rw[ddq (hD 21 rfl),ddq (hD 22 rfl)]at hQo⊢;clear hD hI;rw[l23,ifF]at hG;have cx:=own_cell hG.own hqn;have fx:=hG.own.frozenAt q;have s2:=hG.set q v;rw[←hS.out]at s2;go_wp2;exact hQo undef _ (hK.out _ _ ⟨trivial,s2,fun _ _ _ _ _ _ h=>h⟩)
    all_goals
     clear hl ha hb hD hI;go_wp2;exact hK.out _ _ ⟨rfl,hG,kkp⟩
   intro xs wx hV hG0;obtain⟨Lx,hL,hG⟩:=hG0;have l23:Lx 23=true:=hL 23 (by decide);clear hL hV;simp only[patchS,Nat.reduceAdd,Nat.reduceEqDiff,↓reduceIte];generalize xs 0=y0,xs 1=y1,xs 2=y2,xs 3=y3,xs 4=y4,xs 5=y5,xs 6=y6,xs 7=y7,xs 8=y8,xs 9=y9,xs 10=y10,xs 11=y11,xs 12=y12,xs 13=y13,xs 14=y14,xs 15=y15,xs 16=y16,xs 17=y17,xs 18=y18,xs 19=y19,xs 20=y20,xs 21=y21,xs 22=y22,xs 23=y23 at *
   replace hG:PG w B base g W H n c 0 pr rs (if Lx 23=true then Zk1 else Zk) wx:=hG
   rw[l23,ifT]at hG;clear P1 C0 C1;have HG:=Lib.hid hG;clear hG;go_wp2;go_roundw
   case rel=>exact⟨k+1,by omega,by go_num,by rw[←HZk1.out];exact HG.out⟩
   case measure=>simp[intOf];omega
  ·obtain rfl:k=16:=by omega
   have HP:=Lib.hid P1;clear P1;go_wp2;go_end0
   exact⟨rfl,HP.out.own,HP.out.gr⟩
section
variable {P : Program}
def setL (arr:Array Value):Nat→List Value→Array Value
 | _,[]=>arr
 | i,y::ys=>setL (arr.setIfInBounds i y) (i+1) ys
theorem setL_list : ∀(ys:List Value) (i:Nat) (arr:Array Value),i+ys.length≤arr.size→(setL arr i ys).toList=arr.toList.take i++ys++arr.toList.drop (i+ys.length)
 | [],i,arr,h=>by simp[setL]
 | y::ys,i,arr,h=>by
  have hi:i<arr.toList.length:=by simp at h⊢;omega
  unfold setL;rw[setL_list ys (i+1) _ (by simp at h⊢;omega),Array.toList_setIfInBounds,List.take_set,List.drop_set_of_lt (by omega),List.take_succ_eq_append_getElem hi,List.set_append_right _ _ (by simp;omega)];have e:i-(List.take i arr.toList).length=0:=by simp at hi⊢;omega
  rw[e];simp[Nat.add_assoc,Nat.add_comm 1]
theorem setL_all {ys:List Value} {arr:Array Value} (h:ys.length=arr.size):setL arr 0 ys=ys.toArray:=by
 apply Array.toList_inj.1;rw[setL_list _ _ _ (by omega)];have:arr.toList.length≤0+ys.length:=by simp;omega
 rw[List.drop_of_length_le this];simp
theorem run_storeCells_w {b T:Nat} : ∀(ys:List Value) (i:Nat) (arr:Array Value) (w:World),(∀ y∈ys,y.oneCell'=true)→w.heap[b]?=some (.cells arr T (0,0))→i+ys.length≤arr.size →
 ∃ w',(storeCells ⟨b,0,none⟩ ys i).run P w= .ok () w'∧w'.heap[b]?=some (.cells (setL arr i ys) T (0,0))∧w.grownBy w' (some b)
 | [],i,arr,w,_,h,hl=>⟨w,by simp[storeCells],h,World.grownBy.refl _ _⟩
 | y::ys,i,arr,w,hy,h,hl=>by
  have hlt:i<arr.size:=by simp at hl;omega
  have hadd:(⟨b,0,none⟩:Addr).add i=⟨b,i,none⟩:=by rw[Addr.add_lit,Nat.zero_add]
  have hc:w.cell? ⟨b,i,none⟩=some arr[i]:=by simp[World.cell?,h,hlt]
  have hst:(store ((⟨b,0,none⟩:Addr).add i) y).run P w= .ok () (w.setCell ⟨b,i,none⟩ y):=by
   rw[hadd,run_store P w _ y _ (hy y (by simp)),hc];simp[World.frozen?,h]
  have h1:=heap_setCell_same w b i arr T y h;obtain⟨w',k1,k2,k3⟩:=run_storeCells_w ys (i+1) (arr.setIfInBounds i y) _ (fun z hz=>hy z (by simp[hz])) h1 (by simp at hl⊢;omega);refine⟨w',?_,k2,grownBy_trans (gr_set _ _ _ _) k3⟩;simp only[storeCells,Sem.run_bind,hst,Result.andThen_ok,k1]
/-- *p = y, a whole block. -/
theorem wpList_cstore {ops:Array Oper} {rest:List Oper} {o:Oper} {a:Act} {w:World} {Q:Exit→Act→World→Prop} (ty:TypeId) (x y:Operand) (ho:o.op= .store ty x y) (hgd:Region.wanted o (yielded ops a.tmps)=true)
 {b T:Nat} {arr:Array Value} (h:w.heap[b]?=some (.cells arr T (0,0))) (hx:a.eval x= .pointer (some ⟨b,0,none⟩)) (cs:Array Value) (hy:a.eval y= .agg cs) (h1:∀ u∈cs.toList,u.oneCell'=true)
 (n:Nat) (hi:(P.info? ty).map (·.size)=some n) (hn:cs.size=n) (hn2:arr.size=n)
 (hK:∀ w',w'.heap[b]?=some (.cells cs T (0,0))→w.grownBy w' (some b)→wpList P ops Q rest (a.put o.dst undef) w'):wpList P ops Q (o::rest) a w:=by
 refine wpList_wanted hgd fun _ hK' => ?_
 obtain⟨w',k1,k2,k3⟩:=run_storeCells_w (P:=P) cs.toList 0 arr w h1 h (by simp;omega);rw[setL_all (by simp;omega)]at k2;have hs:(storeVar ty ⟨b,0,none⟩ (.agg cs)).run P w= .ok () w':=by
  cases hq:P.info? ty with
  | none=>simp[hq]at hi
  | some i =>
   have hs:i.size=n:=by simpa [hq] using hi
   have e:(Value.agg cs).cells=cs:=rfl;simp[storeVar,sizeOf,typeInfo,hq,e,hs,hn,k1]
 unfold Oper.wp execOp;simp only[ho,hx,hy,Instr.storeAt,Instr.sureAddr,Sem.run_bind,Sem.run_pure,Result.andThen_ok,hs];exact hK' _ _ (hK w' (by simpa using k2) k3)
theorem wpList_cload {ops:Array Oper} {rest:List Oper} {o:Oper} {a:Act} {w:World} {Q:Exit→Act→World→Prop} (ty:TypeId) (x:Operand) (ho:o.op= .load ty x) (hgd:Region.wanted o (yielded ops a.tmps)=true)
 {b T:Nat} {cs:Array Value} (h:w.heap[b]?=some (.cells cs T (0,0))) (hx:a.eval x= .pointer (some ⟨b,0,none⟩)) (d:TypeDesc)
 (hu:P.underlying ty=some d) (hd:(match d with | .struct _ | .array _ _=>true|_=>false)=true) (n:Nat) (hi:(P.info? ty).map (·.size)=some n) (hn:cs.size=n)
 (hK:wpList P ops Q rest (a.put o.dst (.agg cs)) w):wpList P ops Q (o::rest) a w:=by
 refine wpList_wanted hgd fun _ hK' => ?_
 have hl:=run_loadVar_row (P:=P) w b T ty cs (0,0) d h hu hd (by rw[hi,hn]);unfold Oper.wp execOp;simp only[ho,hx,Instr.loadAt,Instr.sureAddr,Sem.run_bind,Sem.run_pure,Result.andThen_ok,hl];exact hK' _ _ hK
end
/-- The cells of the samples around a block. -/
def edC (e:Ed):Array Value:=(e.ab.map (Value.int .i64)++(e.lf.map (Value.int .i64) ++ [Value.int .i64 e.co,Value.bool e.up,Value.bool e.le])).toArray
structure Ed.ln (e : Ed) : Prop where
 ab:e.ab.length=4
 lf:e.lf.length=4
theorem Ed.ok.ln {e:Ed} (h:e.ok):e.ln:=⟨h.ab,h.lf⟩
theorem edC_size {e:Ed} (h:e.ln):(edC e).size=11:=by simp[edC,h.ab,h.lf]
theorem edC_ab {e:Ed} (h:e.ln) {k:Nat} (hk:k<4):(edC e)[k]?=some (.int .i64 (nth e.ab k)):=by
 have:=h.ab;simp[edC,nth,List.getElem?_append_left (show k<(e.ab.map (Value.int .i64)).length by simp;omega),show k<e.ab.length by omega]
theorem edC_lf {e:Ed} (h:e.ln) {k:Nat} (hk:k<4):(edC e)[4+k]?=some (.int .i64 (nth e.lf k)):=by
 have h1:=h.ab;have h2:=h.lf;simp[edC,nth,List.getElem?_append_right (show(e.ab.map (Value.int .i64)).length≤4+k by simp;omega),h1,List.getElem?_append_left (show k<(e.lf.map (Value.int .i64)).length by simp;omega),show k<e.lf.length by omega]
theorem edC_3 {e:Ed} (h:e.ln) (k:Nat):(edC e)[8+k]? = [Value.int .i64 e.co,.bool e.up,.bool e.le][k]?:=by
 have h1:=h.ab;have h2:=h.lf;have e1:(edC e).toList=(e.ab.map (Value.int .i64)++e.lf.map (Value.int .i64)) ++ [Value.int .i64 e.co,Value.bool e.up,Value.bool e.le]:=by simp[edC]
 rw[←Array.getElem?_toList,e1,List.getElem?_append_right (by simp;omega)]
 congr 1
 simp;omega
/-- Block b holds the samples around a block. -/
def EB (w:World) (b:Nat) (e:Ed):Prop:=w.heap[b]?=some (.cells (edC e) 106 (0,0))
theorem EB.at {w:World} {b:Nat} {e:Ed} (h:EB w b e) {i:Nat} {v:Value} (hi:(edC e)[i]?=some v):w.cell? ⟨b,i,none⟩=some v:=by
 have:w.heap[b]?=some (.cells (edC e) 106 (0,0)):=h;simp[World.cell?,this,hi]
theorem EB.ab {w:World} {b:Nat} {e:Ed} (h:EB w b e) (l:e.ln) {k:Nat} (hk:k<4):w.cell? ⟨b,k,none⟩=some (.int .i64 (nth e.ab k)):=h.at (edC_ab l hk)
theorem EB.lf {w:World} {b:Nat} {e:Ed} (h:EB w b e) (l:e.ln) {k:Nat} (hk:k<4):w.cell? ⟨b,4+k,none⟩=some (.int .i64 (nth e.lf k)):=h.at (edC_lf l hk)
theorem EB.co {w:World} {b:Nat} {e:Ed} (h:EB w b e) (l:e.ln):w.cell? ⟨b,8,none⟩=some (.int .i64 e.co):=h.at (edC_3 l 0)
theorem EB.up {w:World} {b:Nat} {e:Ed} (h:EB w b e) (l:e.ln):w.cell? ⟨b,9,none⟩=some (.bool e.up):=h.at (edC_3 l 1)
theorem EB.le {w:World} {b:Nat} {e:Ed} (h:EB w b e) (l:e.ln):w.cell? ⟨b,10,none⟩=some (.bool e.le):=h.at (edC_3 l 2)
theorem EB.frozen {w:World} {b:Nat} {e:Ed} (h:EB w b e) (i:Nat):w.frozen? ⟨b,i,none⟩=false:=by
 have:w.heap[b]?=some (.cells (edC e) 106 (0,0)):=h;simp[World.frozen?,this]
theorem EB.lt {w:World} {b:Nat} {e:Ed} (h:EB w b e):b<w.heap.size:=lt_of_block h
theorem EB.ext {w w':World} {b:Nat} {e:Ed} (h:EB w b e) (x:Ext w w'):EB w' b e:=x.blk h
theorem EB.gr {w w':World} {b:Nat} {e:Ed} {row:Option Nat} (h:EB w b e) (g:w.grownBy w' row) (hne:row≠some b):EB w' b e:=blk_gr h g hne
theorem EB.set_other {w:World} {b c i:Nat} {v:Value} {e:Ed} (h:EB w b e) (hne:b≠c):EB (w.setCell ⟨c,i,none⟩ v) b e:=blk_set_other h hne
theorem EB.new (w:World) (e:Ed):EB (w.alloc (.cells (edC e) 106)) w.heap.size e:=blk_new w _
theorem EB.set_ab {w:World} {b:Nat} {e:Ed} (h:EB w b e) (l:e.ln) {k:Nat} (hk:k<4) (v:Int):EB (w.setCell ⟨b,k,none⟩ (.int .i64 v)) b { e with ab:=e.ab.set k v } := by
 have h1:=heap_setCell_same w b k (edC e) _ (.int .i64 v) h;have h2:(edC e).setIfInBounds k (.int .i64 v)=edC { e with ab:=e.ab.set k v } := by
  apply Array.toList_inj.1;have:=l.ab;rw[Array.toList_setIfInBounds];simp only[edC];rw[List.set_append_left _ _ (by simp;omega),List.map_set]
 rw[h2]at h1;exact h1
theorem EB.set_lf {w:World} {b:Nat} {e:Ed} (h:EB w b e) (l:e.ln) {k:Nat} (hk:k<4) (v:Int):EB (w.setCell ⟨b,4+k,none⟩ (.int .i64 v)) b { e with lf:=e.lf.set k v } := by
 have h1:=heap_setCell_same w b (4+k) (edC e) _ (.int .i64 v) h;have h2:(edC e).setIfInBounds (4+k) (.int .i64 v)=edC { e with lf:=e.lf.set k v } := by
  apply Array.toList_inj.1;have a1:=l.ab;have a2:=l.lf;rw[Array.toList_setIfInBounds];simp only[edC];rw[List.set_append_right _ _ (by simp;omega),List.length_map,a1,show 4+k-4=k by omega,List.set_append_left _ _ (by simp;omega),List.map_set]
 rw[h2]at h1;exact h1
theorem EB.set_co {w:World} {b:Nat} {e:Ed} (h:EB w b e) (l:e.ln) (v:Int):EB (w.setCell ⟨b,8,none⟩ (.int .i64 v)) b { e with co:=v } := by
 have h1:=heap_setCell_same w b 8 (edC e) _ (.int .i64 v) h;have h2:(edC e).setIfInBounds 8 (.int .i64 v)=edC { e with co:=v } := by
  apply Array.toList_inj.1;have a1:=l.ab;have a2:=l.lf;rw[Array.toList_setIfInBounds];simp only[edC];rw[List.set_append_right _ _ (by simp;omega),List.length_map,a1,List.set_append_right _ _ (by simp;omega),List.length_map,a2];rfl
 rw[h2]at h1;exact h1
theorem edC_one (e:Ed):∀ u∈(edC e).toList,u.oneCell'=true:=by
 intro u hu;simp only[edC,List.mem_append,List.mem_map,List.mem_cons,List.not_mem_nil,or_false]at hu;rcases hu with⟨z,-,rfl⟩|⟨z,-,rfl⟩|rfl|rfl|rfl <;> rfl
theorem size_Edges : (Tryz.prog.info? 106).map (·.size)=some 11:=by kernel_rfl
end Go.Proofs.YtbnhaegidfbgbaaGreatDoor
namespace Go.Proofs.YtbnhaegidfbgbaaGreatDoor
open Go.RowKit
theorem mean_rnd {e:Ed} (h:mnN e 4≠0):mean e=rnd (mnT e 4) (mnN e 4):=by unfold mean rnd;rw[if_neg h]
theorem mean_none {e:Ed} (h:mnN e 4=0):mean e=128:=by unfold mean;rw[if_pos h]
theorem mnN_rng (e:Ed) (k:Nat):0≤mnN e k∧mnN e k≤2*k:=by
 unfold mnN;cases e.up <;> cases e.le <;> simp <;> omega
theorem impl_mean_ul (e:Ed) (x y:Int) (w:World) (ok:e.ok) (hu:e.up=true) (hl:e.le=true) :
 Calls Tryz.prog 120 #[.agg (edC e),.int .i64 x,.int .i64 y] w fun r w'=>r= .returned (.int .i64 (mean e))∧Ext w w':=by
 have HT:=Lib.hid (fun(k:Nat)=>show mnT e (k+1)=mnT e k+nth e.ab k+nth e.lf k by simp only[mnT,hu,hl,if_true,if_false,Bool.false_eq_true,Int.add_zero]);have HNn:=Lib.hid (fun(k:Nat)=>show mnN e (k+1)=mnN e k+1+1 by unfold mnN;rw[hu,hl];simp;try omega);have h0:mnT e 0=0:=rfl;have n0:mnN e 0=0:=by simp[mnN]
 have n4:mnN e 4=8:=by unfold mnN;rw[hu,hl];simp
 have R:=Lib.hid (fun(k:Nat) (hk:k≤4)=>mnT_rng ok hk);have RN:=Lib.hid (fun(k:Nat)=>mnN_rng e k);have HM:=Lib.hid (mean_rnd (e:=e) (by rw[n4];decide));have b0:=EB.new w e;have E0:=Ext.alloc w (.cells (edC e) 106);have L:=Lib.hid ok.ln;have cu:=b0.up ok.ln;have cl:=b0.le ok.ln;rw[hu]at cu;rw[hl]at cl;have OK:=Lib.hid ok;have H0:=Lib.hid h0;have N0:=Lib.hid n0;have N4:=Lib.hid n4;clear hu hl h0 n0 n4 ok;go_enter Tryz.func120,Tryz.ntmps120
 go_wp2_with fail
 go_loop [7,8,10] (fun t n i=>∃ k:Nat,k≤4∧i= .int .i64 k∧t= .int .i64 (mnT e k)∧n= .int .i64 (mnN e k)) (fun _ _ i=>4-(intOf i).toNat)
 case atStart=>exact⟨0,by omega,rfl,by rw[H0.out],by rw[N0.out]⟩
 case round =>
  obtain⟨k,hk,rfl,rfl,rfl⟩:=hrel;have r1:=R.out k hk;have r2:=RN.out k
  by_cases hlt:k<4
  ·have hd:decide ((k:Int)<4)=true:=by simp;omega
   have ca:=b0.ab L.out hlt;have cf:=b0.lf L.out hlt;have ha:=smp_nth OK.out.sab (i:=k) (by rw[OK.out.ab];exact hlt);have hf:=smp_nth OK.out.slf (i:=k) (by rw[OK.out.lf];exact hlt);have Hs:=Lib.hid (HT.out k);have Hn:=Lib.hid (HNn.out k);generalize nth e.ab k=va at *;generalize nth e.lf k=vl at *;obtain⟨T1,hT1⟩:∃ T1,T1=mnT e (k+1):=⟨_,rfl⟩;obtain⟨N1,hN1⟩:∃ N1,N1=mnN e (k+1):=⟨_,rfl⟩;rw[←hT1]at Hs;rw[←hN1]at Hn;have HT1:=Lib.hid hT1;have HN1:=Lib.hid hN1;clear hT1 hN1;generalize mnT e k=T0 at *;generalize mnN e k=M0 at *;go_wp2;go_round
   case rel=>exact⟨k+1,by omega,by go_num,by rw[←HT1.out,Hs.out],by rw[←HN1.out,Hn.out]⟩
   case measure=>simp[intOf];omega
  ·obtain rfl:k=4:=by omega
   have hz:(mnN e 4 == 0)=false:=by rw[N4.out];rfl
   have hb4:4≤mnN e 4:=by rw[N4.out];omega
   go_wp2_with fail
   refine(rounded_any (mnT e 4) (mnN e 4) _ r1.1 (by omega) (by omega) (by omega)).mono ?_
   rintro r w2 ⟨rfl,rfl⟩
   go_wp2;go_ret
   exact⟨(ret_intH HM).symm,E0⟩
theorem impl_mean_un (e:Ed) (x y:Int) (w:World) (ok:e.ok) (hu:e.up=true) (hl:e.le=false) :
 Calls Tryz.prog 120 #[.agg (edC e),.int .i64 x,.int .i64 y] w fun r w'=>r= .returned (.int .i64 (mean e))∧Ext w w':=by
 have HT:=Lib.hid (fun(k:Nat)=>show mnT e (k+1)=mnT e k+nth e.ab k by simp only[mnT,hu,hl,if_true,if_false,Bool.false_eq_true,Int.add_zero]);have HNn:=Lib.hid (fun(k:Nat)=>show mnN e (k+1)=mnN e k+1 by unfold mnN;rw[hu,hl];simp;try omega);have h0:mnT e 0=0:=rfl;have n0:mnN e 0=0:=by simp[mnN]
 have n4:mnN e 4=4:=by unfold mnN;rw[hu,hl];simp
 have R:=Lib.hid (fun(k:Nat) (hk:k≤4)=>mnT_rng ok hk);have RN:=Lib.hid (fun(k:Nat)=>mnN_rng e k);have HM:=Lib.hid (mean_rnd (e:=e) (by rw[n4];decide));have b0:=EB.new w e;have E0:=Ext.alloc w (.cells (edC e) 106);have L:=Lib.hid ok.ln;have cu:=b0.up ok.ln;have cl:=b0.le ok.ln;rw[hu]at cu;rw[hl]at cl;have OK:=Lib.hid ok;have H0:=Lib.hid h0;have N0:=Lib.hid n0;have N4:=Lib.hid n4;clear hu hl h0 n0 n4 ok;go_enter Tryz.func120,Tryz.ntmps120
 go_wp2_with fail
 go_loop [7,8,10] (fun t n i=>∃ k:Nat,k≤4∧i= .int .i64 k∧t= .int .i64 (mnT e k)∧n= .int .i64 (mnN e k)) (fun _ _ i=>4-(intOf i).toNat)
 case atStart=>exact⟨0,by omega,rfl,by rw[H0.out],by rw[N0.out]⟩
 case round =>
  obtain⟨k,hk,rfl,rfl,rfl⟩:=hrel;have r1:=R.out k hk;have r2:=RN.out k
  by_cases hlt:k<4
  ·have hd:decide ((k:Int)<4)=true:=by simp;omega
   have ca:=b0.ab L.out hlt;have cf:=b0.lf L.out hlt;have ha:=smp_nth OK.out.sab (i:=k) (by rw[OK.out.ab];exact hlt);have hf:=smp_nth OK.out.slf (i:=k) (by rw[OK.out.lf];exact hlt);have Hs:=Lib.hid (HT.out k);have Hn:=Lib.hid (HNn.out k);generalize nth e.ab k=va at *;generalize nth e.lf k=vl at *;obtain⟨T1,hT1⟩:∃ T1,T1=mnT e (k+1):=⟨_,rfl⟩;obtain⟨N1,hN1⟩:∃ N1,N1=mnN e (k+1):=⟨_,rfl⟩;rw[←hT1]at Hs;rw[←hN1]at Hn;have HT1:=Lib.hid hT1;have HN1:=Lib.hid hN1;clear hT1 hN1;generalize mnT e k=T0 at *;generalize mnN e k=M0 at *;go_wp2;go_round
   case rel=>exact⟨k+1,by omega,by go_num,by rw[←HT1.out,Hs.out],by rw[←HN1.out,Hn.out]⟩
   case measure=>simp[intOf];omega
  ·obtain rfl:k=4:=by omega
   have hz:(mnN e 4 == 0)=false:=by rw[N4.out];rfl
   have hb4:4≤mnN e 4:=by rw[N4.out];omega
   go_wp2_with fail
   refine(rounded_any (mnT e 4) (mnN e 4) _ r1.1 (by omega) (by omega) (by omega)).mono ?_
   rintro r w2 ⟨rfl,rfl⟩
   go_wp2;go_ret
   exact⟨(ret_intH HM).symm,E0⟩
theorem impl_mean_nl (e:Ed) (x y:Int) (w:World) (ok:e.ok) (hu:e.up=false) (hl:e.le=true) :
 Calls Tryz.prog 120 #[.agg (edC e),.int .i64 x,.int .i64 y] w fun r w'=>r= .returned (.int .i64 (mean e))∧Ext w w':=by
 have HT:=Lib.hid (fun(k:Nat)=>show mnT e (k+1)=mnT e k+nth e.lf k by simp only[mnT,hu,hl,if_true,if_false,Bool.false_eq_true,Int.add_zero]);have HNn:=Lib.hid (fun(k:Nat)=>show mnN e (k+1)=mnN e k+1 by unfold mnN;rw[hu,hl];simp;try omega);have h0:mnT e 0=0:=rfl;have n0:mnN e 0=0:=by simp[mnN]
 have n4:mnN e 4=4:=by unfold mnN;rw[hu,hl];simp
 have R:=Lib.hid (fun(k:Nat) (hk:k≤4)=>mnT_rng ok hk);have RN:=Lib.hid (fun(k:Nat)=>mnN_rng e k);have HM:=Lib.hid (mean_rnd (e:=e) (by rw[n4];decide));have b0:=EB.new w e;have E0:=Ext.alloc w (.cells (edC e) 106);have L:=Lib.hid ok.ln;have cu:=b0.up ok.ln;have cl:=b0.le ok.ln;rw[hu]at cu;rw[hl]at cl;have OK:=Lib.hid ok;have H0:=Lib.hid h0;have N0:=Lib.hid n0;have N4:=Lib.hid n4;clear hu hl h0 n0 n4 ok;go_enter Tryz.func120,Tryz.ntmps120
 go_wp2_with fail
 go_loop [7,8,10] (fun t n i=>∃ k:Nat,k≤4∧i= .int .i64 k∧t= .int .i64 (mnT e k)∧n= .int .i64 (mnN e k)) (fun _ _ i=>4-(intOf i).toNat)
 case atStart=>exact⟨0,by omega,rfl,by rw[H0.out],by rw[N0.out]⟩
 case round =>
  obtain⟨k,hk,rfl,rfl,rfl⟩:=hrel;have r1:=R.out k hk;have r2:=RN.out k
  by_cases hlt:k<4
  ·have hd:decide ((k:Int)<4)=true:=by simp;omega
   have ca:=b0.ab L.out hlt;have cf:=b0.lf L.out hlt;have ha:=smp_nth OK.out.sab (i:=k) (by rw[OK.out.ab];exact hlt);have hf:=smp_nth OK.out.slf (i:=k) (by rw[OK.out.lf];exact hlt);have Hs:=Lib.hid (HT.out k);have Hn:=Lib.hid (HNn.out k);generalize nth e.ab k=va at *;generalize nth e.lf k=vl at *;obtain⟨T1,hT1⟩:∃ T1,T1=mnT e (k+1):=⟨_,rfl⟩;obtain⟨N1,hN1⟩:∃ N1,N1=mnN e (k+1):=⟨_,rfl⟩;rw[←hT1]at Hs;rw[←hN1]at Hn;have HT1:=Lib.hid hT1;have HN1:=Lib.hid hN1;clear hT1 hN1;generalize mnT e k=T0 at *;generalize mnN e k=M0 at *;go_wp2;go_round
   case rel=>exact⟨k+1,by omega,by go_num,by rw[←HT1.out,Hs.out],by rw[←HN1.out,Hn.out]⟩
   case measure=>simp[intOf];omega
  ·obtain rfl:k=4:=by omega
   have hz:(mnN e 4 == 0)=false:=by rw[N4.out];rfl
   have hb4:4≤mnN e 4:=by rw[N4.out];omega
   go_wp2_with fail
   refine(rounded_any (mnT e 4) (mnN e 4) _ r1.1 (by omega) (by omega) (by omega)).mono ?_
   rintro r w2 ⟨rfl,rfl⟩
   go_wp2;go_ret
   exact⟨(ret_intH HM).symm,E0⟩
theorem impl_mean_nn (e:Ed) (x y:Int) (w:World) (ok:e.ok) (hu:e.up=false) (hl:e.le=false) :
 Calls Tryz.prog 120 #[.agg (edC e),.int .i64 x,.int .i64 y] w fun r w'=>r= .returned (.int .i64 (mean e))∧Ext w w':=by
 have HT:=Lib.hid (fun(k:Nat)=>show mnT e (k+1)=mnT e k by simp only[mnT,hu,hl,if_true,if_false,Bool.false_eq_true,Int.add_zero]);have HNn:=Lib.hid (fun(k:Nat)=>show mnN e (k+1)=mnN e k by unfold mnN;rw[hu,hl];simp;try omega);have h0:mnT e 0=0:=rfl;have n0:mnN e 0=0:=by simp[mnN]
 have n4:mnN e 4=0:=by unfold mnN;rw[hu,hl];simp
 have R:=Lib.hid (fun(k:Nat) (hk:k≤4)=>mnT_rng ok hk);have RN:=Lib.hid (fun(k:Nat)=>mnN_rng e k);have HM:=Lib.hid (mean_none n4);have b0:=EB.new w e;have E0:=Ext.alloc w (.cells (edC e) 106);have L:=Lib.hid ok.ln;have cu:=b0.up ok.ln;have cl:=b0.le ok.ln;rw[hu]at cu;rw[hl]at cl;have OK:=Lib.hid ok;have H0:=Lib.hid h0;have N0:=Lib.hid n0;have N4:=Lib.hid n4;clear hu hl h0 n0 n4 ok;go_enter Tryz.func120,Tryz.ntmps120
 go_wp2_with fail
 go_loop [7,8,10] (fun t n i=>∃ k:Nat,k≤4∧i= .int .i64 k∧t= .int .i64 (mnT e k)∧n= .int .i64 (mnN e k)) (fun _ _ i=>4-(intOf i).toNat)
 case atStart=>exact⟨0,by omega,rfl,by rw[H0.out],by rw[N0.out]⟩
 case round =>
  obtain⟨k,hk,rfl,rfl,rfl⟩:=hrel;have r1:=R.out k hk;have r2:=RN.out k
  by_cases hlt:k<4
  ·have hd:decide ((k:Int)<4)=true:=by simp;omega
   have ca:=b0.ab L.out hlt;have cf:=b0.lf L.out hlt;have ha:=smp_nth OK.out.sab (i:=k) (by rw[OK.out.ab];exact hlt);have hf:=smp_nth OK.out.slf (i:=k) (by rw[OK.out.lf];exact hlt);have Hs:=Lib.hid (HT.out k);have Hn:=Lib.hid (HNn.out k);generalize nth e.ab k=va at *;generalize nth e.lf k=vl at *;obtain⟨T1,hT1⟩:∃ T1,T1=mnT e (k+1):=⟨_,rfl⟩;obtain⟨N1,hN1⟩:∃ N1,N1=mnN e (k+1):=⟨_,rfl⟩;rw[←hT1]at Hs;rw[←hN1]at Hn;have HT1:=Lib.hid hT1;have HN1:=Lib.hid hN1;clear hT1 hN1;generalize mnT e k=T0 at *;generalize mnN e k=M0 at *;go_wp2;go_round
   case rel=>exact⟨k+1,by omega,by go_num,by rw[←HT1.out,Hs.out],by rw[←HN1.out,Hn.out]⟩
   case measure=>simp[intOf];omega
  ·obtain rfl:k=4:=by omega
   have hz:(mnN e 4 == 0)=true:=by rw[N4.out];rfl
   go_wp2;go_ret
   exact⟨(ret_intH HM).symm,E0⟩
theorem impl_mean_any (e:Ed) (x y:Int) (w:World) (ok:e.ok) :
 Calls Tryz.prog 120 #[.agg (edC e),.int .i64 x,.int .i64 y] w fun r w'=>r= .returned (.int .i64 (mean e))∧Ext w w':=by
 cases hu:e.up <;> cases hl:e.le
 ·exact impl_mean_nn e x y w ok hu hl
 ·exact impl_mean_nl e x y w ok hu hl
 ·exact impl_mean_un e x y w ok hu hl
 ·exact impl_mean_ul e x y w ok hu hl
theorem l6Mean_ul (e:Ed) (w:World) (ok:e.ok) (hu:e.up=true) (hl:e.le=true) :
 Calls Tryz.prog 163 #[.agg (edC e)] w fun r w'=>r= .returned (.int .i64 (mean e))∧Ext w w':=by
 have HT:=Lib.hid (fun(k:Nat)=>show mnT e (k+1)=mnT e k+nth e.ab k+nth e.lf k by simp only[mnT,hu,hl,if_true,if_false,Bool.false_eq_true,Int.add_zero]);have HNn:=Lib.hid (fun(k:Nat)=>show mnN e (k+1)=mnN e k+1+1 by unfold mnN;rw[hu,hl];simp;try omega);have h0:mnT e 0=0:=rfl;have n0:mnN e 0=0:=by simp[mnN]
 have n4:mnN e 4=8:=by unfold mnN;rw[hu,hl];simp
 have R:=Lib.hid (fun(k:Nat) (hk:k≤4)=>mnT_rng ok hk);have RN:=Lib.hid (fun(k:Nat)=>mnN_rng e k);have HM:=Lib.hid (mean_rnd (e:=e) (by rw[n4];decide));have b0:=EB.new w e;have E0:=Ext.alloc w (.cells (edC e) 106);have L:=Lib.hid ok.ln;have cu:=b0.up ok.ln;have cl:=b0.le ok.ln;rw[hu]at cu;rw[hl]at cl;have OK:=Lib.hid ok;have H0:=Lib.hid h0;have N0:=Lib.hid n0;have N4:=Lib.hid n4;clear hu hl h0 n0 n4 ok;go_enter Tryz.func163,Tryz.ntmps163
 go_wp2_with fail
 go_loop [3,4,5] (fun t n i=>∃ k:Nat,k≤4∧i= .int .i64 k∧t= .int .i64 (mnT e k)∧n= .int .i64 (mnN e k)) (fun _ _ i=>4-(intOf i).toNat)
 case atStart=>exact⟨0,by omega,rfl,by rw[H0.out],by rw[N0.out]⟩
 case round =>
  obtain⟨k,hk,rfl,rfl,rfl⟩:=hrel;have r1:=R.out k hk;have r2:=RN.out k
  by_cases hlt:k<4
  ·have hd:decide ((k:Int)<4)=true:=by simp;omega
   have ca:=b0.ab L.out hlt;have cf:=b0.lf L.out hlt;have ha:=smp_nth OK.out.sab (i:=k) (by rw[OK.out.ab];exact hlt);have hf:=smp_nth OK.out.slf (i:=k) (by rw[OK.out.lf];exact hlt);have Hs:=Lib.hid (HT.out k);have Hn:=Lib.hid (HNn.out k);generalize nth e.ab k=va at *;generalize nth e.lf k=vl at *;obtain⟨T1,hT1⟩:∃ T1,T1=mnT e (k+1):=⟨_,rfl⟩;obtain⟨N1,hN1⟩:∃ N1,N1=mnN e (k+1):=⟨_,rfl⟩;rw[←hT1]at Hs;rw[←hN1]at Hn;have HT1:=Lib.hid hT1;have HN1:=Lib.hid hN1;clear hT1 hN1;generalize mnT e k=T0 at *;generalize mnN e k=M0 at *;go_wp2;go_round
   case rel=>exact⟨k+1,by omega,by go_num,by rw[←HT1.out,Hs.out],by rw[←HN1.out,Hn.out]⟩
   case measure=>simp[intOf];omega
  ·obtain rfl:k=4:=by omega
   have hz:(mnN e 4 == 0)=false:=by rw[N4.out];rfl
   have hm:mean e=(mnT e 4+4)/8:=by rw[HM.out,N4.out];unfold rnd;omega
   have HM2:=Lib.hid hm;rw[N4.out]at r1 r2 hz⊢;clear hm;go_wp2;go_ret
   exact⟨(ret_intH HM2).symm,E0⟩
theorem l6Mean_un (e:Ed) (w:World) (ok:e.ok) (hu:e.up=true) (hl:e.le=false) :
 Calls Tryz.prog 163 #[.agg (edC e)] w fun r w'=>r= .returned (.int .i64 (mean e))∧Ext w w':=by
 have HT:=Lib.hid (fun(k:Nat)=>show mnT e (k+1)=mnT e k+nth e.ab k by simp only[mnT,hu,hl,if_true,if_false,Bool.false_eq_true,Int.add_zero]);have HNn:=Lib.hid (fun(k:Nat)=>show mnN e (k+1)=mnN e k+1 by unfold mnN;rw[hu,hl];simp;try omega);have h0:mnT e 0=0:=rfl;have n0:mnN e 0=0:=by simp[mnN]
 have n4:mnN e 4=4:=by unfold mnN;rw[hu,hl];simp
 have R:=Lib.hid (fun(k:Nat) (hk:k≤4)=>mnT_rng ok hk);have RN:=Lib.hid (fun(k:Nat)=>mnN_rng e k);have HM:=Lib.hid (mean_rnd (e:=e) (by rw[n4];decide));have b0:=EB.new w e;have E0:=Ext.alloc w (.cells (edC e) 106);have L:=Lib.hid ok.ln;have cu:=b0.up ok.ln;have cl:=b0.le ok.ln;rw[hu]at cu;rw[hl]at cl;have OK:=Lib.hid ok;have H0:=Lib.hid h0;have N0:=Lib.hid n0;have N4:=Lib.hid n4;clear hu hl h0 n0 n4 ok;go_enter Tryz.func163,Tryz.ntmps163
 go_wp2_with fail
 go_loop [3,4,5] (fun t n i=>∃ k:Nat,k≤4∧i= .int .i64 k∧t= .int .i64 (mnT e k)∧n= .int .i64 (mnN e k)) (fun _ _ i=>4-(intOf i).toNat)
 case atStart=>exact⟨0,by omega,rfl,by rw[H0.out],by rw[N0.out]⟩
 case round =>
  obtain⟨k,hk,rfl,rfl,rfl⟩:=hrel;have r1:=R.out k hk;have r2:=RN.out k
  by_cases hlt:k<4
  ·have hd:decide ((k:Int)<4)=true:=by simp;omega
   have ca:=b0.ab L.out hlt;have cf:=b0.lf L.out hlt;have ha:=smp_nth OK.out.sab (i:=k) (by rw[OK.out.ab];exact hlt);have hf:=smp_nth OK.out.slf (i:=k) (by rw[OK.out.lf];exact hlt);have Hs:=Lib.hid (HT.out k);have Hn:=Lib.hid (HNn.out k);generalize nth e.ab k=va at *;generalize nth e.lf k=vl at *;obtain⟨T1,hT1⟩:∃ T1,T1=mnT e (k+1):=⟨_,rfl⟩;obtain⟨N1,hN1⟩:∃ N1,N1=mnN e (k+1):=⟨_,rfl⟩;rw[←hT1]at Hs;rw[←hN1]at Hn;have HT1:=Lib.hid hT1;have HN1:=Lib.hid hN1;clear hT1 hN1;generalize mnT e k=T0 at *;generalize mnN e k=M0 at *;go_wp2;go_round
   case rel=>exact⟨k+1,by omega,by go_num,by rw[←HT1.out,Hs.out],by rw[←HN1.out,Hn.out]⟩
   case measure=>simp[intOf];omega
  ·obtain rfl:k=4:=by omega
   have hz:(mnN e 4 == 0)=false:=by rw[N4.out];rfl
   have hm:mean e=(mnT e 4+2)/4:=by rw[HM.out,N4.out];unfold rnd;omega
   have HM2:=Lib.hid hm;rw[N4.out]at r1 r2 hz⊢;clear hm;go_wp2;go_ret
   exact⟨(ret_intH HM2).symm,E0⟩
theorem l6Mean_nl (e:Ed) (w:World) (ok:e.ok) (hu:e.up=false) (hl:e.le=true) :
 Calls Tryz.prog 163 #[.agg (edC e)] w fun r w'=>r= .returned (.int .i64 (mean e))∧Ext w w':=by
 have HT:=Lib.hid (fun(k:Nat)=>show mnT e (k+1)=mnT e k+nth e.lf k by simp only[mnT,hu,hl,if_true,if_false,Bool.false_eq_true,Int.add_zero]);have HNn:=Lib.hid (fun(k:Nat)=>show mnN e (k+1)=mnN e k+1 by unfold mnN;rw[hu,hl];simp;try omega);have h0:mnT e 0=0:=rfl;have n0:mnN e 0=0:=by simp[mnN]
 have n4:mnN e 4=4:=by unfold mnN;rw[hu,hl];simp
 have R:=Lib.hid (fun(k:Nat) (hk:k≤4)=>mnT_rng ok hk);have RN:=Lib.hid (fun(k:Nat)=>mnN_rng e k);have HM:=Lib.hid (mean_rnd (e:=e) (by rw[n4];decide));have b0:=EB.new w e;have E0:=Ext.alloc w (.cells (edC e) 106);have L:=Lib.hid ok.ln;have cu:=b0.up ok.ln;have cl:=b0.le ok.ln;rw[hu]at cu;rw[hl]at cl;have OK:=Lib.hid ok;have H0:=Lib.hid h0;have N0:=Lib.hid n0;have N4:=Lib.hid n4;clear hu hl h0 n0 n4 ok;go_enter Tryz.func163,Tryz.ntmps163
 go_wp2_with fail
 go_loop [3,4,5] (fun t n i=>∃ k:Nat,k≤4∧i= .int .i64 k∧t= .int .i64 (mnT e k)∧n= .int .i64 (mnN e k)) (fun _ _ i=>4-(intOf i).toNat)
 case atStart=>exact⟨0,by omega,rfl,by rw[H0.out],by rw[N0.out]⟩
 case round =>
  obtain⟨k,hk,rfl,rfl,rfl⟩:=hrel;have r1:=R.out k hk;have r2:=RN.out k
  by_cases hlt:k<4
  ·have hd:decide ((k:Int)<4)=true:=by simp;omega
   have ca:=b0.ab L.out hlt;have cf:=b0.lf L.out hlt;have ha:=smp_nth OK.out.sab (i:=k) (by rw[OK.out.ab];exact hlt);have hf:=smp_nth OK.out.slf (i:=k) (by rw[OK.out.lf];exact hlt);have Hs:=Lib.hid (HT.out k);have Hn:=Lib.hid (HNn.out k);generalize nth e.ab k=va at *;generalize nth e.lf k=vl at *;obtain⟨T1,hT1⟩:∃ T1,T1=mnT e (k+1):=⟨_,rfl⟩;obtain⟨N1,hN1⟩:∃ N1,N1=mnN e (k+1):=⟨_,rfl⟩;rw[←hT1]at Hs;rw[←hN1]at Hn;have HT1:=Lib.hid hT1;have HN1:=Lib.hid hN1;clear hT1 hN1;generalize mnT e k=T0 at *;generalize mnN e k=M0 at *;go_wp2;go_round
   case rel=>exact⟨k+1,by omega,by go_num,by rw[←HT1.out,Hs.out],by rw[←HN1.out,Hn.out]⟩
   case measure=>simp[intOf];omega
  ·obtain rfl:k=4:=by omega
   have hz:(mnN e 4 == 0)=false:=by rw[N4.out];rfl
   have hm:mean e=(mnT e 4+2)/4:=by rw[HM.out,N4.out];unfold rnd;omega
   have HM2:=Lib.hid hm;rw[N4.out]at r1 r2 hz⊢;clear hm;go_wp2;go_ret
   exact⟨(ret_intH HM2).symm,E0⟩
theorem l6Mean_nn (e:Ed) (w:World) (ok:e.ok) (hu:e.up=false) (hl:e.le=false) :
 Calls Tryz.prog 163 #[.agg (edC e)] w fun r w'=>r= .returned (.int .i64 (mean e))∧Ext w w':=by
 have HT:=Lib.hid (fun(k:Nat)=>show mnT e (k+1)=mnT e k by simp only[mnT,hu,hl,if_true,if_false,Bool.false_eq_true,Int.add_zero]);have HNn:=Lib.hid (fun(k:Nat)=>show mnN e (k+1)=mnN e k by unfold mnN;rw[hu,hl];simp;try omega);have h0:mnT e 0=0:=rfl;have n0:mnN e 0=0:=by simp[mnN]
 have n4:mnN e 4=0:=by unfold mnN;rw[hu,hl];simp
 have R:=Lib.hid (fun(k:Nat) (hk:k≤4)=>mnT_rng ok hk);have RN:=Lib.hid (fun(k:Nat)=>mnN_rng e k);have HM:=Lib.hid (mean_none n4);have b0:=EB.new w e;have E0:=Ext.alloc w (.cells (edC e) 106);have L:=Lib.hid ok.ln;have cu:=b0.up ok.ln;have cl:=b0.le ok.ln;rw[hu]at cu;rw[hl]at cl;have OK:=Lib.hid ok;have H0:=Lib.hid h0;have N0:=Lib.hid n0;have N4:=Lib.hid n4;clear hu hl h0 n0 n4 ok;go_enter Tryz.func163,Tryz.ntmps163
 go_wp2_with fail
 go_loop [3,4,5] (fun t n i=>∃ k:Nat,k≤4∧i= .int .i64 k∧t= .int .i64 (mnT e k)∧n= .int .i64 (mnN e k)) (fun _ _ i=>4-(intOf i).toNat)
 case atStart=>exact⟨0,by omega,rfl,by rw[H0.out],by rw[N0.out]⟩
 case round =>
  obtain⟨k,hk,rfl,rfl,rfl⟩:=hrel;have r1:=R.out k hk;have r2:=RN.out k
  by_cases hlt:k<4
  ·have hd:decide ((k:Int)<4)=true:=by simp;omega
   have ca:=b0.ab L.out hlt;have cf:=b0.lf L.out hlt;have ha:=smp_nth OK.out.sab (i:=k) (by rw[OK.out.ab];exact hlt);have hf:=smp_nth OK.out.slf (i:=k) (by rw[OK.out.lf];exact hlt);have Hs:=Lib.hid (HT.out k);have Hn:=Lib.hid (HNn.out k);generalize nth e.ab k=va at *;generalize nth e.lf k=vl at *;obtain⟨T1,hT1⟩:∃ T1,T1=mnT e (k+1):=⟨_,rfl⟩;obtain⟨N1,hN1⟩:∃ N1,N1=mnN e (k+1):=⟨_,rfl⟩;rw[←hT1]at Hs;rw[←hN1]at Hn;have HT1:=Lib.hid hT1;have HN1:=Lib.hid hN1;clear hT1 hN1;generalize mnT e k=T0 at *;generalize mnN e k=M0 at *;go_wp2;go_round
   case rel=>exact⟨k+1,by omega,by go_num,by rw[←HT1.out,Hs.out],by rw[←HN1.out,Hn.out]⟩
   case measure=>simp[intOf];omega
  ·obtain rfl:k=4:=by omega
   have hz:(mnN e 4 == 0)=true:=by rw[N4.out];rfl
   go_wp2;go_ret
   exact⟨(ret_intH HM).symm,E0⟩
theorem l6Mean_any (e:Ed) (w:World) (ok:e.ok) :
 Calls Tryz.prog 163 #[.agg (edC e)] w fun r w'=>r= .returned (.int .i64 (mean e))∧Ext w w':=by
 cases hu:e.up <;> cases hl:e.le
 ·exact l6Mean_nn e w ok hu hl
 ·exact l6Mean_nl e w ok hu hl
 ·exact l6Mean_un e w ok hu hl
 ·exact l6Mean_ul e w ok hu hl
theorem vertical_any (e:Ed) (x y:Nat) (w:World) (ok:e.ok) (hx:x<4) (hy:y<4) :
 Calls Tryz.prog 121 #[.agg (edC e),.int .i64 (x:Nat),.int .i64 (y:Nat)] w fun r w'=>r= .returned (.int .i64 (prd1 1 e x y))∧Ext w w':=by
 have b0:=EB.new w e;have E0:=Ext.alloc w (.cells (edC e) 106);have c0:=b0.ab ok.ln hx;have HP:=Lib.hid (show prd1 1 e x y=nth e.ab x from rfl);clear ok;go_enter Tryz.func121,Tryz.ntmps121
 go_wp2;go_ret
 exact⟨(ret_intH HP).symm,E0⟩
theorem horizontal_any (e:Ed) (x y:Nat) (w:World) (ok:e.ok) (hx:x<4) (hy:y<4) :
 Calls Tryz.prog 122 #[.agg (edC e),.int .i64 (x:Nat),.int .i64 (y:Nat)] w fun r w'=>r= .returned (.int .i64 (prd1 2 e x y))∧Ext w w':=by
 have b0:=EB.new w e;have E0:=Ext.alloc w (.cells (edC e) 106);have c0:=b0.lf ok.ln hy;have HP:=Lib.hid (show prd1 2 e x y=nth e.lf y from rfl);clear ok;go_enter Tryz.func122,Tryz.ntmps122
 go_wp2;go_ret
 exact⟨(ret_intH HP).symm,E0⟩
theorem plane_any (e:Ed) (x y:Nat) (w:World) (ok:e.ok) (hx:x<4) (hy:y<4) :
 Calls Tryz.prog 124 #[.agg (edC e),.int .i64 (x:Nat),.int .i64 (y:Nat)] w fun r w'=>r= .returned (.int .i64 (prd1 4 e x y))∧Ext w w':=by
 have b0:=EB.new w e;have E0:=Ext.alloc w (.cells (edC e) 106);have HP:=Lib.hid (show prd1 4 e x y=clipI (nth e.ab x+nth e.lf y-e.co) 0 255 from rfl);have ha:=smp_nth ok.sab (i:=x) (by rw[ok.ab];exact hx);have hf:=smp_nth ok.slf (i:=y) (by rw[ok.lf];exact hy);have hc:=ok.sco;have CA:=Lib.hid (b0.ab ok.ln hx);have CL:=Lib.hid (b0.lf ok.ln hy);have CC:=Lib.hid (b0.co ok.ln);generalize nth e.ab x=va at *;generalize nth e.lf y=vl at *;obtain⟨v,hv⟩:∃ v,v=clipI (va+vl-e.co) 0 255:=⟨_,rfl⟩;rw[←hv]at HP;have HV:=Lib.hid hv;clear hv ok b0;go_enter Tryz.func124,Tryz.ntmps124
 go_wp2_with fail
 obtain⟨B,hB⟩:∃ B,B=w.heap.size:=⟨_,rfl⟩;rw[←hB]at CA CL CC⊢;have HB:=Lib.hid hB;clear hB;generalize w.alloc (.cells (edC e) 106)=w0 at *;refine wp_region_inv2 (by kernel_rfl) [(6,13),(7,0),(8,1),(9,2),(10,3),(11,4),(12,5),(13,6),(14,7),(15,8),(16,9),(17,10),(18,11),(19,12)] [[],[],[0,1],[0,1,2],[],[],[4,5],[4,5,6],[0,1,2,3,4,5,6,7],[],[9],[0,1,2,3,4,5,6,7,8,9,10],[0,1,2,3,4,5,6,7,8,9,10,11],[0,1,2,3,4,5,6,7,8,9,10,11,12]] (fun i own ys wx=>match i with|0=>own= .int .i64 (x:Nat)|1=>own= .pointer (some ⟨B,0,none⟩)|2=>own= .pointer (some ⟨B,x,none⟩)|3=>own= .int .i64 va|4=>own= .int .i64 (y:Nat)|5=>own= .pointer (some ⟨B,4,none⟩)|6=>own= .pointer (some ⟨B,4+y,none⟩)|7=>own= .int .i64 vl|8=>own= .int .i64 (va+vl)|9=>own= .pointer (some ⟨B,8,none⟩)|10=>own= .int .i64 e.co|11=>own= .int .i64 (va+vl-e.co)|12=>own= .int .i64 v|13=>own= .int .i64 v|_=>True) (fun kx wx=>Ext w0 wx) (by kernel_rfl) (by kernel_rfl) (by kernel_rfl) ?g0_r1 ?gop_r1 ?gend_r1
 case g0_r1=>exact Ext.drewN _ 1
 case gop_r1 =>
  refine⟨?_,?_,?o2,?o3,?_,?_,?o6,?o7,?o8,?_,?o10,?o11,?o12,?o13,trivial⟩ <;> (intro kx xs wx hk hG hD hI Qo Kx hK hQo;simp only[patchS,Nat.reduceAdd,Nat.reduceEqDiff,↓reduceIte]at hQo⊢)
  case o2 =>
   rw[ddq (hD 0 rfl),ddq (hD 1 rfl)]at hQo⊢;clear hD hI;go_wp2;exact hK.out _ _ ⟨rfl,hG,kkp⟩
  case o3 =>
   rw[ddq (hD 2 rfl)]at hQo⊢;clear hD hI;have cx:=cell_ext hG CA.out;go_wp2;exact hK.out _ _ ⟨rfl,hG,kkp⟩
  case o6 =>
   rw[ddq (hD 4 rfl),ddq (hD 5 rfl)]at hQo⊢;clear hD hI;go_wp2;exact hK.out _ _ ⟨rfl,hG,kkp⟩
  case o7 =>
   rw[ddq (hD 6 rfl)]at hQo⊢;clear hD hI;have cx:=cell_ext hG CL.out;go_wp2;exact hK.out _ _ ⟨rfl,hG,kkp⟩
  case o8 =>
   rw[ddq (hD 3 rfl),ddq (hD 7 rfl)]at hQo⊢;clear hD hI;go_wp2;exact hK.out _ _ ⟨rfl,hG,kkp⟩
  case o10 =>
   rw[ddq (hD 9 rfl)]at hQo⊢;clear hD hI;have cx:=cell_ext hG CC.out;go_wp2;exact hK.out _ _ ⟨rfl,hG,kkp⟩
  case o11 =>
   rw[ddq (hD 8 rfl),ddq (hD 10 rfl)]at hQo⊢;clear hD hI;go_wp2;exact hK.out _ _ ⟨rfl,hG,kkp⟩
  case o12 =>
   rw[ddq (hD 11 rfl)]at hQo⊢;clear hD hI;go_wp2_with fail
   refine(clamp_any _ _ _ _ (by omega)).mono ?_
   rintro r w9 ⟨rfl,rfl⟩
   rw[←HV.out];go_wp2;exact hK.out _ _ ⟨rfl,hG,kkp⟩
  case o13 =>
   rw[ddq (hD 12 rfl)]at hQo⊢;clear hD hI;go_wp2;exact hK.out _ _ ⟨rfl,hG,kkp⟩
  all_goals
   clear hD hI;go_wp2;exact hK.out _ _ ⟨rfl,hG,kkp⟩
 intro xs wx hV hG;have d13:_=_:=hV 13 (by decide);clear hV;simp only[patchS,Nat.reduceAdd,Nat.reduceEqDiff,↓reduceIte];generalize xs 0=y0,xs 1=y1,xs 2=y2,xs 3=y3,xs 4=y4,xs 5=y5,xs 6=y6,xs 7=y7,xs 8=y8,xs 9=y9,xs 10=y10,xs 11=y11,xs 12=y12,xs 13=y13 at *
 replace hG:Ext w0 wx:=hG
 subst d13;go_wp2;go_ret
 exact⟨(ret_intH HP).symm,E0.trans hG⟩
/-- The border as a list. -/
def bordL (e:Ed):List Int := [nth e.lf 3,nth e.lf 2,nth e.lf 1,nth e.lf 0,e.co,nth e.ab 0,nth e.ab 1,nth e.ab 2,nth e.ab 3]
theorem nth_bordL (e:Ed) {k:Nat} (hk:k≤8):nth (bordL e) k=bord e k:=by
 match k,hk with
 | 0,_=>rfl
 | 1,_=>rfl
 | 2,_=>rfl
 | 3,_=>rfl
 | 4,_=>rfl
 | 5,_=>rfl
 | 6,_=>rfl
 | 7,_=>rfl
 | 8,_=>rfl
theorem diagonal_any (e:Ed) (x y:Nat) (w:World) (ok:e.ok) (hx:x<4) (hy:y<4) :
 Calls Tryz.prog 123 #[.agg (edC e),.int .i64 (x:Nat),.int .i64 (y:Nat)] w fun r w'=>r= .returned (.int .i64 (prd1 3 e x y))∧Ext w w':=by
 have b0:=EB.new w e;have HP:=Lib.hid (show prd1 3 e x y=(bord e (3+x-y)+2*bord e (4+x-y)+bord e (5+x-y)+2)/4 from rfl);have c0:=b0.lf ok.ln (k:=0) (by omega);have c1:=b0.lf ok.ln (k:=1) (by omega);have c2:=b0.lf ok.ln (k:=2) (by omega);have c3:=b0.lf ok.ln (k:=3) (by omega);have c4:=b0.co ok.ln;have c5:=b0.ab ok.ln (k:=0) (by omega);have c6:=b0.ab ok.ln (k:=1) (by omega);have c7:=b0.ab ok.ln (k:=2) (by omega);have c8:=b0.ab ok.ln (k:=3) (by omega);simp only[Nat.add_zero,Nat.reduceAdd]at c0 c1 c2 c3;have i1:=IB.new (w.alloc (.cells (edC e) 106)) 167 (bordL e);have E1:=(Ext.alloc w (.cells (edC e) 106)).trans (Ext.alloc _ (.cells (ic (bordL e)) 167));have q1:=bord_rng ok (k:=3+x-y) (by omega);have q2:=bord_rng ok (k:=4+x-y) (by omega);have q3:=bord_rng ok (k:=5+x-y) (by omega);simp only[World.size_alloc]at i1;have d1:=i1.cell (i:=3+x-y) (by show 3+x-y<9;omega);have d2:=i1.cell (i:=4+x-y) (by show 4+x-y<9;omega);have d3:=i1.cell (i:=5+x-y) (by show 5+x-y<9;omega);rw[nth_bordL e (by omega)]at d1 d2 d3;have K1:=Lib.hid (show(4:Int)+(x:Int)-(y:Int)-1=((3+x-y:Nat):Int) by omega);have K2:=Lib.hid (show(4:Int)+(x:Int)-(y:Int)=((4+x-y:Nat):Int) by omega);have K3:=Lib.hid (show(4:Int)+(x:Int)-(y:Int)+1=((5+x-y:Nat):Int) by omega);have l1:3+x-y<9:=by omega
 have l2:4+x-y<9:=by omega
 have l3:5+x-y<9:=by omega
 generalize bord e (3+x-y)=v1 at *;generalize bord e (4+x-y)=v2 at *;generalize bord e (5+x-y)=v3 at *;obtain⟨k1,hk1⟩:∃ k,k=3+x-y:=⟨_,rfl⟩;obtain⟨k2,hk2⟩:∃ k,k=4+x-y:=⟨_,rfl⟩;obtain⟨k3,hk3⟩:∃ k,k=5+x-y:=⟨_,rfl⟩;rw[←hk1]at d1 K1 l1;rw[←hk2]at d2 K2 l2;rw[←hk3]at d3 K3 l3;have D1:=Lib.hid d1;have D2:=Lib.hid d2;have D3:=Lib.hid d3;clear hk1 hk2 hk3 d1 d2 d3 i1 ok b0;go_enter Tryz.func123,Tryz.ntmps123
 go_wp2_with fail
 try simp only[World.size_alloc]
 obtain⟨B,hB⟩:∃ B,B=w.heap.size:=⟨_,rfl⟩;rw[←hB]at D1 D2 D3⊢;have HB:=Lib.hid hB;clear hB c0 c1 c2 c3 c4 c5 c6 c7 c8;have hww:(w.alloc (.cells (edC e) 106)).alloc (.cells #[.int .i64 (nth e.lf 3),.int .i64 (nth e.lf 2),.int .i64 (nth e.lf 1),.int .i64 (nth e.lf 0),.int .i64 e.co,.int .i64 (nth e.ab 0),.int .i64 (nth e.ab 1),.int .i64 (nth e.ab 2),.int .i64 (nth e.ab 3)] 167)=(w.alloc (.cells (edC e) 106)).alloc (.cells (ic (bordL e)) 167):=rfl;rw[hww];clear hww;generalize (w.alloc (.cells (edC e) 106)).alloc (.cells (ic (bordL e)) 167)=w0 at *;refine wp_region_inv2 (by kernel_rfl) [(6,16),(40,0),(41,1),(42,2),(43,3),(44,4),(45,5),(46,6),(47,7),(48,8),(49,9),(50,10),(51,11),(52,12),(53,13),(54,14),(55,15)] [[],[0],[0,1],[0,1,2],[],[4],[4,5],[4,5,6],[0,1,2,3,4,5,6,7],[],[9],[9,10],[9,10,11],[0,1,2,3,4,5,6,7,8,9,10,11,12],[0,1,2,3,4,5,6,7,8,9,10,11,12,13],[0,1,2,3,4,5,6,7,8,9,10,11,12,13,14],[0,1,2,3,4,5,6,7,8,9,10,11,12,13,14,15]] (fun i own ys wx=>match i with|0=>own= .int .i64 (4+(x:Int)-(y:Int))|1=>own= .int .i64 (k1:Nat)|2=>own= .pointer (some ⟨B+1,k1,none⟩)|3=>own= .int .i64 v1|4=>own= .int .i64 (k2:Nat)|5=>own= .pointer (some ⟨B+1,k2,none⟩)|6=>own= .int .i64 v2|7=>own= .int .i64 (2*v2)|8=>own= .int .i64 (v1+2*v2)|9=>own= .int .i64 (4+(x:Int)-(y:Int))|10=>own= .int .i64 (k3:Nat)|11=>own= .pointer (some ⟨B+1,k3,none⟩)|12=>own= .int .i64 v3|13=>own= .int .i64 (v1+2*v2+v3)|14=>own= .int .i64 (v1+2*v2+v3+2)|15=>own= .int .i64 ((v1+2*v2+v3+2)/4)|16=>own= .int .i64 ((v1+2*v2+v3+2)/4)|_=>True) (fun kx wx=>Ext w0 wx) (by kernel_rfl) (by kernel_rfl) (by kernel_rfl) ?g0_r2 ?gop_r2 ?gend_r2
 case g0_r2=>exact Ext.drewN _ 1
 case gop_r2 =>
  refine⟨?_,?o1,?o2,?o3,?o4,?o5,?o6,?o7,?o8,?_,?o10,?o11,?o12,?o13,?o14,?o15,?o16,trivial⟩ <;> (intro kx xs wx hk hG hD hI Qo Kx hK hQo;simp only[patchS,Nat.reduceAdd,Nat.reduceEqDiff,↓reduceIte]at hQo⊢)
  case o1 =>
   rw[ddq (hD 0 rfl)]at hQo⊢;clear hD hI;go_wp2;exact hK.out _ _ ⟨by rw[←K1.out],hG,fun _ _ _ _ _ _ h=>h⟩
  case o2 =>
   rw[ddq (hD 1 rfl)]at hQo⊢;clear hD hI;go_wp2;exact hK.out _ _ ⟨rfl,hG,kkp⟩
  case o3 =>
   rw[ddq (hD 2 rfl)]at hQo⊢;clear hD hI;have cx:=cell_ext hG D1.out;go_wp2;exact hK.out _ _ ⟨rfl,hG,kkp⟩
  case o4 =>
   clear hD hI;go_wp2;exact hK.out _ _ ⟨by rw[←K2.out],hG,fun _ _ _ _ _ _ h=>h⟩
  case o5 =>
   rw[ddq (hD 4 rfl)]at hQo⊢;clear hD hI;go_wp2;exact hK.out _ _ ⟨rfl,hG,kkp⟩
  case o6 =>
   rw[ddq (hD 5 rfl)]at hQo⊢;clear hD hI;have cx:=cell_ext hG D2.out;go_wp2;exact hK.out _ _ ⟨rfl,hG,kkp⟩
  case o7 =>
   rw[ddq (hD 6 rfl)]at hQo⊢;clear hD hI;go_wp2;exact hK.out _ _ ⟨rfl,hG,kkp⟩
  case o8 =>
   rw[ddq (hD 3 rfl),ddq (hD 7 rfl)]at hQo⊢;clear hD hI;go_wp2;exact hK.out _ _ ⟨rfl,hG,kkp⟩
  case o10 =>
   rw[ddq (hD 9 rfl)]at hQo⊢;clear hD hI;go_wp2;exact hK.out _ _ ⟨by rw[←K3.out],hG,fun _ _ _ _ _ _ h=>h⟩
  case o11 =>
   rw[ddq (hD 10 rfl)]at hQo⊢;clear hD hI;go_wp2;exact hK.out _ _ ⟨rfl,hG,kkp⟩
  case o12 =>
   rw[ddq (hD 11 rfl)]at hQo⊢;clear hD hI;have cx:=cell_ext hG D3.out;go_wp2;exact hK.out _ _ ⟨rfl,hG,kkp⟩
  case o13 =>
   rw[ddq (hD 8 rfl),ddq (hD 12 rfl)]at hQo⊢;clear hD hI;go_wp2;exact hK.out _ _ ⟨rfl,hG,kkp⟩
  case o14 =>
   rw[ddq (hD 13 rfl)]at hQo⊢;clear hD hI;go_wp2;exact hK.out _ _ ⟨rfl,hG,kkp⟩
  case o15 =>
   rw[ddq (hD 14 rfl)]at hQo⊢;clear hD hI;go_wp2;exact hK.out _ _ ⟨rfl,hG,kkp⟩
  case o16 =>
   rw[ddq (hD 15 rfl)]at hQo⊢;clear hD hI;go_wp2;exact hK.out _ _ ⟨rfl,hG,kkp⟩
  all_goals
   clear hD hI;go_wp2;exact hK.out _ _ ⟨rfl,hG,kkp⟩
 intro xs wx hV hG;have d16:_=_:=hV 16 (by decide);clear hV;simp only[patchS,Nat.reduceAdd,Nat.reduceEqDiff,↓reduceIte];generalize xs 0=y0,xs 1=y1,xs 2=y2,xs 3=y3,xs 4=y4,xs 5=y5,xs 6=y6,xs 7=y7,xs 8=y8,xs 9=y9,xs 10=y10,xs 11=y11,xs 12=y12,xs 13=y13,xs 14=y14,xs 15=y15,xs 16=y16 at *
 replace hG:Ext w0 wx:=hG
 subst d16;go_wp2;go_ret
 exact⟨(ret_intH HP).symm,E1.trans hG⟩
theorem l6Diagonal_any (e:Ed) (k:Nat) (w:World) (ok:e.ok) (hk:k≤8) :
 Calls Tryz.prog 164 #[.agg (edC e),.int .i64 (k:Nat)] w fun r w'=>r= .returned (.int .i64 (bord e k))∧Ext w w':=by
 have b0:=EB.new w e;have E0:=Ext.alloc w (.cells (edC e) 106)
 by_cases h4:k<4
 ·have HP:=Lib.hid (show bord e k=nth e.lf (3-k) by unfold bord;rw[if_pos h4]);have c0:=b0.lf ok.ln (k:=3-k) (by omega);have hd:decide ((k:Int)<4)=true:=by simp;omega
  clear ok;go_enter Tryz.func164,Tryz.ntmps164
  go_wp2;go_ret
  exact⟨(ret_intH HP).symm,E0⟩
 ·have hd:decide ((k:Int)<4)=false:=by simp;omega
  by_cases h5:k=4
  ·have HP:=Lib.hid (show bord e k=e.co by unfold bord;rw[if_neg h4,if_pos h5]);have c0:=b0.co ok.ln;have hd2:((k:Int) == 4)=true:=by simp;omega
   clear ok h5;go_enter Tryz.func164,Tryz.ntmps164
   go_wp2;go_ret
   exact⟨(ret_intH HP).symm,E0⟩
  ·have HP:=Lib.hid (show bord e k=nth e.ab (k-5) by unfold bord;rw[if_neg h4,if_neg h5]);have c0:=b0.ab ok.ln (k:=k-5) (by omega);have hd2:((k:Int) == 4)=false:=by simp;omega
   have hk5:5≤k:=by omega
   clear ok;go_enter Tryz.func164,Tryz.ntmps164
   go_wp2;go_ret
   exact⟨(ret_intH HP).symm,E0⟩
end Go.Proofs.YtbnhaegidfbgbaaGreatDoor
