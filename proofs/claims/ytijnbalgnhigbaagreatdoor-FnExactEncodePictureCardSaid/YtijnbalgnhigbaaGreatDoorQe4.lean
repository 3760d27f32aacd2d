/- Part 4 of the proof. -/
import Derived.Test.YtijnbalgnhigbaaGreatDoorQe3
import Derived.Deep.Cut
import Derived.Lib.BitFns
import Derived.Lib.Strings
import Derived.Lib.Slices
import Derived.Lib.Small
import Derived.Lib.Walk
import Derived.RangeFuncOwn
import Derived.Deep.CutRange
set_option linter.unusedVariables false
set_option linter.unusedSimpArgs false
set_option maxRecDepth 100000
set_option maxHeartbeats 4000000
namespace Go.Proofs.YtijnbalgnhigbaaGreatDoor
open Go.RowKit
structure RS (w : World) (base g n c : Nat) (ra : Option Addr) (rn rc W H : Nat) (ref : Pic) (m : Mac) (B : Nat) (Z : List Int) (wx : World) : Prop where
 gr:w.grownBy wx (some g)
 own:wx.ownsRow base 3 1 (.slice (some ⟨g,0,none⟩) n c) n (Z.map (Value.int .i64))
 b0:wx.heap[B+1]?=some (.cells #[.int .i64 W,.int .i64 H,.slice (some ⟨g,0,none⟩) n c] 30 (0,0))
 b1:wx.heap[B]?=some (.cells #[.int .i64 ref.w,.int .i64 ref.h,.slice ra rn rc] 30 (0,0))
 b2:IB wx (B+1+1) 50 m.zs
 gB:g<B
section
variable {w wx wy : World} {base g n c rn rc W H B : Nat} {ra : Option Addr} {ref : Pic} {m : Mac} {Z Z' : List Int}
theorem RS.ex (h:RS w base g n c ra rn rc W H ref m B Z wx)(e:Ext wx wy):RS w base g n c ra rn rc W H ref m B Z wy :=
 ⟨BH h.gr e,Ae h.own e,e.blk h.b0,e.blk h.b1,h.b2.ext e,h.gB⟩
theorem RS.drew (h:RS w base g n c ra rn rc W H ref m B Z wx):RS w base g n c ra rn rc W H ref m B Z wx.drew:=h.ex (Ext.drewN _ 1)
theorem RS.put (h:RS w base g n c ra rn rc W H ref m B Z wx)(gr:wx.grownBy wy (some g))(own:wy.ownsRow base 3 1 (.slice (some ⟨g,0,none⟩) n c) n (Z'.map (Value.int .i64))):RS w base g n c ra rn rc W H ref m B Z' wy:=by
 have:=h.gB;exact⟨grownBy_trans h.gr gr,own,Ar h.b0 gr (by simp;omega),Ar h.b1 gr (by simp;omega),h.b2.gr gr (by simp;omega),h.gB⟩
theorem RS.loc {b':Nat}(h:RS w base g n c ra rn rc W H ref m B Z wx)(gr:wx.grownBy wy (some b'))(hb:B+1+1<b')(hw:w.heap.size≤B):RS w base g n c ra rn rc W H ref m B Z wy:=by
 have:=h.gB;refine⟨⟨gr.os.trans h.gr.os,gr.tape.trans h.gr.tape,gr.output.trans h.gr.output,Nat.le_trans h.gr.size gr.size,fun k hk hne=>(gr.block k (Nat.lt_of_lt_of_le hk h.gr.size) (by simp;omega)).trans (h.gr.block k hk hne)⟩,h.own.kept gr (.inr (by simp[Value.ownBlock];omega)),Ar h.b0 gr (by simp;omega),Ar h.b1 gr (by simp;omega),h.b2.gr gr (by simp;omega),h.gB⟩
end
theorem OB (ref:Pic)(W H x y:Nat)(px:List Int)(m:Mac)(q:Nat)(top:Int)(ra:Option Addr)(rn rc base g n c:Nat)(w:World)(own:w.ownsRow base 3 1 (.slice (some ⟨g,0,none⟩) n c) n (px.map (Value.int .i64)))
 (hp:BJ ⟨W,H,px⟩ x y) (hm:m.ok) (hv:m.valid) (hq:q<16) (ht0:0≤top) (hk:m.kind=2) :
 Calls Tryz.prog 35 #[.agg #[.int .i64 ref.w,.int .i64 ref.h,.slice ra rn rc],.agg #[.int .i64 W,.int .i64 H,.slice (some ⟨g,0,none⟩) n c],.int .i64 (x:Nat),.int .i64 (y:Nat),.agg (ic m.zs),.int .i64 q,.int .i64 top] w fun e w'=>e= .returned (.tuple #[])∧w'.ownsRow base 3 1 (.slice (some ⟨g,0,none⟩) n c) n ((bldS ref ⟨W,H,px⟩ x y m q top 4).map (Value.int .i64))∧w.grownBy w' (some g):=by
 obtain⟨hpv,hx0,hx1,hx8,hy0,hy1,hy8⟩:=hp;have hxx:x+8≤W:=by have h1:=hpv.1.2.2;simp only at hx1 h1;omega
 have hyy:y+8≤H:=by have h1:=hpv.2.1.2.2;simp only at hy1 h1;omega
 have hW32:W≤32:=by have:=hpv.1.2.1;simp only at this;omega
 have hH32:H≤32:=by have:=hpv.2.1.2.1;simp only at this;omega
 have hpl:n=px.length:=by have:=own.1;simpa using this.symm
 have hnW:n=W*H:=by
  have h1:=hpv.2.2.1;simp only[←Int.natCast_mul]at h1;rw[hpl];exact Int.ofNat.inj h1
 have hn1k:n≤1024:=by rw[hnW];exact Nat.mul_le_mul hW32 hH32
 have inn:∀ u v:Nat,u+4≤H→v+4≤W→(u+3)*W+v+3<n:=fun u v h1 h2=>by
  have h3:=Nat.mul_le_mul_right W (show u+4≤H by omega);rw[Nat.add_mul,Nat.mul_comm H W,←hnW]at h3;rw[Nat.add_mul];omega
 have Inn:=Aa inn;have HV:=Aa (fun k=>BM hpv ref x y m q top k);have HL:=Aa (fun k=>show n=(bldS ref ⟨W,H,px⟩ x y m q top k).length by rw[CR,hpl]);have Hmv:=Aa hv;have Hm:=Aa hm;have Hl:=Aa (Mac.zs_len hm);have HK:=Aa hk;have hbg:base≤g:=(own.lt g rfl).1;have hgw:g<w.heap.size:=(own.lt g rfl).2;have R0:RS w base g n c ra rn rc W H ref m w.heap.size px (((((w.alloc (.cells #[.int .i64 ref.w,.int .i64 ref.h,.slice ra rn rc] 30)).alloc (.cells #[.int .i64 W,.int .i64 H,.slice (some ⟨g,0,none⟩) n c] 30)).alloc (.cells (ic m.zs) 50))).alloc (.cells #[] 3)):=by
  have a1:=Ext.alloc w (.cells #[.int .i64 ref.w,.int .i64 ref.h,.slice ra rn rc] 30);have a2:=Ext.alloc (w.alloc (.cells #[.int .i64 ref.w,.int .i64 ref.h,.slice ra rn rc] 30)) (.cells #[.int .i64 W,.int .i64 H,.slice (some ⟨g,0,none⟩) n c] 30);have a3:=Ext.alloc ((w.alloc (.cells #[.int .i64 ref.w,.int .i64 ref.h,.slice ra rn rc] 30)).alloc (.cells #[.int .i64 W,.int .i64 H,.slice (some ⟨g,0,none⟩) n c] 30)) (.cells (ic m.zs) 50);have a4:=Ext.alloc (((w.alloc (.cells #[.int .i64 ref.w,.int .i64 ref.h,.slice ra rn rc] 30)).alloc (.cells #[.int .i64 W,.int .i64 H,.slice (some ⟨g,0,none⟩) n c] 30)).alloc (.cells (ic m.zs) 50)) (.cells #[] 3);have q1:=a4.blk (a3.blk (Aj (w.alloc (.cells #[.int .i64 ref.w,.int .i64 ref.h,.slice ra rn rc] 30)) (.cells #[.int .i64 W,.int .i64 H,.slice (some ⟨g,0,none⟩) n c] 30)));have q2:=(IB.new ((w.alloc (.cells #[.int .i64 ref.w,.int .i64 ref.h,.slice ra rn rc] 30)).alloc (.cells #[.int .i64 W,.int .i64 H,.slice (some ⟨g,0,none⟩) n c] 30)) 50 m.zs).ext a4;simp only[World.size_alloc]at q1 q2;exact⟨BH (BV _ _) (((a1.trans a2).trans a3).trans a4),Ae own (((a1.trans a2).trans a3).trans a4),q1,a4.blk (a3.blk (a2.blk (Aj _ _))),q2,hgw⟩
 have hkd:(m.kind == 2)=true:=by simpa using hk
 have hkn:(m.kind != 2)=false:=by simpa using hk
 have k0':=R0.b2.cell (i:=0) (by rw[Hl.out];omega);rw[Mac.zs_kind]at k0';have r2:=R0.b2;clear hpv hpl hnW inn hv hm hk own hx8 hy8 hx0 hy0 hx1 hy1;go_enter Tryz.func35,Tryz.ntmps35
 go_wp2_with fail
 try simp only[World.size_alloc]
 obtain⟨B,hB⟩:∃ B,B=w.heap.size:=⟨_,rfl⟩;rw[←hB]at R0 r2 k0'⊢;have hwB:w.heap.size≤B:=by omega
 have HB:=Aa hB;clear hB r2 k0' hkn;have R1:=R0;clear R0;go_loopw [15] (fun i wr=>∃ k:Nat,k≤4∧i= .int .i64 k∧RS w base g n c ra rn rc W H ref m B (bldS ref ⟨W,H,px⟩ x y m q top k) wr) (fun i _=>4-(intOf i).toNat)
 case atStart=>exact⟨0,by omega,rfl,R1⟩
 case round =>
  obtain⟨k,hk,rfl,R3⟩:=hrel;clear R1
  by_cases hlt:k<4
  ·have hd:decide ((k:Int)<4)=true:=by simp;omega
   have hZv:=HV.out k;have hZn:=HL.out k;have Hst:=Aa (Fs ref W H px x y m q top k);obtain⟨Z,hZ⟩:∃ Z,Z=bldS ref ⟨W,H,px⟩ x y m q top k:=⟨_,rfl⟩;obtain⟨Z1,hZ1⟩:∃ Z,Z=bldS ref ⟨W,H,px⟩ x y m q top (k+1):=⟨_,rfl⟩;rw[←hZ]at R3 hZv hZn Hst;rw[←hZ1]at Hst;have HZ1:=Aa hZ1;have HZv:=Aa hZv;have HZn:=Aa hZn;obtain⟨xi,hxi⟩:∃ v,v=x+k%2*4:=⟨_,rfl⟩;obtain⟨yj,hyj⟩:∃ v,v=y+k/2*4:=⟨_,rfl⟩;have HPK:=Aa (show prK ref W H Z x y m top k=prd (nth m.modes k).toNat (edg ⟨W,H,Z⟩ ((x+k%2*4:Nat):Int) ((y+k/2*4:Nat):Int) top)from if_pos HK.out);rw[←hxi,←hyj]at Hst HPK;have hxi4:xi+4≤W:=by omega
   have hyj4:yj+4≤H:=by omega
   have Hxi:=Aa (show(x:Int)+(k:Int)%2*4=((xi:Nat):Int) by omega);have Hyj:=Aa (show(y:Int)+(k:Int)/2*4=((yj:Nat):Int) by omega);have hI:=Inn.out yj xi hyj4 hxi4;have hB16:=Mp Hm.out.lv hlt;have hBv:=JG Hm.out Hmv.out hlt;obtain⟨bk,hbk⟩:∃ b,b=sub m.lv (k*16) 16:=⟨_,rfl⟩;have Hbk:=Aa hbk;rw[←hbk]at hB16 hBv Hst;have HB16:=Aa hB16;have HBv:=Aa hBv;clear hZ hZ1 hxi hyj hbk hB16 hBv hZv hZn;have hcK:=R3.b2.cell (i:=0) (by rw[Hl.out];omega);rw[Mac.zs_kind]at hcK;have ib:=IB.new wr 47 (List.replicate 16 0);have R6:=R3.ex (Ext.alloc wr (.cells (ic (List.replicate 16 0)) 47));have hO2:=lt_of_block R3.b2;have hO3:=lt_of_block R3.b2;obtain⟨O2,hO2e⟩:∃ O,O=wr.heap.size:=⟨_,rfl⟩;rw[←hO2e]at ib hO2;have HO2:=Aa hO2e;have hb0:=R6.b0;have hgB:=R6.gB;obtain⟨E,hE⟩:∃ E,E=edg ⟨W,H,Z⟩ (xi:Int) (yj:Int) top:=⟨_,rfl⟩;have hEok:=Jw HZv.out (xi:Int) (yj:Int) top;rw[←hE]at hEok HPK;have HE:=Aa hE;have HEok:=Aa hEok;have hmr:=Hmv.out.2.2.2.2.1 HK.out k hlt;obtain⟨md,hmd⟩:∃ v:Nat,nth m.modes k=(v:Int):=⟨(nth m.modes k).toNat,by omega⟩;rw[hmd]at hmr;rw[hmd,Int.toNat_natCast]at HPK;have Hmd:=Aa hmd;obtain⟨PR,hPR⟩:∃ P,P=prd md E:=⟨_,rfl⟩;rw[←hPR]at HPK;rw[HPK.out]at Hst;have HPR:=Aa hPR;clear hE hEok hmd hPR;have hPl:PR.length=16:=by rw[HPR.out,A9]
   have HPl:=Aa hPl;have hPb:bdA 1099511627776 PR:=by rw[HPR.out];exact Cf (Dm _ HEok.out)
   have HPb:=Aa hPb;clear hPl hPb;go_wp2_with fail
   rw[←hO2e];clear hO2e hcK hO3;have G7:RS w base g n c ra rn rc W H ref m B Z (wr.alloc (.cells (ic (List.replicate 16 0)) 47))∧IB (wr.alloc (.cells (ic (List.replicate 16 0)) 47)) O2 47 (List.replicate 16 0):=⟨R6,ib⟩;clear R3 R6 ib hb0;refine Am (by kernel_rfl) [(47,0),(48,1),(49,2),(50,3),(51,4),(52,5),(53,6),(54,7),(55,8),(56,9)] [[],[],[0,1],[0,1,2],[],[],[],[],[4,5,6,7],[0,1,2,3,4,5,6,7,8],[0,1,2,3,4,5,6,7,8,9]] (fun i own ys wx=>match i with|0=>own= .int .i64 (k:Nat)|1=>own= .pointer (some ⟨B+1+1,3,none⟩)|2=>own= .pointer (some ⟨B+1+1,3+k,none⟩)|3=>own= .int .i64 (md:Nat)|4=>own= .agg #[.int .i64 W,.int .i64 H,.slice (some ⟨g,0,none⟩) n c]|5=>own= .int .i64 (xi:Nat)|6=>own= .int .i64 (yj:Nat)|7=>own= .int .i64 top|8=>own= .agg (edC E)|9=>own= .agg (ic PR)|10=>True|_=>True) (fun Lx wx=>RS w base g n c ra rn rc W H ref m B Z wx∧IB wx O2 47 (if Lx 10=true then PR else(List.replicate 16 0))) (by kernel_rfl) (by kernel_rfl) (by kernel_rfl) ?g0_r1 ?gop_r1 ?gend_r1
   case g0_r1=>exact⟨G7.1.drew,G7.2.drewN 1⟩
   case gop_r1 =>
    refine⟨?_,?_,?o2,?o3,?o4,?o5,?o6,?_,?o8,?o9,?o10,trivial⟩ <;> (intro Lx xs wx hG hl ha hb hD hI Qo Kx hK hQo;simp only[Ad,Nat.reduceAdd,Nat.reduceEqDiff,↓reduceIte]at hQo⊢)
    case o2 =>
     clear hl ha hb;rw[ddq (hD 0 rfl),ddq (hD 1 rfl)]at hQo⊢;clear hD hI;go_wp2;exact hK.out _ _ ⟨rfl,hG,kkp⟩
    case o3 =>
     clear hl ha hb;rw[ddq (hD 2 rfl)]at hQo⊢;clear hD hI;have cx:=hG.1.b2.cell (i:=3+k) (by rw[Hl.out];omega);rw[Mac.nth_mode Hm.out k hlt,Hmd.out]at cx;go_wp2;exact hK.out _ _ ⟨rfl,hG,kkp⟩
    case o4 =>
     clear hl ha hb hD hI;obtain⟨-,k0,k1,k2,-⟩:=bx3 hG.1.b0;go_wp2;exact hK.out _ _ ⟨rfl,hG,kkp⟩
    case o5 =>
     clear hl ha hb hD hI;go_wp2;exact hK.out _ _ ⟨by rw[←Hxi.out],hG,fun _ _ _ _ _ _ h=>h⟩
    case o6 =>
     clear hl ha hb hD hI;go_wp2;exact hK.out _ _ ⟨by rw[←Hyj.out],hG,fun _ _ _ _ _ _ h=>h⟩
    case o8 =>
     clear hl ha hb;rw[ddq (hD 4 rfl),ddq (hD 5 rfl),ddq (hD 6 rfl),ddq (hD 7 rfl)]at hQo⊢;clear hD hI;go_wp2_with fail
     refine(IJ ⟨W,H,Z⟩ xi yj W H top (some ⟨g,0,none⟩) c n _ HZv.out HZn.out (Sl.of_owns hG.1.own) rfl rfl (by omega) (by omega) ht0).mono ?_
     rintro e w9 ⟨rfl,e9⟩
     rw[←HE.out];go_wp2;exact hK.out _ _ ⟨rfl,⟨hG.1.ex e9,hG.2.ext e9⟩,fun _ _ _ _ _ _ h=>h⟩
    case o9 =>
     clear hl ha hb;rw[ddq (hD 3 rfl),ddq (hD 8 rfl)]at hQo⊢;clear hD hI;go_wp2_with fail
     refine(D9 E md _ HEok.out (by omega)).mono ?_
     rintro e w9 ⟨rfl,e9⟩
     rw[←HPR.out];go_wp2;exact hK.out _ _ ⟨rfl,⟨hG.1.ex e9,hG.2.ext e9⟩,fun _ _ _ _ _ _ h=>h⟩
    case o10 =>
     have l10:Lx 10=false:=hl;clear hl ha hb;rw[ddq (hD 9 rfl)]at hQo⊢;clear hD hI;rw[l10,ifF]at hG;refine Af 47 _ _ rfl rfl hG.2 0 16 rfl _ rfl PR rfl Ag HPl.out (by simp) ?_;intro w9 i9 g9;rw[Ap (by rw[HPl.out];simp)]at i9;exact hQo undef _ (hK.out _ _ ⟨trivial,⟨hG.1.loc g9 (by omega) hwB,i9⟩,fun _ _ _ _ _ _ h=>h⟩)
    all_goals
     clear hl ha hb hD hI;go_wp2;exact hK.out _ _ ⟨rfl,hG,kkp⟩
   intro xs wx hV hG0;obtain⟨Lx,hL,hG⟩:=hG0;have l10:Lx 10=true:=hL 10 (by decide);clear hL hV;simp only[Ad,Nat.reduceAdd,Nat.reduceEqDiff,↓reduceIte];generalize xs 0=y0,xs 1=y1,xs 2=y2,xs 3=y3,xs 4=y4,xs 5=y5,xs 6=y6,xs 7=y7,xs 8=y8,xs 9=y9,xs 10=y10 at *
   replace hG:RS w base g n c ra rn rc W H ref m B Z wx∧IB wx O2 47 (if Lx 10=true then PR else(List.replicate 16 0)):=hG
   rw[l10,ifT]at hG;clear G7;obtain⟨RM,pM⟩:=hG;go_wp2_with fail
   obtain⟨D,hD⟩:∃ D,D=dec bk q:=⟨_,rfl⟩;rw[←hD]at Hst;have HD:=Aa hD;have HDl:=Aa (show D.length=16 by rw[hD,Dg]);have HDb:=Aa (show bdA 1099511627776 D by rw[hD];exact GM _ _);clear hD;refine Am (by kernel_rfl) [(60,0),(61,1),(62,2),(63,3),(64,4),(65,5),(66,6),(67,7),(68,8),(69,9),(70,10)] [[],[],[],[],[],[],[4,5],[4,5,6],[],[4,5,6,7,8],[0,1,2,3,4,5,6,7,8,9]] (fun i own ys wx=>match i with|0=>own= .agg #[.int .i64 W,.int .i64 H,.slice (some ⟨g,0,none⟩) n c]|1=>own= .int .i64 (xi:Nat)|2=>own= .int .i64 (yj:Nat)|3=>own= .agg (ic PR)|4=>own= .int .i64 (k:Nat)|5=>own= .pointer (some ⟨B+1+1,7,none⟩)|6=>own= .pointer (some ⟨B+1+1,7+k*16,none⟩)|7=>own= .agg (ic bk)|8=>own= .int .i64 (q:Nat)|9=>own= .agg (ic D)|10=>True|_=>True) (fun Lx wx=>RS w base g n c ra rn rc W H ref m B (if Lx 10=true then Z1 else Z) wx∧IB wx O2 47 PR) (by kernel_rfl) (by kernel_rfl) (by kernel_rfl) ?g0_r2 ?gop_r2 ?gend_r2
   case g0_r2=>exact⟨RM.drew,pM.drewN 1⟩
   case gop_r2 =>
    refine⟨?o0,?o1,?o2,?o3,?_,?_,?o6,?o7,?_,?o9,?o10,trivial⟩ <;> (intro Lx xs wx hG hl ha hb hD hI Qo Kx hK hQo;simp only[Ad,Nat.reduceAdd,Nat.reduceEqDiff,↓reduceIte]at hQo⊢)
    case o0 =>
     clear hl ha hb hD hI;obtain⟨-,k0,k1,k2,-⟩:=bx3 hG.1.b0;go_wp2;exact hK.out _ _ ⟨rfl,hG,kkp⟩
    case o1 =>
     clear hl ha hb hD hI;go_wp2;exact hK.out _ _ ⟨by rw[←Hxi.out],hG,fun _ _ _ _ _ _ h=>h⟩
    case o2 =>
     clear hl ha hb hD hI;go_wp2;exact hK.out _ _ ⟨by rw[←Hyj.out],hG,fun _ _ _ _ _ _ h=>h⟩
    case o3 =>
     clear hl ha hb hD hI;go_wp2_with (refine Ab 47 _ rfl rfl hG.2 0 16 rfl _ Rm rfl Ag (by rw[HPl.out];omega) _ (by rw[Ak _ _ HPl.out]) ?_)
     exact hK.out _ _ ⟨rfl,hG,kkp⟩
    case o6 =>
     clear hl ha hb;rw[ddq (hD 4 rfl),ddq (hD 5 rfl)]at hQo⊢;clear hD hI;go_wp2;exact hK.out _ _ ⟨rfl,hG,kkp⟩
    case o7 =>
     clear hl ha hb;rw[ddq (hD 6 rfl)]at hQo⊢;clear hD hI;go_wp2_with (refine Ab 47 _ rfl rfl hG.1.b2 (7+k*16) 16 rfl _ Rm rfl Ag (by rw[Hl.out];omega) _ (by rw[Mac.zs_blk Hm.out k hlt,←Hbk.out]) ?_)
     exact hK.out _ _ ⟨rfl,hG,kkp⟩
    case o9 =>
     clear hl ha hb;rw[ddq (hD 7 rfl),ddq (hD 8 rfl)]at hQo⊢;clear hD hI;go_wp2_with fail
     refine(EU bk q _ HB16.out HBv.out hq).mono ?_
     rintro e w9 ⟨rfl,e9⟩
     rw[←HD.out];go_wp2;exact hK.out _ _ ⟨rfl,⟨hG.1.ex e9,hG.2.ext e9⟩,fun _ _ _ _ _ _ h=>h⟩
    case o10 =>
     have l10:Lx 10=false:=hl;clear hl ha hb;rw[ddq (hD 0 rfl),ddq (hD 1 rfl),ddq (hD 2 rfl),ddq (hD 3 rfl),ddq (hD 9 rfl)]at hQo⊢;clear hD hI;rw[l10,ifF]at hG;go_wp2_with fail
     refine(Iy W H xi yj base g n c Z PR D _ HPl.out HDl.out HPb.out HDb.out hW32 (by omega) (by omega) hI (by omega) hG.1.own).mono ?_
     rintro e w9 ⟨rfl,o9,g9⟩
     go_wp2;rw[←Hst.out]at o9;exact hK.out _ _ ⟨trivial,⟨hG.1.put g9 o9,hG.2.gr g9 (lv2 (by omega))⟩,fun _ _ _ _ _ _ h=>h⟩
    all_goals
     clear hl ha hb hD hI;go_wp2;exact hK.out _ _ ⟨rfl,hG,kkp⟩
   intro xs wx hV hG0;obtain⟨Lx,hL,hG⟩:=hG0;have l10:Lx 10=true:=hL 10 (by decide);clear hL hV;simp only[Ad,Nat.reduceAdd,Nat.reduceEqDiff,↓reduceIte];generalize xs 0=y0,xs 1=y1,xs 2=y2,xs 3=y3,xs 4=y4,xs 5=y5,xs 6=y6,xs 7=y7,xs 8=y8,xs 9=y9,xs 10=y10 at *
   replace hG:RS w base g n c ra rn rc W H ref m B (if Lx 10=true then Z1 else Z) wx∧IB wx O2 47 PR:=hG
   rw[l10,ifT]at hG;clear RM pM;have HG:=Aa hG;clear hG;go_wp2;go_roundw
   case rel=>exact⟨k+1,by omega,by go_num,by rw[←HZ1.out];exact HG.out.1⟩
   case measure=>simp[intOf];omega
  ·obtain rfl:k=4:=by omega
   have HR:=Aa R3;clear R3;go_wp2;go_end0
   exact⟨rfl,HR.out.own,HR.out.gr⟩
theorem OC (ref:Pic)(W H x y:Nat)(px:List Int)(m:Mac)(q:Nat)(top:Int)(ra:Option Addr)(rn rc base g n c:Nat)(w:World)(own:w.ownsRow base 3 1 (.slice (some ⟨g,0,none⟩) n c) n (px.map (Value.int .i64)))
 (hp:BJ ⟨W,H,px⟩ x y) (hm:m.ok) (hv:m.valid) (hq:q<16) (ht0:0≤top) (hk : ¬ m.kind=2) (hrv:ref.valid) (hrn:rn=ref.px.length) (hr:Sl w ra rn (ref.px.map (Value.int .i64))) (hrg:∀ z,ra=some z→z.block≠g) :
 Calls Tryz.prog 35 #[.agg #[.int .i64 ref.w,.int .i64 ref.h,.slice ra rn rc],.agg #[.int .i64 W,.int .i64 H,.slice (some ⟨g,0,none⟩) n c],.int .i64 (x:Nat),.int .i64 (y:Nat),.agg (ic m.zs),.int .i64 q,.int .i64 top] w fun e w'=>e= .returned (.tuple #[])∧w'.ownsRow base 3 1 (.slice (some ⟨g,0,none⟩) n c) n ((bldS ref ⟨W,H,px⟩ x y m q top 4).map (Value.int .i64))∧w.grownBy w' (some g):=by
 obtain⟨hpv,hx0,hx1,hx8,hy0,hy1,hy8⟩:=hp;have hxx:x+8≤W:=by have h1:=hpv.1.2.2;simp only at hx1 h1;omega
 have hyy:y+8≤H:=by have h1:=hpv.2.1.2.2;simp only at hy1 h1;omega
 have hW32:W≤32:=by have:=hpv.1.2.1;simp only at this;omega
 have hH32:H≤32:=by have:=hpv.2.1.2.1;simp only at this;omega
 have hpl:n=px.length:=by have:=own.1;simpa using this.symm
 have hnW:n=W*H:=by
  have h1:=hpv.2.2.1;simp only[←Int.natCast_mul]at h1;rw[hpl];exact Int.ofNat.inj h1
 have hn1k:n≤1024:=by rw[hnW];exact Nat.mul_le_mul hW32 hH32
 have inn:∀ u v:Nat,u+4≤H→v+4≤W→(u+3)*W+v+3<n:=fun u v h1 h2=>by
  have h3:=Nat.mul_le_mul_right W (show u+4≤H by omega);rw[Nat.add_mul,Nat.mul_comm H W,←hnW]at h3;rw[Nat.add_mul];omega
 have Inn:=Aa inn;have HV:=Aa (fun k=>BM hpv ref x y m q top k);have HL:=Aa (fun k=>show n=(bldS ref ⟨W,H,px⟩ x y m q top k).length by rw[CR,hpl]);have Hmv:=Aa hv;have Hm:=Aa hm;have Hl:=Aa (Mac.zs_len hm);have HK:=Aa hk;have hbg:base≤g:=(own.lt g rfl).1;have hgw:g<w.heap.size:=(own.lt g rfl).2;have R0:RS w base g n c ra rn rc W H ref m w.heap.size px (((((w.alloc (.cells #[.int .i64 ref.w,.int .i64 ref.h,.slice ra rn rc] 30)).alloc (.cells #[.int .i64 W,.int .i64 H,.slice (some ⟨g,0,none⟩) n c] 30)).alloc (.cells (ic m.zs) 50))).alloc (.cells #[] 3)):=by
  have a1:=Ext.alloc w (.cells #[.int .i64 ref.w,.int .i64 ref.h,.slice ra rn rc] 30);have a2:=Ext.alloc (w.alloc (.cells #[.int .i64 ref.w,.int .i64 ref.h,.slice ra rn rc] 30)) (.cells #[.int .i64 W,.int .i64 H,.slice (some ⟨g,0,none⟩) n c] 30);have a3:=Ext.alloc ((w.alloc (.cells #[.int .i64 ref.w,.int .i64 ref.h,.slice ra rn rc] 30)).alloc (.cells #[.int .i64 W,.int .i64 H,.slice (some ⟨g,0,none⟩) n c] 30)) (.cells (ic m.zs) 50);have a4:=Ext.alloc (((w.alloc (.cells #[.int .i64 ref.w,.int .i64 ref.h,.slice ra rn rc] 30)).alloc (.cells #[.int .i64 W,.int .i64 H,.slice (some ⟨g,0,none⟩) n c] 30)).alloc (.cells (ic m.zs) 50)) (.cells #[] 3);have q1:=a4.blk (a3.blk (Aj (w.alloc (.cells #[.int .i64 ref.w,.int .i64 ref.h,.slice ra rn rc] 30)) (.cells #[.int .i64 W,.int .i64 H,.slice (some ⟨g,0,none⟩) n c] 30)));have q2:=(IB.new ((w.alloc (.cells #[.int .i64 ref.w,.int .i64 ref.h,.slice ra rn rc] 30)).alloc (.cells #[.int .i64 W,.int .i64 H,.slice (some ⟨g,0,none⟩) n c] 30)) 50 m.zs).ext a4;simp only[World.size_alloc]at q1 q2;exact⟨BH (BV _ _) (((a1.trans a2).trans a3).trans a4),Ae own (((a1.trans a2).trans a3).trans a4),q1,a4.blk (a3.blk (a2.blk (Aj _ _))),q2,hgw⟩
 have hkd:(m.kind == 2)=false:=by simpa using hk
 have hkn:(m.kind != 2)=true:=by simpa using hk
 have k0':=R0.b2.cell (i:=0) (by rw[Hl.out];omega);rw[Mac.zs_kind]at k0';have r2:=R0.b2;clear hpv hpl hnW inn hv hm hk own hx8 hy8;have Hrv:=Aa hrv;have Hrn:=Aa hrn;have Hrg:=Aa hrg;clear hrv hrn hrg hx0 hy0 hx1 hy1;go_enter Tryz.func35,Tryz.ntmps35
 obtain⟨-,k0,k1,k2,-⟩:=bx3 R0.b1;go_wp2_with (refine Ab 45 _ rfl rfl r2 1 2 rfl _ Rr rfl Av (by rw[Hl.out];omega) _ Mac.zs_mv ?_)
 try simp only[World.size_alloc]
 obtain⟨B,hB⟩:∃ B,B=w.heap.size:=⟨_,rfl⟩;rw[←hB]at R0 r2 k0'⊢;have hwB:w.heap.size≤B:=by omega
 have HB:=Aa hB;clear hB;have hrs:=hr.grown R0.gr (fun z hz=>by have:=Hrg.out z hz;simp;omega);have hvv:=Hmv.out.2.1;refine(BE ref x y m.x m.y ra rc rn _ Hrv.out Hrn.out hrs (by omega) (by omega) (by omega) (by omega) hvv.1 hvv.2.1 hvv.2.2.1 hvv.2.2.2).mono ?_
 rintro e w2 ⟨a2,c2,rfl,o2,e2⟩
 have R2:=R0.ex e2;have hs1:=R0.gr.size;have ha2:∃ g2,a2=some ⟨g2,0,none⟩∧g2≠g:=by
  rcases o2.2 with⟨-,h0⟩|⟨g2,cc,cur,hv2,hb2,-⟩
  ·omega
  ·simp only[Value.slice.injEq]at hv2;exact⟨g2,hv2.1,by omega⟩
 obtain⟨g2,rfl,hg2⟩:=ha2;have s2:=Sl.of_owns o2;have Hb:=Aa (AQ ref x y m.x m.y);clear k0 k1 k2 r2 R0 e2 o2 hrs hr hvv k0' hkn;go_wp2_with fail
 go_loopw [15] (fun i wr=>∃ k:Nat,k≤4∧i= .int .i64 k∧RS w base g n c ra rn rc W H ref m B (bldS ref ⟨W,H,px⟩ x y m q top k) wr∧Hid (Sl wr (some ⟨g2,0,none⟩) 64 ((blkL ref x y m.x m.y).map (Value.int .i64)))) (fun i _=>4-(intOf i).toNat)
 case atStart=>exact⟨0,by omega,rfl,R2,Aa s2⟩
 case round =>
  obtain⟨k,hk,rfl,R3,S3⟩:=hrel;clear R2 s2
  by_cases hlt:k<4
  ·have hd:decide ((k:Int)<4)=true:=by simp;omega
   have hZv:=HV.out k;have hZn:=HL.out k;have Hst:=Aa (Fs ref W H px x y m q top k);obtain⟨Z,hZ⟩:∃ Z,Z=bldS ref ⟨W,H,px⟩ x y m q top k:=⟨_,rfl⟩;obtain⟨Z1,hZ1⟩:∃ Z,Z=bldS ref ⟨W,H,px⟩ x y m q top (k+1):=⟨_,rfl⟩;rw[←hZ]at R3 hZv hZn Hst;rw[←hZ1]at Hst;have HZ1:=Aa hZ1;have HZv:=Aa hZv;have HZn:=Aa hZn;obtain⟨xi,hxi⟩:∃ v,v=x+k%2*4:=⟨_,rfl⟩;obtain⟨yj,hyj⟩:∃ v,v=y+k/2*4:=⟨_,rfl⟩;have HPK:=Aa (show prK ref W H Z x y m top k=pof (blkL ref x y m.x m.y) (k%2*4) (k/2*4)from if_neg HK.out);rw[←hxi,←hyj]at Hst;have hxi4:xi+4≤W:=by omega
   have hyj4:yj+4≤H:=by omega
   have Hxi:=Aa (show(x:Int)+(k:Int)%2*4=((xi:Nat):Int) by omega);have Hyj:=Aa (show(y:Int)+(k:Int)/2*4=((yj:Nat):Int) by omega);have hI:=Inn.out yj xi hyj4 hxi4;have hB16:=Mp Hm.out.lv hlt;have hBv:=JG Hm.out Hmv.out hlt;obtain⟨bk,hbk⟩:∃ b,b=sub m.lv (k*16) 16:=⟨_,rfl⟩;have Hbk:=Aa hbk;rw[←hbk]at hB16 hBv Hst;have HB16:=Aa hB16;have HBv:=Aa hBv;clear hZ hZ1 hxi hyj hbk hB16 hBv hZv hZn;have hcK:=R3.b2.cell (i:=0) (by rw[Hl.out];omega);rw[Mac.zs_kind]at hcK;have ib:=IB.new wr 47 (List.replicate 16 0);have R6:=R3.ex (Ext.alloc wr (.cells (ic (List.replicate 16 0)) 47));have hO2:=lt_of_block R3.b2;have hO3:=lt_of_block R3.b2;have S6:=S3.out.ext (Ext.alloc wr (.cells (ic (List.replicate 16 0)) 47));obtain⟨O2,hO2e⟩:∃ O,O=wr.heap.size:=⟨_,rfl⟩;rw[←hO2e]at ib hO2;have HO2:=Aa hO2e;have hb0:=R6.b0;have hgB:=R6.gB;obtain⟨E,hE⟩:∃ E,E=edg ⟨W,H,Z⟩ (xi:Int) (yj:Int) top:=⟨_,rfl⟩;clear hE;obtain⟨PR,hPR⟩:∃ P,P=pof (blkL ref x y m.x m.y) (k%2*4) (k/2*4):=⟨_,rfl⟩;rw[←hPR]at HPK;rw[HPK.out]at Hst;have HPR:=Aa hPR;clear hPR;have hPl:PR.length=16:=by rw[HPR.out,BX]
   have HPl:=Aa hPl;have hPb:bdA 1099511627776 PR:=by rw[HPR.out];exact Cf (Gm (Bz Hrv.out _ _ _ _) (AQ _ _ _ _ _) (by omega) (by omega))
   have HPb:=Aa hPb;clear hPl hPb;go_wp2_with fail
   rw[←hO2e];clear hO2e hcK hO3;refine(DJ (blkL ref x y m.x m.y) k hlt (some ⟨g2,0,none⟩) c2 _ S6).mono ?_
   rintro e w7 ⟨rfl,e7⟩
   rw[←HPR.out];have R7:=R6.ex e7;have ib7:=ib.ext e7;have S7:=S6.ext e7;have hg2l:g2<wr.heap.size:=by
    obtain⟨b8,o8,h8,c8⟩:=S3.out.int (show 0<64 by omega);simp only[Option.some.injEq,Addr.mk.injEq,and_true]at h8;rw[h8.1];exact World.block_lt_of_cell? _ _ c8
   rw[←HO2.out]at hg2l;clear R3 R6 ib S3 S6 e7;go_wp2_with (refine Af 47 _ _ rfl rfl ib7 0 16 rfl _ rfl PR rfl Ag HPl.out (by simp) ?_;intro w8 pM g8;refine Hid.out ?_)
   rw[Ap (by rw[HPl.out];simp)]at pM;have RM:=R7.loc g8 (by omega) hwB;have SM:=S7.grown g8 (fun z hz=>by cases hz;simp;omega);clear R7 ib7 S7 g8;refine Aa ?_;go_wp2_with fail
   obtain⟨D,hD⟩:∃ D,D=dec bk q:=⟨_,rfl⟩;rw[←hD]at Hst;have HD:=Aa hD;have HDl:=Aa (show D.length=16 by rw[hD,Dg]);have HDb:=Aa (show bdA 1099511627776 D by rw[hD];exact GM _ _);clear hD;refine Am (by kernel_rfl) [(60,0),(61,1),(62,2),(63,3),(64,4),(65,5),(66,6),(67,7),(68,8),(69,9),(70,10)] [[],[],[],[],[],[],[4,5],[4,5,6],[],[4,5,6,7,8],[0,1,2,3,4,5,6,7,8,9]] (fun i own ys wx=>match i with|0=>own= .agg #[.int .i64 W,.int .i64 H,.slice (some ⟨g,0,none⟩) n c]|1=>own= .int .i64 (xi:Nat)|2=>own= .int .i64 (yj:Nat)|3=>own= .agg (ic PR)|4=>own= .int .i64 (k:Nat)|5=>own= .pointer (some ⟨B+1+1,7,none⟩)|6=>own= .pointer (some ⟨B+1+1,7+k*16,none⟩)|7=>own= .agg (ic bk)|8=>own= .int .i64 (q:Nat)|9=>own= .agg (ic D)|10=>True|_=>True) (fun Lx wx=>RS w base g n c ra rn rc W H ref m B (if Lx 10=true then Z1 else Z) wx∧IB wx O2 47 PR∧Sl wx (some ⟨g2,0,none⟩) 64 ((blkL ref x y m.x m.y).map (Value.int .i64))) (by kernel_rfl) (by kernel_rfl) (by kernel_rfl) ?g0_r3 ?gop_r3 ?gend_r3
   case g0_r3=>exact⟨RM.drew,pM.drewN 1,SM.drewN 1⟩
   case gop_r3 =>
    refine⟨?o0,?o1,?o2,?o3,?_,?_,?o6,?o7,?_,?o9,?o10,trivial⟩ <;> (intro Lx xs wx hG hl ha hb hD hI Qo Kx hK hQo;simp only[Ad,Nat.reduceAdd,Nat.reduceEqDiff,↓reduceIte]at hQo⊢)
    case o0 =>
     clear hl ha hb hD hI;obtain⟨-,k0,k1,k2,-⟩:=bx3 hG.1.b0;go_wp2;exact hK.out _ _ ⟨rfl,hG,kkp⟩
    case o1 =>
     clear hl ha hb hD hI;go_wp2;exact hK.out _ _ ⟨by rw[←Hxi.out],hG,fun _ _ _ _ _ _ h=>h⟩
    case o2 =>
     clear hl ha hb hD hI;go_wp2;exact hK.out _ _ ⟨by rw[←Hyj.out],hG,fun _ _ _ _ _ _ h=>h⟩
    case o3 =>
     clear hl ha hb hD hI;go_wp2_with (refine Ab 47 _ rfl rfl hG.2.1 0 16 rfl _ Rm rfl Ag (by rw[HPl.out];omega) _ (by rw[Ak _ _ HPl.out]) ?_)
     exact hK.out _ _ ⟨rfl,hG,kkp⟩
    case o6 =>
     clear hl ha hb;rw[ddq (hD 4 rfl),ddq (hD 5 rfl)]at hQo⊢;clear hD hI;go_wp2;exact hK.out _ _ ⟨rfl,hG,kkp⟩
    case o7 =>
     clear hl ha hb;rw[ddq (hD 6 rfl)]at hQo⊢;clear hD hI;go_wp2_with (refine Ab 47 _ rfl rfl hG.1.b2 (7+k*16) 16 rfl _ Rm rfl Ag (by rw[Hl.out];omega) _ (by rw[Mac.zs_blk Hm.out k hlt,←Hbk.out]) ?_)
     exact hK.out _ _ ⟨rfl,hG,kkp⟩
    case o9 =>
     clear hl ha hb;rw[ddq (hD 7 rfl),ddq (hD 8 rfl)]at hQo⊢;clear hD hI;go_wp2_with fail
     refine(EU bk q _ HB16.out HBv.out hq).mono ?_
     rintro e w9 ⟨rfl,e9⟩
     rw[←HD.out];go_wp2;exact hK.out _ _ ⟨rfl,⟨hG.1.ex e9,hG.2.1.ext e9,hG.2.2.ext e9⟩,fun _ _ _ _ _ _ h=>h⟩
    case o10 =>
     have l10:Lx 10=false:=hl;clear hl ha hb;rw[ddq (hD 0 rfl),ddq (hD 1 rfl),ddq (hD 2 rfl),ddq (hD 3 rfl),ddq (hD 9 rfl)]at hQo⊢;clear hD hI;rw[l10,ifF]at hG;go_wp2_with fail
     refine(Iy W H xi yj base g n c Z PR D _ HPl.out HDl.out HPb.out HDb.out hW32 (by omega) (by omega) hI (by omega) hG.1.own).mono ?_
     rintro e w9 ⟨rfl,o9,g9⟩
     go_wp2;rw[←Hst.out]at o9;exact hK.out _ _ ⟨trivial,⟨hG.1.put g9 o9,hG.2.1.gr g9 (lv2 (by omega)),hG.2.2.grown g9 (fun z hz=>by cases hz;simpa using hg2)⟩,fun _ _ _ _ _ _ h=>h⟩
    all_goals
     clear hl ha hb hD hI;go_wp2;exact hK.out _ _ ⟨rfl,hG,kkp⟩
   intro xs wx hV hG0;obtain⟨Lx,hL,hG⟩:=hG0;have l10:Lx 10=true:=hL 10 (by decide);clear hL hV;simp only[Ad,Nat.reduceAdd,Nat.reduceEqDiff,↓reduceIte];generalize xs 0=y0,xs 1=y1,xs 2=y2,xs 3=y3,xs 4=y4,xs 5=y5,xs 6=y6,xs 7=y7,xs 8=y8,xs 9=y9,xs 10=y10 at *
   replace hG:RS w base g n c ra rn rc W H ref m B (if Lx 10=true then Z1 else Z) wx∧IB wx O2 47 PR∧Sl wx (some ⟨g2,0,none⟩) 64 ((blkL ref x y m.x m.y).map (Value.int .i64)):=hG
   rw[l10,ifT]at hG;clear RM pM SM;have HG:=Aa hG;clear hG;go_wp2;go_roundw
   case rel=>exact⟨k+1,by omega,by go_num,by rw[←HZ1.out];exact HG.out.1,Aa HG.out.2.2⟩
   case measure=>simp[intOf];omega
  ·obtain rfl:k=4:=by omega
   have HR:=Aa R3;clear R3;go_wp2;go_end0
   exact⟨rfl,HR.out.own,HR.out.gr⟩
end Go.Proofs.YtijnbalgnhigbaaGreatDoor
namespace Go.Proofs.YtijnbalgnhigbaaGreatDoor
open Go.RowKit
section
variable {P : Program} (w : World)
theorem Fh (base:Nat)(t ty e:TypeId)(i:TypeInfo)(z:Value)(size bytes:Nat)(ht:P.underlying t=some (.slice e))(hi:P.info? e=some i)(hz:i.zero=some z)
 (hsize:i.size=size) (hby:i.bytes=bytes) (hzs:z.cells.size=size) (hsz:0<size)
 (v:Value) (n:Nat) (xs:List Value) (hown:w.ownsRow base e size v n xs)
 (a:Addr) (m c:Nat) (news:List Value) (hl:news.length=m*size) (hnews:∀ j u,news[j]?=some u→w.cell? (a.add j)=some u) (h1:∀ u∈news,u.oneCell'=true)
 (h63:n+m≤maxLen) (hbytes:(n+m)*bytes≤140737488355328) (hbase:base≤w.heap.size) :
 ∃ v' w',(Builtin.append_ #[t,t] ty #[v,.slice (some a) m c]).run P w= .ok v' w'∧w'.ownsRow base e size v' (n+m) (xs++news)∧w.grownBy w' v.ownBlock ∧
  (∀ b' n' own xs',n'≤n→w.ownsRow b' e size own n' xs'→w'.ownsRow b' e size own n' xs'):=by
 obtain⟨v',w',hr,h2,h3,-⟩:=run_append_own (P:=P) w base t ty e i z size bytes ht hi hz hsize hby hzs hsz v n xs hown a m c news hl hnews h1 h63 hbytes hbase;refine⟨v',w',hr,h2,h3,fun b' n' own xs' hn' ho => ?_⟩
 by_cases hne:own.ownBlock=none∨own.ownBlock≠v.ownBlock
 ·exact ho.kept h3 hne
 ·have hsm:n+m≤9223372036854775807:=by simp only[maxLen]at h63;omega
  rcases id hown.2 with⟨rfl,rfl⟩|⟨g,cap,cur,rfl,hbg,hg,hnc,hcm,hcs,htake⟩
  ·exact absurd (show own.ownBlock=none∨_ from by
    cases h:own.ownBlock with
    | none=>exact .inl rfl
    | some q=>exact .inr (by simp[Value.ownBlock])) hne
  ·subst hsize
   by_cases hroom:n+m≤cap
   ·have hfit:n*i.size+news.length≤cur.size:=by rw[hl,hcs,←Nat.add_mul];exact Nat.mul_le_mul_right _ hroom
    have hr2:=run_append_room (P:=P) w t ty e i ht hi g n cap cur hg a m c news hl hnews h1 hroom hfit;rw[hr]at hr2;simp only[Result.ok.injEq]at hr2;obtain⟨-,rfl⟩:=hr2;rcases id ho.2 with⟨rfl,-⟩|⟨g',cap',cur',rfl,hb',hg',hnc',hcm',hcs',htake'⟩
    ·exact absurd (.inl rfl) hne
    ·have hgg:g'=g:=by
      have : ¬ (some g':Option Nat)≠some g:=fun h=>hne (.inr h)
      simpa using this
     subst hgg;rw[hg]at hg';simp only[Option.some.injEq,Obj.cells.injEq,and_true]at hg';subst hg';refine⟨ho.1,.inr ⟨g',cap',_,rfl,hb',setRow_heap w g' cur _ e _ hg,hnc',hcm',?_,?_⟩⟩
     ·simp only[List.size_toArray,List.length_append,List.length_take,List.length_drop,Array.length_toList];omega
     ·have hle:n'*i.size≤n*i.size:=Nat.mul_le_mul_right _ hn';have hlen:(cur.toList.take (n*i.size)).length=n*i.size:=by
       rw[List.length_take,Array.length_toList];omega
      rw[List.toList_toArray,List.append_assoc,List.take_append_of_le_length (by rw[hlen];exact hle),List.take_take,Nat.min_eq_left hle];exact htake'
   ·have holds:∀ j u,xs[j]?=some u→w.cell? ((⟨g,0,none⟩:Addr).add j)=some u:=hown.cells (g:=g) rfl;have hr2:=run_append_grow (P:=P) w t ty e i z ht hi hz ⟨g,0,none⟩ n cap xs hown.1 holds a m c news hl hnews (by omega) (by omega) (growslice_fits (by omega) (by rw[hby];exact hbytes));rw[hr]at hr2;simp only[Result.ok.injEq]at hr2;obtain⟨-,rfl⟩:=hr2;exact ho.kept (row:=none) ⟨rfl,rfl,rfl,by simp,fun k hk _=>(World.grownBy_alloc w.drew _ none).block k hk (by simp)⟩ (by cases own.ownBlock <;> simp)
theorem wpList_want {ops:Array Oper}{rest:List Oper}{o:Oper}{a:Act}{Q:Exit→Act→World→Prop}{w:World}(hw:Region.wanted o (yielded ops a.tmps)=true)
 (h:∀ K:Act→World→Prop,(∀ a w,wpList P ops Q rest a w→K a w)→o.wp P a w K Q):wpList P ops Q (o::rest) a w :=
 wpList_step fun K hK=>by rw[if_pos hw];exact h K hK
theorem Aw {ops:Array Oper}{rest:List Oper}{o:Oper}{a:Act}{Q:Exit→Act→World→Prop}{base e size:Nat}{v:Value}{n:Nat}{xs:List Value}
 (hw:Region.wanted o (yielded ops a.tmps)=true)
 (hown:w.ownsRow base e size v n xs) (hbase:base≤w.heap.size)
 (s x:Operand) (t:TypeId) (ho:o.op= .call { callee := .builtin .append,args := #[s,x],argTypes := #[t,t] })
 (z:Value) (bytes:Nat) (h1:P.underlying t=some (.slice e)) (h2:(P.info? e).map (fun i=>(i.zero,i.size,i.bytes))=some (some z,size,bytes)) (hz1:z.cells.size=size) (hsz:0<size)
 (hs:a.eval s=v) (ad:Addr) (m c:Nat) (us:List Value) (hx:a.eval x= .slice (some ad) m c) (hl:us.length=m*size) (hcell:∀(j:Nat) q,us[j]?=some q→w.cell? (ad.add j)=some q) (hu1:∀ u∈us,u.oneCell'=true)
 (hb:(n+m)*bytes≤140737488355328) (hn:n+m<2^62)
 (h:∀ v' w',w'.ownsRow base e size v' (n+m) (xs++us)→w.grownBy w' v.ownBlock→(∀ b' n' own xs',n'≤n→w.ownsRow b' e size own n' xs'→w'.ownsRow b' e size own n' xs')→wpList P ops Q rest (a.put o.dst v') w'):wpList P ops Q (o::rest) a w:=by
 obtain⟨i0,hi,hz0,hz1',hz2⟩:=info_parts h2;obtain⟨v',w',hr,k2,k3,k4⟩:=Fh (P:=P) w base t o.type e i0 z size bytes h1 hi hz0 hz1' hz2 hz1 hsz v n xs hown ad m c us hl hcell hu1 (by unfold maxLen;omega) hb hbase;refine wpList_want hw fun K hK => ?_
 unfold Oper.wp execOp;simp only[ho,resolve,invoke,builtin,Sem.run_bind,Sem.run_pure,Result.andThen_ok,List.map_toArray,List.map_cons,List.map_nil,hs,hx,hr];exact hK _ _ (h v' w' k2 k3 k4)
theorem Mr {ops:Array Oper}{rest:List Oper}{o:Oper}{a:Act}{Q:Exit→Act→World→Prop}{base e size g cap:Nat}{n:Nat}{xs:List Value}
 (hw:Region.wanted o (yielded ops a.tmps)=true)
 (hown:w.ownsRow base e size (.slice (some ⟨g,0,none⟩) n cap) n xs) (hbase:base≤w.heap.size)
 (s x:Operand) (t:TypeId) (ho:o.op= .call { callee := .builtin .append,args := #[s,x],argTypes := #[t,t] })
 (z:Value) (bytes:Nat) (h1:P.underlying t=some (.slice e)) (h2:(P.info? e).map (fun i=>(i.zero,i.size,i.bytes))=some (some z,size,bytes)) (hz1:z.cells.size=size) (hsz:0<size)
 (hs:a.eval s= .slice (some ⟨g,0,none⟩) n cap) (ad:Addr) (m c:Nat) (us:List Value) (hx:a.eval x= .slice (some ad) m c) (hl:us.length=m*size) (hcell:∀(j:Nat) q,us[j]?=some q→w.cell? (ad.add j)=some q) (hu1:∀ u∈us,u.oneCell'=true)
 (hb:(n+m)*bytes≤140737488355328) (hn:n+m<2^62) (hcap:cap<n+m)
 (h:∀ v' w',w'.ownsRow base e size v' (n+m) (xs++us)→Ext w w'→wpList P ops Q rest (a.put o.dst v') w'):wpList P ops Q (o::rest) a w:=by
 obtain⟨i0,hi,hz0,hz1',hz2⟩:=info_parts h2;obtain⟨v',w',hr,k2,k3,k4⟩:=Fh (P:=P) w base t o.type e i0 z size bytes h1 hi hz0 hz1' hz2 hz1 hsz _ n xs hown ad m c us hl hcell hu1 (by unfold maxLen;omega) hb hbase;have hE:Ext w w':=by
  subst hz1';have holds:∀ j u,xs[j]?=some u→w.cell? ((⟨g,0,none⟩:Addr).add j)=some u:=hown.cells (g:=g) rfl;have hr2:=run_append_grow (P:=P) w t o.type e i0 z h1 hi hz0 ⟨g,0,none⟩ n cap xs hown.1 holds ad m c us hl hcell (by omega) (by omega) (growslice_fits (by omega) (by rw[hz2];exact hb));rw[hr]at hr2;simp only[Result.ok.injEq]at hr2;obtain⟨-,rfl⟩:=hr2;exact(Ext.drewN w 1).trans (Ext.alloc _ _)
 refine wpList_want hw fun K hK => ?_
 unfold Oper.wp execOp;simp only[ho,resolve,invoke,builtin,Sem.run_bind,Sem.run_pure,Result.andThen_ok,List.map_toArray,List.map_cons,List.map_nil,hs,hx,hr];exact hK _ _ (h v' w' k2 hE)
end
end Go.Proofs.YtijnbalgnhigbaaGreatDoor
namespace Go.Proofs.YtijnbalgnhigbaaGreatDoor
open Go.RowKit
theorem NT (zs:List Int):∀ u∈zs.map (Value.int .i64),u.oneCell'=true:=by
 intro u hu;obtain⟨z,-,rfl⟩:=List.mem_map.1 hu;rfl
theorem On {w w':World}{r:Option Nat}(g:w.grownBy w' r)(hr:r=none):Ext w w':=Ext.grown (Below.refl _ _) g (fun k hk=>by rw[hr]at hk;cases hk)
theorem Kq (W H:Int)(a:Option Addr)(c n:Nat)(zs:List Int)(w:World)(hn:n<2^40)(r:Sl w a n (zs.map (Value.int .i64))):
 Calls Tryz.prog 41 #[.agg #[.int .i64 W,.int .i64 H,.slice a n c]] w fun e w'=>∃ a' c',e= .returned (.agg #[.int .i64 W,.int .i64 H,.slice a' n c'])∧w'.ownsRow w.heap.size 3 1 (.slice a' n c') n (zs.map (Value.int .i64))∧Ext w w':=by
 have p0:=Cy (Aj w (.cells #[.int .i64 W,.int .i64 H,.slice a n c] 30)) (.cells #[.int .i64 0,.int .i64 0,.slice none 0 0] 30);have r0:=Aj (w.alloc (.cells #[.int .i64 W,.int .i64 H,.slice a n c] 30)) (.cells #[.int .i64 0,.int .i64 0,.slice none 0 0] 30);have E0:=(Ext.alloc w (.cells #[.int .i64 W,.int .i64 H,.slice a n c] 30)).trans (Ext.alloc _ (.cells #[.int .i64 0,.int .i64 0,.slice none 0 0] 30));have hs:((w.alloc (.cells #[.int .i64 W,.int .i64 H,.slice a n c] 30)).alloc (.cells #[.int .i64 0,.int .i64 0,.slice none 0 0] 30)).heap.size=w.heap.size+1+1:=by simp
 simp only[World.size_alloc]at r0;go_enter Tryz.func41,Tryz.ntmps41
 go_upto_region 1 with fail
 try simp only[World.size_alloc]
 generalize (w.alloc (.cells #[.int .i64 W,.int .i64 H,.slice a n c] 30)).alloc (.cells #[.int .i64 0,.int .i64 0,.slice none 0 0] 30)=w0 at *;obtain⟨B,hB⟩:∃ B,B=w.heap.size:=⟨_,rfl⟩;rw[←hB]at p0 r0 hs⊢;have HB:=Aa hB;have hsz:B+2≤w0.heap.size:=by omega
 have hwB:w.heap.size≤B:=by omega
 clear hB hs;have hext:Stab (fun wa wb=>Ext wa wb) (fun i own ys wx=>match i with|0=>own= .pointer (some ⟨B,0,none⟩)|1=>own= .int .i64 W|2=>own= .pointer (some ⟨B,1,none⟩)|3=>own= .int .i64 H|4=>own= .pointer (some ⟨B,2,none⟩)|5=>own= .slice a n c|6=>∃(a1:Option Addr) (c1:Nat),own= .slice a1 n c1∧wx.ownsRow (B+2) 3 1 (.slice a1 n c1) n (zs.map (Value.int .i64))|7=>∃(a1:Option Addr) (c1:Nat),own= .agg #[.int .i64 W,.int .i64 H,.slice a1 n c1]∧wx.ownsRow (B+2) 3 1 (.slice a1 n c1) n (zs.map (Value.int .i64))|8=>∃(a1:Option Addr) (c1:Nat),wx.heap[B+1]?=some (.cells #[.int .i64 W,.int .i64 H,.slice a1 n c1] 30 (0,0))∧wx.ownsRow (B+2) 3 1 (.slice a1 n c1) n (zs.map (Value.int .i64))|_=>True):=by
  intro i own ys wa wb e h
  match i,h with
  | 0,h|1,h|2,h|3,h|4,h|5,h=>exact h
  | 6,h|7,h=>obtain⟨a2,c2,h1,h2⟩:=h;exact⟨a2,c2,h1,Ae h2 e⟩
  | 8,h=>obtain⟨a2,c2,h1,h2⟩:=h;exact⟨a2,c2,e.blk h1,Ae h2 e⟩
  | _+9,_=>trivial
 have Hext:=Aa hext;clear hext;refine An (by kernel_rfl) [(3,0),(4,1),(5,2),(6,3),(7,4),(8,5),(9,6),(10,7)] [[],[0],[],[2],[],[4],[4,5],[0,1,2,3,4,5,6],[0,1,2,3,4,5,6,7]] (fun i own ys wx=>match i with|0=>own= .pointer (some ⟨B,0,none⟩)|1=>own= .int .i64 W|2=>own= .pointer (some ⟨B,1,none⟩)|3=>own= .int .i64 H|4=>own= .pointer (some ⟨B,2,none⟩)|5=>own= .slice a n c|6=>∃(a1:Option Addr) (c1:Nat),own= .slice a1 n c1∧wx.ownsRow (B+2) 3 1 (.slice a1 n c1) n (zs.map (Value.int .i64))|7=>∃(a1:Option Addr) (c1:Nat),own= .agg #[.int .i64 W,.int .i64 H,.slice a1 n c1]∧wx.ownsRow (B+2) 3 1 (.slice a1 n c1) n (zs.map (Value.int .i64))|8=>∃(a1:Option Addr) (c1:Nat),wx.heap[B+1]?=some (.cells #[.int .i64 W,.int .i64 H,.slice a1 n c1] 30 (0,0))∧wx.ownsRow (B+2) 3 1 (.slice a1 n c1) n (zs.map (Value.int .i64))|_=>True) (fun kx wx=>Ext w wx∧B+2≤wx.heap.size∧wx.heap[B]?=some (.cells #[.int .i64 W,.int .i64 H,.slice a n c] 30 (0,0))∧∃ x y z:Value,wx.heap[B+1]?=some (.cells #[x,y,z] 30 (0,0))) (by kernel_rfl) (by kernel_rfl) (by kernel_rfl) ?g0_r1 ?gop_r1 ?gend_r1
 case g0_r1=>exact⟨Ext.trans_drewN E0 1,hsz,p0,_,_,_,r0⟩
 case gop_r1 =>
  refine⟨?_,?o1,?_,?o3,?_,?o5,?o6,?o7,?o8,trivial⟩ <;> (intro kx xs wx hk hG hD hI Qo Kx hK hQo;simp only[Ad,Nat.reduceAdd,Nat.reduceEqDiff,↓reduceIte]at hQo⊢)
  case o1 =>
   rw[ddq (hD 0 rfl)]at hQo⊢;clear hD hI;obtain⟨-,k0,k1,k2,-⟩:=bx3 hG.2.2.1;go_wp2;exact hK.out _ _ ⟨rfl,hG,kkp⟩
  case o3 =>
   rw[ddq (hD 2 rfl)]at hQo⊢;clear hD hI;obtain⟨-,k0,k1,k2,-⟩:=bx3 hG.2.2.1;go_wp2;exact hK.out _ _ ⟨rfl,hG,kkp⟩
  case o5 =>
   rw[ddq (hD 4 rfl)]at hQo⊢;clear hD hI;obtain⟨-,k0,k1,k2,-⟩:=bx3 hG.2.2.1;go_wp2;exact hK.out _ _ ⟨rfl,hG,kkp⟩
  case o6 =>
   rw[ddq (hD 5 rfl)]at hQo⊢;clear hD hI;refine IP _ (World.ownsRow_nil _ (B+2) _ _) hG.2.1 rfl _ _ 22 rfl (.int .i64 0) 8 Rv Cp rfl rfl a n c _ rfl (r.ext hG.1) (NT zs) (by omega) (by omega) ?_;intro v14 w14 own14 gr14;rw[Nat.zero_add,List.nil_append]at own14;obtain⟨a14,c14,rfl⟩:=Al own14;have e8:=On gr14 rfl;obtain⟨g1,g2,g3,x,y,z,g4⟩:=hG;exact hQo _ _ (hK.out _ _ ⟨⟨_,_,rfl,own14⟩,⟨g1.trans e8,Nat.le_trans g2 e8.size,e8.blk g3,x,y,z,e8.blk g4⟩,fun i _ _ _ own ys h=>Hext.out i own ys _ _ e8 h⟩)
  case o7 =>
   rw[ddq (hD 1 rfl),ddq (hD 3 rfl)]at hQo⊢;have d6:∃(a1:Option Addr) (c1:Nat),(xs 6) = .slice a1 n c1∧wx.ownsRow (B+2) 3 1 (.slice a1 n c1) n (zs.map (Value.int .i64)):=hD 6 rfl;clear hD hI;generalize xs 6=y6 at *;obtain⟨a1,c1,rfl,o1⟩:=d6;go_wp2;exact hK.out _ _ ⟨⟨_,_,rfl,o1⟩,hG,fun _ _ _ _ _ _ h=>h⟩
  case o8 =>
   have d7:∃(a1:Option Addr) (c1:Nat),(xs 7) = .agg #[.int .i64 W,.int .i64 H,.slice a1 n c1]∧wx.ownsRow (B+2) 3 1 (.slice a1 n c1) n (zs.map (Value.int .i64)):=hD 7 rfl;clear hD hI;generalize xs 7=y7 at *;obtain⟨a7,c7,rfl,o7⟩:=d7;obtain⟨g1,g2,g3,x,y,z,g4⟩:=hG;obtain⟨-,k0,k1,k2,f0,f1,f2⟩:=bx3 g4;go_wp2;have hst:∀(wy:World),(∀(v:Value) (xs:List Value),wx.ownsRow (B+2) 3 1 v n xs→wy.ownsRow (B+2) 3 1 v n xs)→Stbn 9 8 [[],[0],[],[2],[],[4],[4,5],[0,1,2,3,4,5,6],[0,1,2,3,4,5,6,7]] (fun i own ys wx=>match i with|0=>own= .pointer (some ⟨B,0,none⟩)|1=>own= .int .i64 W|2=>own= .pointer (some ⟨B,1,none⟩)|3=>own= .int .i64 H|4=>own= .pointer (some ⟨B,2,none⟩)|5=>own= .slice a n c|6=>∃(a1:Option Addr) (c1:Nat),own= .slice a1 n c1∧wx.ownsRow (B+2) 3 1 (.slice a1 n c1) n (zs.map (Value.int .i64))|7=>∃(a1:Option Addr) (c1:Nat),own= .agg #[.int .i64 W,.int .i64 H,.slice a1 n c1]∧wx.ownsRow (B+2) 3 1 (.slice a1 n c1) n (zs.map (Value.int .i64))|8=>∃(a1:Option Addr) (c1:Nat),wx.heap[B+1]?=some (.cells #[.int .i64 W,.int .i64 H,.slice a1 n c1] 30 (0,0))∧wx.ownsRow (B+2) 3 1 (.slice a1 n c1) n (zs.map (Value.int .i64))|_=>True) wx wy:=by
    intro wy hy ii hii hne hc own ys h
    match ii,h with
    | 0,h|1,h|2,h|3,h|4,h|5,h=>exact h
    | 6,h|7,h=>obtain⟨a2,c2,h1,h2⟩:=h;exact⟨a2,c2,h1,hy _ _ h2⟩
    | 8,h=>exact absurd rfl hne
    | _+9,_=>trivial
   have hz:=Fu (x' := .int .i64 W) (y' := .int .i64 H) (z' := .slice a7 n c7) g4;have hg3:(((wx.setCell ⟨B+1,0,none⟩ (.int .i64 W)).setCell ⟨B+1,1,none⟩ (.int .i64 H)).setCell ⟨B+1,2,none⟩ (.slice a7 n c7)).heap[B]?=_:=Ai (Ai (Ai g3 (by omega)) (by omega)) (by omega);have hkeep:∀(v:Value) (xs:List Value),wx.ownsRow (B+2) 3 1 v n xs→(((wx.setCell ⟨B+1,0,none⟩ (.int .i64 W)).setCell ⟨B+1,1,none⟩ (.int .i64 H)).setCell ⟨B+1,2,none⟩ (.slice a7 n c7)).ownsRow (B+2) 3 1 v n xs:=fun v xs h=>BI (BI (BI h (Ax _ _ _ _) (by omega)) (Ax _ _ _ _) (by omega)) (Ax _ _ _ _) (by omega)
   have hE:Ext w (((wx.setCell ⟨B+1,0,none⟩ (.int .i64 W)).setCell ⟨B+1,1,none⟩ (.int .i64 H)).setCell ⟨B+1,2,none⟩ (.slice a7 n c7)):=Ext.grown (Ext.grown (Ext.grown g1 (Ax _ _ _ _) (fun k e=>by cases e;omega)) (Ax _ _ _ _) (fun k e=>by cases e;omega)) (Ax _ _ _ _) (fun k e=>by cases e;omega);exact hQo undef _ (hK.out _ _ ⟨⟨a7,c7,hz,hkeep _ _ o7⟩,⟨hE,by simp;omega,hg3,_,_,_,hz⟩,hst _ hkeep⟩)
  all_goals
   clear hD hI;go_wp2;exact hK.out _ _ ⟨rfl,hG,kkp⟩
 clear Hext;intro xs wx hV hG;have d8:∃(a1:Option Addr) (c1:Nat),wx.heap[B+1]?=some (.cells #[.int .i64 W,.int .i64 H,.slice a1 n c1] 30 (0,0))∧wx.ownsRow (B+2) 3 1 (.slice a1 n c1) n (zs.map (Value.int .i64)):=hV 8 (by decide);clear hV;simp only[Ad,Nat.reduceAdd,Nat.reduceEqDiff,↓reduceIte];generalize xs 0=y0,xs 1=y1,xs 2=y2,xs 3=y3,xs 4=y4,xs 5=y5,xs 6=y6,xs 7=y7,xs 8=y8 at *
 replace hG:Ext w wx∧B+2≤wx.heap.size∧wx.heap[B]?=some (.cells #[.int .i64 W,.int .i64 H,.slice a n c] 30 (0,0))∧∃ x y z:Value,wx.heap[B+1]?=some (.cells #[x,y,z] 30 (0,0)):=hG
 obtain⟨a8,c8,q8,o8⟩:=d8;go_wp2;exact bodyPost_ret (v := .agg #[.int .i64 W,.int .i64 H,.slice a8 n c8]) (results_cell_row rfl _ _ (B+1) 30 #[.int .i64 W,.int .i64 H,.slice a8 n c8] (0,0) _ rfl q8 RA rfl Dn) rfl ⟨a8,c8,rfl,AH o8 (by omega),hG.1⟩
theorem JE (W H:Int)(a:Option Addr)(c n:Nat)(zs:List Int)(w:World)(hn:n<2^40)(hn0:0<n)(r:Sl w a n (zs.map (Value.int .i64))):
 Calls Tryz.prog 69 #[.agg #[.int .i64 W,.int .i64 H,.slice a n c]] w fun e w'=>∃ a' c',e= .returned (.agg #[.int .i64 W,.int .i64 H,.slice a' n c'])∧w'.ownsRow w.heap.size 3 1 (.slice a' n c') n (zs.map (Value.int .i64))∧Ext w w':=by
 have p0:=Cy (Aj w (.cells #[.int .i64 W,.int .i64 H,.slice a n c] 30)) (.cells #[.int .i64 0,.int .i64 0,.slice none 0 0] 30);have r0:=Aj (w.alloc (.cells #[.int .i64 W,.int .i64 H,.slice a n c] 30)) (.cells #[.int .i64 0,.int .i64 0,.slice none 0 0] 30);have E0:=(Ext.alloc w (.cells #[.int .i64 W,.int .i64 H,.slice a n c] 30)).trans (Ext.alloc _ (.cells #[.int .i64 0,.int .i64 0,.slice none 0 0] 30));have hs:((w.alloc (.cells #[.int .i64 W,.int .i64 H,.slice a n c] 30)).alloc (.cells #[.int .i64 0,.int .i64 0,.slice none 0 0] 30)).heap.size=w.heap.size+1+1:=by simp
 simp only[World.size_alloc]at r0;go_enter Tryz.func69,Tryz.ntmps69
 go_upto_region 1 with fail
 try simp only[World.size_alloc]
 generalize (w.alloc (.cells #[.int .i64 W,.int .i64 H,.slice a n c] 30)).alloc (.cells #[.int .i64 0,.int .i64 0,.slice none 0 0] 30)=w0 at *;obtain⟨B,hB⟩:∃ B,B=w.heap.size:=⟨_,rfl⟩;rw[←hB]at p0 r0 hs⊢;have HB:=Aa hB;have hsz:B+2≤w0.heap.size:=by omega
 have hwB:w.heap.size≤B:=by omega
 clear hB hs;have hext:Stab (fun wa wb=>Ext wa wb) (fun i own ys wx=>match i with|0=>own= .pointer (some ⟨B,0,none⟩)|1=>own= .int .i64 W|2=>own= .pointer (some ⟨B,1,none⟩)|3=>own= .int .i64 H|4=>∃ g:Nat,own= .slice (some ⟨g,0,none⟩) 0 0∧wx.ownsRow (B+2) 3 1 (.slice (some ⟨g,0,none⟩) 0 0) 0 []|5=>own= .pointer (some ⟨B,2,none⟩)|6=>own= .slice a n c|7=>∃(a1:Option Addr) (c1:Nat),own= .slice a1 n c1∧wx.ownsRow (B+2) 3 1 (.slice a1 n c1) n (zs.map (Value.int .i64))|8=>∃(a1:Option Addr) (c1:Nat),own= .agg #[.int .i64 W,.int .i64 H,.slice a1 n c1]∧wx.ownsRow (B+2) 3 1 (.slice a1 n c1) n (zs.map (Value.int .i64))|9=>∃(a1:Option Addr) (c1:Nat),wx.heap[B+1]?=some (.cells #[.int .i64 W,.int .i64 H,.slice a1 n c1] 30 (0,0))∧wx.ownsRow (B+2) 3 1 (.slice a1 n c1) n (zs.map (Value.int .i64))|_=>True):=by
  intro i own ys wa wb e h
  match i,h with
  | 0,h|1,h|2,h|3,h|5,h|6,h=>exact h
  | 4,h=>obtain⟨g,h1,h2⟩:=h;exact⟨g,h1,Ae h2 e⟩
  | 7,h|8,h=>obtain⟨a2,c2,h1,h2⟩:=h;exact⟨a2,c2,h1,Ae h2 e⟩
  | 9,h=>obtain⟨a2,c2,h1,h2⟩:=h;exact⟨a2,c2,e.blk h1,Ae h2 e⟩
  | _+10,_=>trivial
 have Hext:=Aa hext;clear hext;refine An (by kernel_rfl) [(3,0),(4,1),(5,2),(6,3),(7,4),(8,5),(9,6),(10,7),(11,8)] [[],[0],[],[2],[],[],[5],[4,5,6],[0,1,2,3,4,5,6,7],[0,1,2,3,4,5,6,7,8]] (fun i own ys wx=>match i with|0=>own= .pointer (some ⟨B,0,none⟩)|1=>own= .int .i64 W|2=>own= .pointer (some ⟨B,1,none⟩)|3=>own= .int .i64 H|4=>∃ g:Nat,own= .slice (some ⟨g,0,none⟩) 0 0∧wx.ownsRow (B+2) 3 1 (.slice (some ⟨g,0,none⟩) 0 0) 0 []|5=>own= .pointer (some ⟨B,2,none⟩)|6=>own= .slice a n c|7=>∃(a1:Option Addr) (c1:Nat),own= .slice a1 n c1∧wx.ownsRow (B+2) 3 1 (.slice a1 n c1) n (zs.map (Value.int .i64))|8=>∃(a1:Option Addr) (c1:Nat),own= .agg #[.int .i64 W,.int .i64 H,.slice a1 n c1]∧wx.ownsRow (B+2) 3 1 (.slice a1 n c1) n (zs.map (Value.int .i64))|9=>∃(a1:Option Addr) (c1:Nat),wx.heap[B+1]?=some (.cells #[.int .i64 W,.int .i64 H,.slice a1 n c1] 30 (0,0))∧wx.ownsRow (B+2) 3 1 (.slice a1 n c1) n (zs.map (Value.int .i64))|_=>True) (fun kx wx=>Ext w wx∧B+2≤wx.heap.size∧wx.heap[B]?=some (.cells #[.int .i64 W,.int .i64 H,.slice a n c] 30 (0,0))∧∃ x y z:Value,wx.heap[B+1]?=some (.cells #[x,y,z] 30 (0,0))) (by kernel_rfl) (by kernel_rfl) (by kernel_rfl) ?g0_r2 ?gop_r2 ?gend_r2
 case g0_r2=>exact⟨Ext.trans_drewN E0 1,hsz,p0,_,_,_,r0⟩
 case gop_r2 =>
  refine⟨?_,?o1,?_,?o3,?o4,?_,?o6,?o7,?o8,?o9,trivial⟩ <;> (intro kx xs wx hk hG hD hI Qo Kx hK hQo;simp only[Ad,Nat.reduceAdd,Nat.reduceEqDiff,↓reduceIte]at hQo⊢)
  case o1 =>
   rw[ddq (hD 0 rfl)]at hQo⊢;clear hD hI;obtain⟨-,k0,k1,k2,-⟩:=bx3 hG.2.2.1;go_wp2;exact hK.out _ _ ⟨rfl,hG,kkp⟩
  case o3 =>
   rw[ddq (hD 2 rfl)]at hQo⊢;clear hD hI;obtain⟨-,k0,k1,k2,-⟩:=bx3 hG.2.2.1;go_wp2;exact hK.out _ _ ⟨rfl,hG,kkp⟩
  case o4 =>
   clear hD hI;go_wp2;have ha:=Ext.alloc wx (.cells #[] 3);have o4:=World.ownsRow_made (base:=B+2) (e:=3) (size:=1) wx #[] 0 hG.2.1 (by simp) rfl;obtain⟨g1,g2,g3,x,y,z,g4⟩:=hG;exact hK.out _ _ ⟨⟨_,rfl,o4⟩,⟨g1.trans ha,Nat.le_trans g2 ha.size,ha.blk g3,x,y,z,ha.blk g4⟩,fun i _ _ _ own ys h=>Hext.out i own ys _ _ ha h⟩
  case o6 =>
   rw[ddq (hD 5 rfl)]at hQo⊢;clear hD hI;obtain⟨-,k0,k1,k2,-⟩:=bx3 hG.2.2.1;go_wp2;exact hK.out _ _ ⟨rfl,hG,kkp⟩
  case o7 =>
   rw[ddq (hD 6 rfl)]at hQo⊢;have d4:∃ g:Nat,(xs 4) = .slice (some ⟨g,0,none⟩) 0 0∧wx.ownsRow (B+2) 3 1 (.slice (some ⟨g,0,none⟩) 0 0) 0 []:=hD 4 rfl;clear hD hI;generalize xs 4=y4 at *;obtain⟨g4,rfl,o4⟩:=d4;have rx:=r.ext hG.1;obtain⟨ad,hadr⟩:∃ ad,a=some ad:=by obtain⟨b1,o1,h1,-⟩:=rx.int hn0;exact⟨_,h1⟩
   subst hadr;refine Mr _ rfl o4 hG.2.1 _ _ _ rfl (.int .i64 0) 8 Rv Cp rfl (by decide) rfl ad n c _ rfl (by rw[rx.1];omega) (rx.cellsOf _ hn0) (NT zs) (by omega) (by omega) (by omega) ?_;intro v14 w14 own14 e8;rw[Nat.zero_add,List.nil_append]at own14;obtain⟨a14,c14,rfl⟩:=Al own14;obtain⟨g1,g2,g3,x,y,z,g4⟩:=hG;exact hQo _ _ (hK.out _ _ ⟨⟨_,_,rfl,own14⟩,⟨g1.trans e8,Nat.le_trans g2 e8.size,e8.blk g3,x,y,z,e8.blk g4⟩,fun i _ _ _ own ys h=>Hext.out i own ys _ _ e8 h⟩)
  case o8 =>
   rw[ddq (hD 1 rfl),ddq (hD 3 rfl)]at hQo⊢;have d7:∃(a1:Option Addr) (c1:Nat),(xs 7) = .slice a1 n c1∧wx.ownsRow (B+2) 3 1 (.slice a1 n c1) n (zs.map (Value.int .i64)):=hD 7 rfl;clear hD hI;generalize xs 7=y7 at *;obtain⟨a1,c1,rfl,o1⟩:=d7;go_wp2;exact hK.out _ _ ⟨⟨_,_,rfl,o1⟩,hG,fun _ _ _ _ _ _ h=>h⟩
  case o9 =>
   have d8:∃(a1:Option Addr) (c1:Nat),(xs 8) = .agg #[.int .i64 W,.int .i64 H,.slice a1 n c1]∧wx.ownsRow (B+2) 3 1 (.slice a1 n c1) n (zs.map (Value.int .i64)):=hD 8 rfl;clear hD hI;generalize xs 8=y8 at *;obtain⟨a7,c7,rfl,o7⟩:=d8;obtain⟨g1,g2,g3,x,y,z,g4⟩:=hG;obtain⟨-,k0,k1,k2,f0,f1,f2⟩:=bx3 g4;go_wp2;have hst:∀(wy:World),(∀(v:Value) (nn:Nat) (xs:List Value),wx.ownsRow (B+2) 3 1 v nn xs→wy.ownsRow (B+2) 3 1 v nn xs)→Stbn 10 9 [[],[0],[],[2],[],[],[5],[4,5,6],[0,1,2,3,4,5,6,7],[0,1,2,3,4,5,6,7,8]] (fun i own ys wx=>match i with|0=>own= .pointer (some ⟨B,0,none⟩)|1=>own= .int .i64 W|2=>own= .pointer (some ⟨B,1,none⟩)|3=>own= .int .i64 H|4=>∃ g:Nat,own= .slice (some ⟨g,0,none⟩) 0 0∧wx.ownsRow (B+2) 3 1 (.slice (some ⟨g,0,none⟩) 0 0) 0 []|5=>own= .pointer (some ⟨B,2,none⟩)|6=>own= .slice a n c|7=>∃(a1:Option Addr) (c1:Nat),own= .slice a1 n c1∧wx.ownsRow (B+2) 3 1 (.slice a1 n c1) n (zs.map (Value.int .i64))|8=>∃(a1:Option Addr) (c1:Nat),own= .agg #[.int .i64 W,.int .i64 H,.slice a1 n c1]∧wx.ownsRow (B+2) 3 1 (.slice a1 n c1) n (zs.map (Value.int .i64))|9=>∃(a1:Option Addr) (c1:Nat),wx.heap[B+1]?=some (.cells #[.int .i64 W,.int .i64 H,.slice a1 n c1] 30 (0,0))∧wx.ownsRow (B+2) 3 1 (.slice a1 n c1) n (zs.map (Value.int .i64))|_=>True) wx wy:=by
    intro wy hy ii hii hne hc own ys h
    match ii,h with
    | 0,h|1,h|2,h|3,h|5,h|6,h=>exact h
    | 4,h=>obtain⟨g,h1,h2⟩:=h;exact⟨g,h1,hy _ _ _ h2⟩
    | 7,h|8,h=>obtain⟨a2,c2,h1,h2⟩:=h;exact⟨a2,c2,h1,hy _ _ _ h2⟩
    | 9,h=>exact absurd rfl hne
    | _+10,_=>trivial
   have hz:=Fu (x' := .int .i64 W) (y' := .int .i64 H) (z' := .slice a7 n c7) g4;have hg3:(((wx.setCell ⟨B+1,0,none⟩ (.int .i64 W)).setCell ⟨B+1,1,none⟩ (.int .i64 H)).setCell ⟨B+1,2,none⟩ (.slice a7 n c7)).heap[B]?=_:=Ai (Ai (Ai g3 (by omega)) (by omega)) (by omega);have hkeep:∀(v:Value) (nn:Nat) (xs:List Value),wx.ownsRow (B+2) 3 1 v nn xs→(((wx.setCell ⟨B+1,0,none⟩ (.int .i64 W)).setCell ⟨B+1,1,none⟩ (.int .i64 H)).setCell ⟨B+1,2,none⟩ (.slice a7 n c7)).ownsRow (B+2) 3 1 v nn xs:=fun v nn xs h=>BI (BI (BI h (Ax _ _ _ _) (by omega)) (Ax _ _ _ _) (by omega)) (Ax _ _ _ _) (by omega)
   have hE:Ext w (((wx.setCell ⟨B+1,0,none⟩ (.int .i64 W)).setCell ⟨B+1,1,none⟩ (.int .i64 H)).setCell ⟨B+1,2,none⟩ (.slice a7 n c7)):=Ext.grown (Ext.grown (Ext.grown g1 (Ax _ _ _ _) (fun k e=>by cases e;omega)) (Ax _ _ _ _) (fun k e=>by cases e;omega)) (Ax _ _ _ _) (fun k e=>by cases e;omega);exact hQo undef _ (hK.out _ _ ⟨⟨a7,c7,hz,hkeep _ _ _ o7⟩,⟨hE,by simp;omega,hg3,_,_,_,hz⟩,hst _ hkeep⟩)
  all_goals
   clear hD hI;go_wp2;exact hK.out _ _ ⟨rfl,hG,kkp⟩
 clear Hext;intro xs wx hV hG;have d9:∃(a1:Option Addr) (c1:Nat),wx.heap[B+1]?=some (.cells #[.int .i64 W,.int .i64 H,.slice a1 n c1] 30 (0,0))∧wx.ownsRow (B+2) 3 1 (.slice a1 n c1) n (zs.map (Value.int .i64)):=hV 9 (by decide);clear hV;simp only[Ad,Nat.reduceAdd,Nat.reduceEqDiff,↓reduceIte];generalize xs 0=y0,xs 1=y1,xs 2=y2,xs 3=y3,xs 4=y4,xs 5=y5,xs 6=y6,xs 7=y7,xs 8=y8,xs 9=y9 at *
 replace hG:Ext w wx∧B+2≤wx.heap.size∧wx.heap[B]?=some (.cells #[.int .i64 W,.int .i64 H,.slice a n c] 30 (0,0))∧∃ x y z:Value,wx.heap[B+1]?=some (.cells #[x,y,z] 30 (0,0)):=hG
 obtain⟨a8,c8,q8,o8⟩:=d9;go_wp2;exact bodyPost_ret (v := .agg #[.int .i64 W,.int .i64 H,.slice a8 n c8]) (results_cell_row rfl _ _ (B+1) 30 #[.int .i64 W,.int .i64 H,.slice a8 n c8] (0,0) _ rfl q8 RA rfl Dn) rfl ⟨a8,c8,rfl,AH o8 (by omega),hG.1⟩
noncomputable def recP (ref p : Pic)(x y : Int)(m : Mac)(q top : Int): Pic := if okR ref p x y m q top then ⟨p.w, p.h, bldS ref p x.toNat y.toNat m q.toNat top 4⟩ else pic0
theorem Rb {m:Mac}(hv:m.valid)(h : ¬ m.kind=2):m.kind=0∨m.kind=1:=by have:=hv.1;omega
theorem Jg {ref p:Pic}{x y:Int}{m:Mac}{q top:Int}(h:okR ref p x y m q top)(hk : ¬ m.kind=2):ref.valid:=(h.2.2.2.2.resolve_left hk).1
theorem FV (ref:Pic)(W H x y:Nat)(px:List Int)(m:Mac)(q:Nat)(top:Int)(ra:Option Addr)(rn rc base g n c:Nat)(w:World)(hT:TabQ w)(hbT:0<base)(own:w.ownsRow base 3 1 (.slice (some ⟨g,0,none⟩) n c) n (px.map (Value.int .i64)))
 (hp:BJ ⟨W,H,px⟩ x y) (hm:m.ok) (hv:m.valid) (hq:q<16) (hrv : ¬ m.kind=2→ref.valid) (hrn:rn=ref.px.length) (hr:Sl w ra rn (ref.px.map (Value.int .i64))) (hrg : ¬ m.kind=2→∀ z,ra=some z→z.block≠g) :
 Calls Tryz.prog 25 #[.agg #[.int .i64 W,.int .i64 H,.slice (some ⟨g,0,none⟩) n c],.agg #[.int .i64 ref.w,.int .i64 ref.h,.slice ra rn rc],.int .i64 (x:Nat),.int .i64 (y:Nat),.agg (ic m.zs),.int .i64 q,.int .i64 top] w fun e w'=>e= .returned (.tuple #[])∧w'.ownsRow base 3 1 (.slice (some ⟨g,0,none⟩) n c) n ((bldS ref ⟨W,H,px⟩ x y m q top 4).map (Value.int .i64))∧w.grownBy w' (some g):=by
 by_cases hk:m.kind=2
 ·exact OL ref W H x y px m q top ra rn rc base g n c w hT hbT own hp hm hv hq hk
 ·rcases Rb hv hk with h|h
  ·exact ON ref W H x y px m q top ra rn rc base g n c w hT hbT own hp hm hv hq h (hrv hk) hrn hr (hrg hk)
  ·exact OM ref W H x y px m q top ra rn rc base g n c w hT hbT own hp hm hv hq h (hrv hk) hrn hr (hrg hk)
theorem FM (ref:Pic)(W H x y:Nat)(px:List Int)(m:Mac)(q:Nat)(top:Int)(ra:Option Addr)(rn rc base g n c:Nat)(w:World)(own:w.ownsRow base 3 1 (.slice (some ⟨g,0,none⟩) n c) n (px.map (Value.int .i64)))
 (hp:BJ ⟨W,H,px⟩ x y) (hm:m.ok) (hv:m.valid) (hq:q<16) (ht0:0≤top) (hrv : ¬ m.kind=2→ref.valid) (hrn:rn=ref.px.length) (hr:Sl w ra rn (ref.px.map (Value.int .i64))) (hrg : ¬ m.kind=2→∀ z,ra=some z→z.block≠g) :
 Calls Tryz.prog 35 #[.agg #[.int .i64 ref.w,.int .i64 ref.h,.slice ra rn rc],.agg #[.int .i64 W,.int .i64 H,.slice (some ⟨g,0,none⟩) n c],.int .i64 (x:Nat),.int .i64 (y:Nat),.agg (ic m.zs),.int .i64 q,.int .i64 top] w fun e w'=>e= .returned (.tuple #[])∧w'.ownsRow base 3 1 (.slice (some ⟨g,0,none⟩) n c) n ((bldS ref ⟨W,H,px⟩ x y m q top 4).map (Value.int .i64))∧w.grownBy w' (some g):=by
 by_cases hk:m.kind=2
 ·exact OB ref W H x y px m q top ra rn rc base g n c w own hp hm hv hq ht0 hk
 ·exact OC ref W H x y px m q top ra rn rc base g n c w own hp hm hv hq ht0 hk (hrv hk) hrn hr (hrg hk)
def GD (d j:Nat):Nat:=if d%2=0 then d-j else j
def Nm (d j:Nat)(s:Nat×List Int):Nat×List Int:=if GD d j<4∧d-GD d j<4 then(s.1+1,s.2.set s.1 (4*(GD d j:Int)+((d-GD d j:Nat):Int)))else(s.1,s.2)
def scIn (d:Nat)(s:Nat×List Int):Nat→Nat×List Int
 | 0=>s
 | j+1=>Nm d j (scIn d s j)
def Eq : Nat→Nat×List Int
 | 0=>(0,zl 16)
 | d+1=>scIn d (Eq d) (d+1)
def scanL : List Int := [0,1,4,8,5,2,3,6,9,12,13,10,7,11,14,15]
theorem OO : Eq 7=(16,scanL):=by decide
theorem QX : ∀ d,d<7→∀ j,j≤d+1→(scIn d (Eq d) j).2.length=16∧(scIn d (Eq d) j).1≤16∧(j<d+1→GD d j<4∧d-GD d j<4→(scIn d (Eq d) j).1<16):=by decide
theorem Ba : (Tryz.prog.info? 47).map (·.size)=some 16:=by kernel_rfl
theorem IF : (Tryz.prog.info? 47).map (·.zero)=some (some (.agg (ic (zl 16)))):=by kernel_rfl
theorem Kh (w:World):
 Calls Tryz.prog 140 #[] w fun e w'=>e= .returned (.agg (ic scanL))∧Ext w w':=by
 go_enter Tryz.func140,Tryz.ntmps140
 have r0:=(IB.new w 47 (zl 16)).alloc (.cells (ic (zl 16)) 47);have p0:=IB.new (w.alloc (.cells (ic (zl 16)) 47)) 47 (zl 16);have E0:=(Ext.alloc w (.cells (ic (zl 16)) 47)).trans (Ext.alloc _ (.cells (ic (zl 16)) 47));simp only[World.size_alloc]at p0;go_wp2_with (refine Au 47 rfl rfl 16 IF ?_;(try simp only[World.size_alloc]))
 go_loopw [2,7] (fun n i wr=>∃ d:Nat,d≤7∧i= .int .i64 d∧n= .int .i64 ((Eq d).1:Nat)∧Ext w wr∧IB wr w.heap.size 47 (zl 16)∧IB wr (w.heap.size+1) 47 (Eq d).2) (fun _ i _=>7-(intOf i).toNat)
 case atStart=>exact⟨0,by omega,rfl,rfl,E0,r0,p0⟩
 case round =>
  obtain⟨d,hd,rfl,rfl,E1,r1,p1⟩:=hrel;clear E0 r0 p0
  by_cases hlt:d<7
  ·have hd7:decide ((d:Int)<7)=true:=by simp;omega
   go_wp2_with fail
   go_loopw [2,12] (fun n i wr=>∃ j:Nat,j≤d+1∧i= .int .i64 j∧n= .int .i64 ((scIn d (Eq d) j).1:Nat)∧Ext w wr∧IB wr w.heap.size 47 (zl 16)∧IB wr (w.heap.size+1) 47 (scIn d (Eq d) j).2) (fun _ i _=>d+1-(intOf i).toNat)
   case atStart=>exact⟨0,by omega,rfl,rfl,E1,r1,p1⟩
   case round =>
    obtain⟨j,hj,rfl,rfl,E2,r2,p2⟩:=hrel;clear E1 r1 p1
    by_cases hlt2:j<d+1
    ·have hdj:decide ((j:Int)<(d:Int)+1)=true:=by simp;omega
     obtain⟨l1,l2,l3⟩:=QX d hlt j hj;have hst:scIn d (Eq d) (j+1)=Nm d j (scIn d (Eq d) j):=rfl;unfold Nm at hst;obtain⟨n,hn⟩:∃ n,n=(scIn d (Eq d) j).1:=⟨_,rfl⟩;obtain⟨zs,hzs⟩:∃ zs,zs=(scIn d (Eq d) j).2:=⟨_,rfl⟩;rw[←hn,←hzs]at hst;rw[←hn]at l2 l3⊢;rw[←hzs]at l1 p2;have Hst:=Aa hst;have L1:=Aa l1;have L3:=Aa (l3 hlt2);clear hst hn hzs l1 l3;obtain⟨rw',hrw⟩:∃ r,r=GD d j:=⟨_,rfl⟩;rw[←hrw]at Hst L3;have hrle:rw'≤d:=by rw[hrw];unfold GD;split <;> omega
     have hfr:=p2.frozen n
     by_cases hev:d%2=0
     ·have he:rw'=d-j:=by rw[hrw];unfold GD;rw[if_pos hev]
      have hm:((d:Int)%2 == 0)=true:=by simp;omega
      have hev2:=Aa hev;clear hev hrw
      by_cases h1:rw'<4
      ·have d1:decide (((d:Int)-(j:Int))<4)=true:=by simp;omega
       by_cases h2:d-rw'<4
       ·have d2:decide (((d:Int)-((d:Int)-(j:Int)))<4)=true:=by simp;omega
        have hn16:=L3.out ⟨h1,h2⟩;have hc:=p2.cell (i:=n) (by rw[L1.out];exact hn16);have hst:=Hst.out;rw[if_pos ⟨h1,h2⟩]at hst;have hv:4*((d:Int)-(j:Int))+((d:Int)-((d:Int)-(j:Int)))=4*(rw':Int)+((d-rw':Nat):Int):=by omega
        have Hv:=Aa hv;have HS:=Aa hst;clear hst hv Hst L3;go_wp2;go_roundw
        case rel=>exact⟨j+1,by omega,by go_num,by rw[HS.out];simp,Ext.grown E2 (Ax _ _ _ _) (fun q hq=>by cases hq;omega),r2.set_other (by omega),by rw[HS.out,←Hv.out];exact p2.set n _⟩
        case measure=>simp[intOf];omega
       ·have d2:decide (((d:Int)-((d:Int)-(j:Int)))<4)=false:=by simp;omega
        have hst:=Hst.out;rw[if_neg (fun h=>h2 h.2)]at hst;have HS:=Aa hst;clear hst Hst L3;go_wp2;go_roundw
        case rel=>exact⟨j+1,by omega,by go_num,by rw[HS.out],E2,r2,by rw[HS.out];exact p2⟩
        case measure=>simp[intOf];omega
      ·have d1:decide (((d:Int)-(j:Int))<4)=false:=by simp;omega
       have hst:=Hst.out;rw[if_neg (fun h=>h1 h.1)]at hst;have HS:=Aa hst;clear hst Hst L3;go_wp2;go_roundw
       case rel=>exact⟨j+1,by omega,by go_num,by rw[HS.out],E2,r2,by rw[HS.out];exact p2⟩
       case measure=>simp[intOf];omega
     ·have he:rw'=j:=by rw[hrw];unfold GD;rw[if_neg hev]
      have hm:((d:Int)%2 == 0)=false:=by simp;omega
      have hev2:=Aa hev;clear hev hrw
      by_cases h1:rw'<4
      ·have d1:decide ((j:Int)<4)=true:=by simp;omega
       by_cases h2:d-rw'<4
       ·have d2:decide (((d:Int)-(j:Int))<4)=true:=by simp;omega
        have hn16:=L3.out ⟨h1,h2⟩;have hc:=p2.cell (i:=n) (by rw[L1.out];exact hn16);have hst:=Hst.out;rw[if_pos ⟨h1,h2⟩]at hst;have hv:4*(j:Int)+((d:Int)-(j:Int))=4*(rw':Int)+((d-rw':Nat):Int):=by omega
        have Hv:=Aa hv;have HS:=Aa hst;clear hst hv Hst L3;go_wp2;go_roundw
        case rel=>exact⟨j+1,by omega,by go_num,by rw[HS.out];simp,Ext.grown E2 (Ax _ _ _ _) (fun q hq=>by cases hq;omega),r2.set_other (by omega),by rw[HS.out,←Hv.out];exact p2.set n _⟩
        case measure=>simp[intOf];omega
       ·have d2:decide (((d:Int)-(j:Int))<4)=false:=by simp;omega
        have hst:=Hst.out;rw[if_neg (fun h=>h2 h.2)]at hst;have HS:=Aa hst;clear hst Hst L3;go_wp2;go_roundw
        case rel=>exact⟨j+1,by omega,by go_num,by rw[HS.out],E2,r2,by rw[HS.out];exact p2⟩
        case measure=>simp[intOf];omega
      ·have d1:decide ((j:Int)<4)=false:=by simp;omega
       have hst:=Hst.out;rw[if_neg (fun h=>h1 h.1)]at hst;have HS:=Aa hst;clear hst Hst L3;go_wp2;go_roundw
       case rel=>exact⟨j+1,by omega,by go_num,by rw[HS.out],E2,r2,by rw[HS.out];exact p2⟩
       case measure=>simp[intOf];omega
    ·obtain rfl:j=d+1:=by omega
     have hdj:decide (((d+1:Nat):Int)<(d:Int)+1)=false:=by simp
     go_wp2;go_roundw
     case rel=>exact⟨d+1,by omega,by go_num,rfl,E2,r2,p2⟩
     case measure=>simp[intOf];omega
  ·obtain rfl:d=7:=by omega
   rw[OO]at p1
   replace p1:IB wr (w.heap.size+1) 47 scanL:=p1
   go_wp2_with (first|(refine Ab 47 _ rfl rfl p1 0 16 rfl _ Rm rfl Ba (by simp[scanL]) _ (by rw[Ak scanL 16 rfl]) ?_)|(refine Af 47 _ _ rfl rfl r1 0 16 rfl _ rfl scanL rfl Ba rfl (by simp[zl]) ?_;intro wf pf gf;refine Hid.out ?_))
   rw[Ap (by simp[zl,scanL])]at pf;have Ef:Ext w wf:=Ext.grown E1 gf (fun q hq=>by cases hq;omega);refine Aa ?_;go_wp2;exact bodyPost_ret (v := .agg (ic scanL)) (results_cell_row rfl _ _ w.heap.size 47 (ic scanL) (0,0) _ rfl pf Rm rfl (by rw[AJ];exact Ba)) rfl ⟨rfl,Ef⟩
def notT (T:TypeId)(o:Obj):Prop:=∀ cs fr,o ≠ .cells cs T fr
structure FR (B T : Nat) (w w' : World) : Prop where
 lo:Below B w w'
 ot:∀(i:Nat) (o:Obj),w.heap[i]?=some o→notT T o→w'.heap[i]?=some o
theorem FR.refl (B T:Nat)(w:World):FR B T w w:=⟨Below.refl _ _,fun _ _ h _=>h⟩
theorem FR.trans {B T:Nat}{a b c:World}(h:FR B T a b)(k:FR B T b c):FR B T a c:=⟨h.lo.trans k.lo,fun i o h1 h2=>k.ot i o (h.ot i o h1 h2) h2⟩
theorem FR.of_ext {B T:Nat}{w w':World}(h:Ext w w')(hB:B≤w.heap.size):FR B T w w':=⟨h.mono hB,fun _ _ h1 _=>h.blk h1⟩
theorem FR.of_row {B T s n:Nat}{v:Value}{xs:List Value}{w w':World}(o:w.ownsRow B T s v n xs)(g:w.grownBy w' v.ownBlock)(hB:B≤w.heap.size):FR B T w w':=by
 have hge:=Bt o;refine⟨⟨g.os,g.tape,g.output,g.size,fun k hk=>g.block k (by omega) (fun e=>by have:=hge k e.symm;omega)⟩,fun i ob h1 h2 => ?_⟩;refine(g.block i (lt_of_block h1) (fun e => ?_)).trans h1;rcases o.2 with⟨rfl,-⟩|⟨b,cap,cur,rfl,-,hb,-⟩
 ·cases e
 ·cases e;rw[hb]at h1;cases h1;exact h2 _ _ rfl
theorem FR.size {B T:Nat}{w w':World}(h:FR B T w w'):w.heap.size≤w'.heap.size:=h.lo.size
theorem FR.ext {B T:Nat}{a w w':World}(h:Ext a w)(f:FR B T w w')(hB:a.heap.size≤B):Ext a w':=Below.trans h (f.lo.mono hB)
theorem FR.ib {B T U b:Nat}{zs:List Int}{w w':World}(f:FR B T w w')(h:IB w b U zs)(hne:U≠T):IB w' b U zs:=f.ot b _ h (fun cs fr e=>by cases e;exact hne rfl)
theorem FR.blk {B T U b:Nat}{cs:Array Value}{fr:Nat×Nat}{w w':World}(f:FR B T w w')(h:w.heap[b]?=some (.cells cs U fr))(hne:U≠T):w'.heap[b]?=some (.cells cs U fr):=f.ot b _ h (fun cs fr e=>by cases e;exact hne rfl)
theorem FR.keeps {B T:Nat}{w w':World}(f:FR B T w w'):KeepsOthers w w':=⟨f.size,fun k o h1 h2=>f.ot k o h1 (fun cs fr e=>by subst e;cases h2)⟩
theorem FR.low {B T b:Nat}{o:Obj}{w w':World}(f:FR B T w w')(h:w.heap[b]?=some o)(hb:b<B):w'.heap[b]?=some o:=(f.lo.block b hb).trans h
theorem Pk (x:Int)(w:World)(h0:0≤x)(h1:x<65536):
 Calls Tryz.prog 150 #[.int .u64 x] w fun e w'=>e= .returned (.int .i64 (Lib.bitLen x.toNat))∧w'=w:=by
 by_cases hc:x<256
 ·have h2:x≤255:=by omega
  have l:=Lib.bitLen_le8' x h0 h2;have e8:=Lib.len8_of x h0 h2;go_enter Tryz.func150,Tryz.ntmps150
  go_wp2;go_ret
  refine⟨congrArg Ending.returned (congrArg (Value.int IntKind.i64) ?_),rfl⟩;first|rfl|(unfold wrap64;omega)
 ·have h2:0≤x/256:=by omega
  have h3:x/256≤255:=by omega
  have l:=Lib.bitLen_le8' (x/256) h2 h3;have e8:=Lib.len8_of (x/256) h2 h3;have s:=Lib.bitLen_shift8 x.toNat (by omega) (by omega);have e:(x/256).toNat=x.toNat/256:=by omega
  rw[e]at l e8;go_enter Tryz.func150,Tryz.ntmps150
  go_wp2;go_ret
  refine⟨congrArg Ending.returned (congrArg (Value.int IntKind.i64) ?_),rfl⟩;first|rfl|(unfold wrap64;omega)
theorem QQ (x:Int)(w:World)(h0:0≤x)(h1:x<65536):
 Calls Tryz.prog 138 #[.int .u64 x] w fun e w'=>e= .returned (.int .i64 (Lib.bitLen x.toNat))∧w=w':=by
 have hw:IntKind.u64.wrap x=x:=by rw[IntKind.wrap_u64];omega
 go_enter Tryz.func138,Tryz.ntmps138
 go_wp2_with fail
 refine(Pk x _ h0 h1).mono ?_
 rintro e w1 ⟨rfl,rfl⟩
 go_wp2;go_ret
 exact⟨rfl,rfl⟩
theorem Og {x k:Nat}(h1:2^k≤x)(h2:x<2^(k+1))(h3:x<2^64):Lib.bitLen x=k+1:=by
 rw[Lib.bitLen_shift k x h1 h3];have hp:0<2^k:=Nat.pow_pos (by decide);have e:x/2^k=1:=by
  rw[Nat.pow_succ]at h2;exact(Nat.div_eq_iff hp).2 ⟨by omega,by omega⟩
 rw[e];rfl
def kOf (n:Nat):Nat:=Nat.log2 (n+1)
theorem MO (n:Nat):2^kOf n≤n+1:=Nat.log2_self_le (by omega)
theorem Pj (n:Nat):n+1<2^(kOf n+1):=Nat.lt_log2_self
theorem MM {n:Nat}(h:n<32768):kOf n≤15:=by
 have h1:=MO n;refine Classical.byContradiction fun hk => ?_
 have h2:=Nat.pow_le_pow_right (show 0<2 by decide) (show 16≤kOf n by omega);have:(2:Nat)^16=65536:=by decide
 omega
def upL (b k:Nat):Nat→List Int
 | 0 => []
 | i+1=>upL b k i ++ [((b+min i 5:Nat):Int),if i=k then 0 else 1]
def dnL (m b k:Nat):Nat→List Int
 | 0 => []
 | j+1=>dnL m b k j ++ [((b+6:Nat):Int),((m/2^(k-1-j)%2:Nat):Int)]
def numL (n b:Nat):List Int:=upL b (kOf n) (kOf n+1)++dnL (n+1) b (kOf n) (kOf n)
def numN (n:Nat):Nat:=2*kOf n+1
theorem Bh {n:Nat}(h:n<32768):numN n≤31:=by have:=MM h;unfold numN;omega
def sidx (v:Int):Int:=if 0<v then 2*v-1 else -2*v
theorem Mn {v B:Int}(h1 : -B≤v)(h2:v≤B):0≤sidx v∧sidx v≤2*B:=by unfold sidx;split <;> omega
theorem BG (v:Int)(w:World)(h1 : -32767≤v)(h2:v≤32767):
 Calls Tryz.prog 105 #[.int .i64 v] w fun e w'=>e= .returned (.int .i64 (sidx v))∧w=w':=by
 unfold sidx;go_enter Tryz.func105,Tryz.ntmps105
 by_cases hc:0<v
 ·rw[if_pos hc];go_wp2;go_ret
  first|exact⟨rfl,rfl⟩|exact⟨by simp;omega,rfl⟩
 ·rw[if_neg hc];go_wp2;go_ret
  first|exact⟨rfl,rfl⟩|exact⟨by simp;omega,rfl⟩
theorem B6 (v:Int)(w:World)(h1 : -32767≤v)(h2:v≤32767):
 Calls Tryz.prog 128 #[.int .i64 v] w fun e w'=>e= .returned (.int .i64 (sidx v))∧w=w':=by
 unfold sidx;go_enter Tryz.func128,Tryz.ntmps128
 by_cases hc:0<v
 ·rw[if_pos hc];go_wp2_with fail
  refine(Az v (-32767) 32767 _ h1 h2).mono ?_
  rintro e w1 ⟨rfl,rfl⟩
  go_wp2;go_ret
  first|exact⟨rfl,rfl⟩|exact⟨by simp;omega,rfl⟩
 ·rw[if_neg hc];go_wp2_with fail
  refine(Az v (-32767) 32767 _ h1 h2).mono ?_
  rintro e w1 ⟨rfl,rfl⟩
  go_wp2;go_ret
  first|exact⟨rfl,rfl⟩|exact⟨by simp;omega,rfl⟩
end Go.Proofs.YtijnbalgnhigbaaGreatDoor
namespace Go.Proofs.YtijnbalgnhigbaaGreatDoor

open Go.RowKit
end Go.Proofs.YtijnbalgnhigbaaGreatDoor
namespace Go.Proofs.YtijnbalgnhigbaaGreatDoor
open Go.RowKit
def SlR (w:World)(b:Nat)(v:Value)(n:Nat)(lo hi:Int):Prop :=
 ∃(g:Nat) (xs:List Int),v= .slice (some ⟨g,0,none⟩) n n∧b≤g∧Sl w (some ⟨g,0,none⟩) n (xs.map (Value.int .i64))∧∀ x∈xs,lo≤x∧x≤hi
theorem SlR.grown {w w':World}{b B:Nat}{v:Value}{n:Nat}{lo hi:Int}(h:SlR w B v n lo hi)(e:w.grownBy w' (some b))(hb:b<B):SlR w' B v n lo hi:=by
 obtain⟨g,xs,h1,h2,h3,h4⟩:=h;exact⟨g,xs,h1,h2,h3.grown e (fun x hx he=>by simp at hx he;rw[←hx]at he;simp at he;omega),h4⟩
theorem SlR.set {w:World}{B q j:Nat}{u:Value}{v:Value}{n:Nat}{lo hi:Int}(h:SlR w B v n lo hi)(hq:q<B):SlR (w.setCell ⟨q,j,none⟩ u) B v n lo hi :=
 h.grown ⟨rfl,rfl,rfl,by simp,fun k _ hk=>heap_setCell_other w ⟨q,j,none⟩ k _ (fun e=>hk (by simp[e]))⟩ hq
def PtR (w:World)(b:Nat)(v:Value)(lo hi:Int):Prop :=
 ∃(g j:Nat) (y:Int),v= .pointer (some ⟨g,j,none⟩)∧b≤g∧w.cell? ⟨g,j,none⟩=some (.int .i64 y)∧lo≤y∧y≤hi
theorem PtR.grown {w w':World}{b B:Nat}{v:Value}{lo hi:Int}(h:PtR w B v lo hi)(e:w.grownBy w' (some b))(hb:b<B):PtR w' B v lo hi:=by
 obtain⟨g,j,y,h1,h2,h3,h4,h5⟩:=h;exact⟨g,j,y,h1,h2,e.cell h3 (by intro he;simp at he;omega),h4,h5⟩
theorem PtR.set {w:World}{B q j:Nat}{u:Value}{v:Value}{lo hi:Int}(h:PtR w B v lo hi)(hq:q<B):PtR (w.setCell ⟨q,j,none⟩ u) B v lo hi :=
 h.grown ⟨rfl,rfl,rfl,by simp,fun k _ hk=>heap_setCell_other w ⟨q,j,none⟩ k _ (fun e=>hk (by simp[e]))⟩ hq
theorem Ly {w:World}{b:Nat}{arr:Array Value}{T:TypeId}{i:Nat}{v:Value}(h:w.heap[b]?=some (.cells arr T (0,0)))(hi:arr[i]?=some v):w.cell? ⟨b,i,none⟩=some v:=by
 simp[World.cell?,h,hi]
theorem Iq (w:World)(vs:List Value)(T:TypeId):Sl (w.alloc (.cells vs.toArray T (0,0))) (some ⟨w.heap.size,0,none⟩) vs.length vs:=by
 refine⟨rfl,fun i hi=>⟨w.heap.size,0,rfl,?_⟩⟩;exact Ly (Aj _ _) (by simp[hi])
theorem SlR.at {w:World}{g b n:Nat}{l:List Int}{lo hi:Int}{i:Nat}(hne:b≤g)(s:Sl w (some ⟨g,0,none⟩) n (l.map (Value.int .i64)))(h:∀ x∈l,lo≤x∧x≤hi)(hi':i<n):PtR w b (.pointer (some ⟨g,i,none⟩)) lo hi:=by
 obtain⟨b',o',h1,h2⟩:=s.int hi';simp only[Option.some.injEq,Addr.mk.injEq,and_true]at h1;obtain⟨rfl,rfl⟩:=h1;rw[Nat.zero_add]at h2;have hl:i<l.length:=by rw[s.int_len];exact hi'
 have h3:=h (nth l i) (by rw[Cc _ _ hl];exact List.getElem_mem hl);exact⟨_,_,_,rfl,hne,h2,h3.1,h3.2⟩
theorem A5 : (Tryz.prog.info? 118).map (fun i=>(i.zero,i.size,i.bytes))=some (some (.agg #[.int .i64 0,.int .i64 0]),2,16):=by kernel_rfl
theorem Gd (w:World)(c b:Int):Sl (w.alloc (.cells #[.int .i64 c,.int .i64 b] 118)) (some ⟨w.heap.size,0,none⟩) 2 [.int .i64 c,.int .i64 b]:=Iq w [.int .i64 c,.int .i64 b] 118
theorem LF (a:Nat)(ha:a<9223372036854775808):bits .and .i64 (a:Int) 1=((a%2:Nat):Int):=by
 show IntKind.i64.wrap ((BitVec.ofInt 64 (a:Int) &&& BitVec.ofInt 64 ((1:Nat):Int)).toNat:Int)=_;rw[BitVec.toNat_and,D8 a ha,D8 1 (by decide),Nat.and_one_is_mod,IntKind.wrap_i64];omega
theorem ownc {w:World}{b e s n:Nat}{v:Value}{xs ys:List Value}(h:w.ownsRow b e s v n xs)(he:xs=ys):w.ownsRow b e s v n ys:=he▸h
theorem Is (v:Value)(N:Nat)(xs:List Int)(n b B:Nat)(w:World)(own:w.ownsRow B 118 2 v N (xs.map (Value.int .i64)))(hB:B≤w.heap.size)(hN:N≤1000000)(hn:n<32768)(hb:b≤100):
 Calls Tryz.prog 104 #[v,.int .i64 n,.int .i64 b] w fun e w'=>∃ a c,e= .returned (.slice a (N+numN n) c)∧w'.ownsRow B 118 2 (.slice a (N+numN n) c) (N+numN n) ((xs++numL n b).map (Value.int .i64))∧FR B 118 w w':=by
 obtain⟨k,hk⟩:∃ k,k=kOf n:=⟨_,rfl⟩;have hk15:=MM hn;have hbl:=Og (MO n) (Pj n) (by omega);rw[←hk]at hk15 hbl;have HK:=Aa (show numL n b=upL b k (k+1)++dnL (n+1) b k k by rw[hk];rfl);have HKN:=Aa (show numN n=2*k+1 by rw[hk];rfl);have hw:IntKind.u64.wrap ((n:Int)+1)=((n+1:Nat):Int):=by rw[IntKind.wrap_u64];omega
 have F0:=FR.refl B 118 w;clear hk;go_enter Tryz.func104,Tryz.ntmps104
 go_wp2_with fail
 refine(QQ ((n:Int)+1) _ (by omega) (by omega)).mono ?_
 rintro e w1 ⟨rfl,rfl⟩
 rw[show((n:Int)+1).toNat=n+1 by omega,hbl];clear hbl hw;have hkk:((k+1:Nat):Int)-1=k:=by omega
 go_wp2_with fail
 go_loopw [0,18] (fun v y wr=>∃ i:Nat,i≤k+1∧y= .int .i64 i∧wr.ownsRow B 118 2 v (N+i) ((xs++upL b k i).map (Value.int .i64))∧FR B 118 w wr) (fun _ y _=>k+1-(intOf y).toNat)
 case atStart=>exact⟨0,by omega,rfl,by simpa [upL] using own,F0⟩
 case round =>
  obtain⟨i,hi,rfl,o1,F1⟩:=hrel;clear own F0;obtain⟨a1,c1,rfl⟩:=Al o1;have hB1:=Nat.le_trans hB F1.size
  by_cases hlt:i<k+1
  ·have hd:decide ((i:Int)<(k:Int)+1)=true:=by simp;omega
   by_cases hik:i=k
   ·subst hik;have HNX:=Aa (show upL b i (i+1)=upL b i i ++ [(b:Int)+min (i:Int) 5,0] by rw[upL,if_pos rfl];congr 2;omega);have hd2:((i:Int) == (i:Int))=true:=by simp
    go_wp2_with (at_builtin;go_loud (refine Aw _ rfl (o1.alloc _) (by simp;omega) _ _ 88 rfl (.agg #[.int .i64 0,.int .i64 0]) 16 Ru A5 rfl (by decide) rfl ⟨wr.heap.size,0,none⟩ 1 1 [.int .i64 _,.int .i64 _] rfl rfl ((Gd wr _ _).cellsOf _ (by simp)) (by intro u hu;simp at hu;rcases hu with rfl|rfl <;> rfl) (by omega) (by omega) ?_;intro v2 w2 own2 gr2 _;refine Hid.out ?_))
    all_goals
     refine Aa ?_;obtain⟨a2,c2,rfl⟩:=Al own2;have F2:=(F1.trans (FR.of_ext (Ext.alloc wr (.cells #[_,_] 118)) hB1)).trans (FR.of_row (o1.alloc _) gr2 (by simp;omega));go_wp2;go_roundw
     case rel=>exact⟨i+1,by omega,by go_num,ownc own2 (by rw[HNX.out];simp),F2⟩
     case measure=>simp[intOf] <;> omega
   ·have HNX:=Aa (show upL b k (i+1)=upL b k i ++ [(b:Int)+min (i:Int) 5,1] by rw[upL,if_neg hik];congr 2;omega);have hd2:((i:Int) == (k:Int))=false:=by simp;omega
    go_wp2_with (at_builtin;go_loud (refine Aw _ rfl (o1.alloc _) (by simp;omega) _ _ 88 rfl (.agg #[.int .i64 0,.int .i64 0]) 16 Ru A5 rfl (by decide) rfl ⟨wr.heap.size,0,none⟩ 1 1 [.int .i64 _,.int .i64 _] rfl rfl ((Gd wr _ _).cellsOf _ (by simp)) (by intro u hu;simp at hu;rcases hu with rfl|rfl <;> rfl) (by omega) (by omega) ?_;intro v2 w2 own2 gr2 _;refine Hid.out ?_))
    all_goals
     refine Aa ?_;obtain⟨a2,c2,rfl⟩:=Al own2;have F2:=(F1.trans (FR.of_ext (Ext.alloc wr (.cells #[_,_] 118)) hB1)).trans (FR.of_row (o1.alloc _) gr2 (by simp;omega));go_wp2;go_roundw
     case rel=>exact⟨i+1,by omega,by go_num,ownc own2 (by rw[HNX.out];simp),F2⟩
     case measure=>simp[intOf] <;> omega
  ·have HI:=Aa (show i=k+1 by omega);have hd:decide ((i:Int)<(k:Int)+1)=false:=by simp;omega
   go_wp2_with fail
   go_loopw [0,10] (fun v y wr=>∃ J:Nat,J≤k∧y= .int .i64 ((J:Int)-1)∧wr.ownsRow B 118 2 v (N+(k+1)+(k-J)) ((xs++upL b k (k+1)++dnL (n+1) b k (k-J)).map (Value.int .i64))∧FR B 118 w wr) (fun _ y _=>((intOf y)+1).toNat)
   case atStart=>exact⟨k,by omega,rfl,by have hI:=HI.out;subst hI;simpa [dnL] using o1,F1⟩
   case round =>
    obtain⟨J,hJ,rfl,o3,F3⟩:=hrel;clear o1 F1 hi hlt hd;obtain⟨a3,c3,rfl⟩:=Al o3;have hB3:=Nat.le_trans hB F3.size;cases J with
    | zero =>
     have hd3:decide ((0:Int)≤((0:Nat):Int)-1)=false:=by simp
     have hc:N+(k+1)+(k-0)=N+numN n:=by rw[HKN.out];omega
     have ho:=Aa (show(xs++upL b k (k+1)++dnL (n+1) b k (k-0))=xs++numL n b by rw[HK.out,←List.append_assoc];rfl);rw[hc]at o3⊢;rw[ho.out]at o3;clear hc;go_wp2;go_ret
     exact⟨_,_,rfl,o3,F3⟩
    | succ J' =>
     rw[show(((J'+1:Nat):Int)-1)=(J':Int) by omega];have hd3:decide ((0:Int)≤(J':Int))=true:=by simp
     have hq:((n:Int)+1)/2^J'=(((n+1)/2^J':Nat):Int):=by simp
     have hand:=LF ((n+1)/2^J') (by have:=Nat.div_le_self (n+1) (2^J');omega);rw[←hq]at hand;clear hq;have hkJ:k-(J'+1)+1=k-J':=by omega
     have HNX:=Aa (show dnL (n+1) b k (k-J')=dnL (n+1) b k (k-(J'+1)) ++ [(b:Int)+6,(((n+1)/2^J'%2:Nat):Int)] by rw[←hkJ,dnL,show k-1-(k-(J'+1))=J' by omega];congr 2);have HC:=Aa (show N+(k+1)+(k-(J'+1))+1=N+(k+1)+(k-J') by omega);clear hkJ;go_wp2_with (at_builtin;go_loud (refine Aw _ rfl (o3.alloc _) (by simp;omega) _ _ 88 rfl (.agg #[.int .i64 0,.int .i64 0]) 16 Ru A5 rfl (by decide) rfl ⟨wr.heap.size,0,none⟩ 1 1 [.int .i64 _,.int .i64 _] rfl rfl ((Gd wr _ _).cellsOf _ (by simp)) (by intro u hu;simp at hu;rcases hu with rfl|rfl <;> rfl) (by omega) (by omega) ?_;intro v2 w2 own2 gr2 _;refine Hid.out ?_))
     refine Aa ?_;obtain⟨a2,c2,rfl⟩:=Al own2;have F2:=(F3.trans (FR.of_ext (Ext.alloc wr (.cells #[_,_] 118)) hB3)).trans (FR.of_row (o3.alloc _) gr2 (by simp;omega));rw[HC.out]at own2⊢;have own3:=ownc own2 (show _=(xs++upL b k (k+1)++dnL (n+1) b k (k-J')).map (Value.int .i64) by rw[HNX.out];simp);clear own2 hand;go_wp2;go_roundw
     case rel=>exact⟨J',by omega,by go_num,own3,F2⟩
     case measure=>simp[intOf] <;> omega
theorem Qv {b k:Nat}{i:Nat}(h:i<k):upL b k (i+1)=upL b k i ++ [(b:Int)+min (i:Int) 5,1]:=by
 rw[upL,if_neg (by omega)];congr 2;omega
theorem PM (b k:Nat):upL b k (k+1)=upL b k k ++ [(b:Int)+min (k:Int) 5,0]:=by
 rw[upL,if_pos rfl];congr 2;omega
theorem Pv {i:Nat}(h:i≤15):2^(i+1)≤65536:=Nat.pow_le_pow_right (by decide) (show i+1≤16 by omega)
theorem Kb (n b:Nat)(w:World)(hn:n<32768)(hb:b≤100):
 Calls Tryz.prog 127 #[.int .i64 n,.int .i64 b] w fun e w'=>∃ a c,e= .returned (.slice a (numN n) c)∧w'.ownsRow w.heap.size 118 2 (.slice a (numN n) c) (numN n) ((numL n b).map (Value.int .i64))∧Ext w w':=by
 obtain⟨k,hk⟩:∃ k,k=kOf n:=⟨_,rfl⟩;have hk15:=MM hn;have hlo:=MO n;have hhi:=Pj n;rw[←hk]at hk15 hlo hhi;have HK:=Aa (show numL n b=upL b k (k+1)++dnL (n+1) b k k by rw[hk];rfl);have HKN:=Aa (show numN n=2*k+1 by rw[hk];rfl);have HLO:=Aa hlo;have HHI:=Aa hhi;obtain⟨W,hW⟩:∃ W,W=w.heap.size:=⟨_,rfl⟩;have F0:FR w.heap.size 118 w (w.alloc (.cells #[] 118)):=FR.of_ext (Ext.alloc w _) (Nat.le_refl _);have o0:=World.ownsRow_made (base:=w.heap.size) (e:=118) (size:=2) w #[] 0 (Nat.le_refl _) (by simp) rfl;rw[←hW]at F0 o0⊢;have hWw:W≤w.heap.size:=by omega
 have HW:=Aa hW;clear hk hlo hhi;go_enter Tryz.func127,Tryz.ntmps127
 go_wp2_with fail
 rw[←hW];clear hW;go_loopw [5,6] (fun v y wr=>∃ i:Nat,i≤k∧y= .int .i64 i∧wr.ownsRow W 118 2 v i ((upL b k i).map (Value.int .i64))∧FR W 118 w wr) (fun _ y _=>k-(intOf y).toNat)
 case atStart=>exact⟨0,by omega,rfl,by simpa [upL] using o0,F0⟩
 case round =>
  obtain⟨i,hi,rfl,o1,F1⟩:=hrel;clear o0 F0;obtain⟨a1,c1,rfl⟩:=Al o1;have hB1:=Nat.le_trans hWw F1.size;have hp:=Pv (show i≤15 by omega);have hpi:(2:Int)^(i+1)=((2^(i+1):Nat):Int):=by simp
  have hp0:=Nat.pow_pos (show 0<2 by decide) (n:=i+1);have hsh:wrap64 (2*2^i)=(2:Int)^(i+1):=by
   have e:(2:Int)*2^i=2^(i+1):=by rw[Int.pow_succ,Int.mul_comm]
   rw[e,hpi];unfold wrap64;omega
  have HPI:=Aa hpi;clear hpi
  by_cases hlt:i<k
  ·have hd:decide ((2:Int)^(i+1)≤(n:Int)+1)=true:=by
    have:=Nat.pow_le_pow_right (show 0<2 by decide) (show i+1≤k by omega);have:=HLO.out;rw[HPI.out];simp only[decide_eq_true_eq];omega
   have HNX:=Aa (Qv (b:=b) hlt);go_wp2_with (at_builtin;go_loud (refine Aw _ rfl (o1.alloc _) (by simp;omega) _ _ 88 rfl (.agg #[.int .i64 0,.int .i64 0]) 16 Ru A5 rfl (by decide) rfl ⟨wr.heap.size,0,none⟩ 1 1 [.int .i64 _,.int .i64 _] rfl rfl ((Gd wr _ _).cellsOf _ (by simp)) (by intro u hu;simp at hu;rcases hu with rfl|rfl <;> rfl) (by omega) (by omega) ?_;intro v2 w2 own2 gr2 _;refine Hid.out ?_))
   refine Aa ?_;obtain⟨a2,c2,rfl⟩:=Al own2;have F2:=(F1.trans (FR.of_ext (Ext.alloc wr (.cells #[_,_] 118)) hB1)).trans (FR.of_row (o1.alloc _) gr2 (by simp;omega));have own3:=ownc own2 (show _=(upL b k (i+1)).map (Value.int .i64) by rw[HNX.out];simp);clear own2 hsh;go_wp2;go_roundw
   case rel=>exact⟨i+1,by omega,by go_num,own3,F2⟩
   case measure=>simp[intOf] <;> omega
  ·have HI:=Aa (show i=k by omega);have hd:decide ((2:Int)^(i+1)≤(n:Int)+1)=false:=by
    have:=HHI.out;rw[HPI.out,HI.out];simp only[decide_eq_false_iff_not];omega
   go_wp2_with (at_builtin;go_loud (refine Aw _ rfl (o1.alloc _) (by simp;omega) _ _ 88 rfl (.agg #[.int .i64 0,.int .i64 0]) 16 Ru A5 rfl (by decide) rfl ⟨wr.heap.size,0,none⟩ 1 1 [.int .i64 _,.int .i64 _] rfl rfl ((Gd wr _ _).cellsOf _ (by simp)) (by intro u hu;simp at hu;rcases hu with rfl|rfl <;> rfl) (by omega) (by omega) ?_;intro v2 w2 own2 gr2 _;refine Hid.out ?_))
   refine Aa ?_;obtain⟨a2,c2,rfl⟩:=Al own2;have F2:=(F1.trans (FR.of_ext (Ext.alloc wr (.cells #[_,_] 118)) hB1)).trans (FR.of_row (o1.alloc _) gr2 (by simp;omega));have own3:=ownc own2 (show _=(upL b k (k+1)).map (Value.int .i64) by rw[PM,HI.out];simp);clear own2 hsh hd o1 F1 hlt hi;go_wp2_with fail
   go_loopw [5,7] (fun v y wr=>∃ J:Nat,J≤k∧y= .int .i64 ((J:Int)-1)∧wr.ownsRow W 118 2 v (k+1+(k-J)) ((upL b k (k+1)++dnL (n+1) b k (k-J)).map (Value.int .i64))∧FR W 118 w wr) (fun _ y _=>((intOf y)+1).toNat)
   case atStart=>exact⟨k,by omega,by rw[HI.out];congr 1;unfold wrap64;omega,by have hI:=HI.out;subst hI;simpa [dnL] using own3,F2⟩
   case round =>
    obtain⟨J,hJ,rfl,o3,F3⟩:=hrel;clear own3 F2;obtain⟨a3,c3,rfl⟩:=Al o3;have hB3:=Nat.le_trans hWw F3.size;cases J with
    | zero =>
     have hd3:decide ((0:Int)≤((0:Nat):Int)-1)=false:=by simp
     have hc:k+1+(k-0)=numN n:=by rw[HKN.out];omega
     have ho:=Aa (show(upL b k (k+1)++dnL (n+1) b k (k-0))=numL n b by rw[HK.out];rfl);rw[hc]at o3⊢;rw[ho.out]at o3;clear hc;go_wp2;go_ret
     exact⟨_,_,rfl,o3,by show Below w.heap.size w wr;rw[←HW.out];exact F3.lo⟩
    | succ J' =>
     rw[show(((J'+1:Nat):Int)-1)=(J':Int) by omega];have hd3:decide ((0:Int)≤(J':Int))=true:=by simp
     have hq:((n:Int)+1)/2^J'=(((n+1)/2^J':Nat):Int):=by simp
     have hkJ:k-(J'+1)+1=k-J':=by omega
     have HNX:=Aa (show dnL (n+1) b k (k-J')=dnL (n+1) b k (k-(J'+1)) ++ [(b:Int)+6,((n:Int)+1)/2^J'%2] by rw[←hkJ,dnL,show k-1-(k-(J'+1))=J' by omega];congr 2);have HC:=Aa (show k+1+(k-(J'+1))+1=k+1+(k-J') by omega);have HTM:=Aa (show(((n:Int)+1)/2^J').tmod 2=((n:Int)+1)/2^J'%2 from Int.tmod_eq_emod_of_nonneg (hq▸Int.natCast_nonneg _));clear hkJ hq;go_wp2_with (at_builtin;go_loud (refine Aw _ rfl (o3.alloc _) (by simp;omega) _ _ 88 rfl (.agg #[.int .i64 0,.int .i64 0]) 16 Ru A5 rfl (by decide) rfl ⟨wr.heap.size,0,none⟩ 1 1 [.int .i64 _,.int .i64 _] rfl rfl ((Gd wr _ _).cellsOf _ (by simp)) (by intro u hu;simp at hu;rcases hu with rfl|rfl <;> rfl) (by omega) (by omega) ?_;intro v2 w2 own2 gr2 _;refine Hid.out ?_))
     refine Aa ?_;obtain⟨a2,c2,rfl⟩:=Al own2;have F2:=(F3.trans (FR.of_ext (Ext.alloc wr (.cells #[_,_] 118)) hB3)).trans (FR.of_row (o3.alloc _) gr2 (by simp;omega));rw[HC.out]at own2⊢;have own3:=ownc own2 (show _=(upL b k (k+1)++dnL (n+1) b k (k-J')).map (Value.int .i64) by rw[HNX.out];simp;exact HTM.out);clear own2;go_wp2;go_roundw
     case rel=>exact⟨J',by omega,by go_num,own3,F2⟩
     case measure=>simp[intOf] <;> omega
end Go.Proofs.YtijnbalgnhigbaaGreatDoor
namespace Go.Proofs.YtijnbalgnhigbaaGreatDoor

open Go.RowKit
end Go.Proofs.YtijnbalgnhigbaaGreatDoor
namespace Go.Proofs.YtijnbalgnhigbaaGreatDoor
open Go.RowKit
def bdI (B:Int)(zs:List Int):Prop:=∀ j,j<zs.length → -B≤nth zs j∧nth zs j≤B
theorem PY {B:Int}{zs:List Int}{i:Nat}{v:Int}(h:bdI B zs)(h1 : -B≤v)(h2:v≤B):bdI B (zs.set i v):=by
 intro j hj;rw[List.length_set]at hj
 by_cases hij:i=j
 ·subst hij;rw[EV _ _ _ hj];omega
 ·rw[GW _ _ _ _ hij];exact h j hj
def IQ (B:Int)(w:World)(q T n:Nat):Prop:=∃ zs,IB w q T zs∧zs.length=n∧bdI B zs
theorem IQ.gr {B:Int}{w w':World}{q T n b:Nat}(h:IQ B w q T n)(g:w.grownBy w' (some b))(hne:q≠b):IQ B w' q T n:=by
 obtain⟨zs,h1,h2,h3⟩:=h;exact⟨zs,h1.gr g (by simp;omega),h2,h3⟩
theorem IQ.ext {B:Int}{w w':World}{q T n:Nat}(h:IQ B w q T n)(e:Ext w w'):IQ B w' q T n:=by
 obtain⟨zs,h1,h2,h3⟩:=h;exact⟨zs,h1.ext e,h2,h3⟩
theorem IQ.set {B:Int}{w:World}{q T n:Nat}(h:IQ B w q T n)(i:Nat)(v:Int)(h1 : -B≤v)(h2:v≤B):IQ B (w.setCell ⟨q,i,none⟩ (.int .i64 v)) q T n:=by
 obtain⟨zs,k1,k2,k3⟩:=h;exact⟨zs.set i v,k1.set i v,by simpa using k2,PY k3 h1 h2⟩
theorem IQ.cell {B:Int}{w:World}{q T n:Nat}(h:IQ B w q T n){i:Nat}(hi:i<n):∃ v:Int,w.cell? ⟨q,i,none⟩=some (.int .i64 v)∧w.frozen? ⟨q,i,none⟩=false ∧ -B≤v∧v≤B:=by
 obtain⟨zs,k1,rfl,k3⟩:=h;exact⟨_,k1.cell hi,k1.frozen i,k3 i hi⟩
theorem IQ.lt {B:Int}{w:World}{q T n:Nat}(h:IQ B w q T n):q<w.heap.size:=by
 obtain⟨zs,k1,-⟩:=h;exact k1.lt
theorem IQ.set_other {B:Int}{w:World}{q c i T n:Nat}{v:Value}(h:IQ B w q T n)(hne:q≠c):IQ B (w.setCell ⟨c,i,none⟩ v) q T n:=by
 obtain⟨zs,k1,k2,k3⟩:=h;exact⟨zs,k1.set_other hne,k2,k3⟩
attribute [local go_sem] Oper.semAt_some
def runT (zs:List Int):Nat→Nat×List (Int×Int)
 | 0=>(0,[])
 | k+1=>if nth zs (nth scanL k).toNat=0 then((runT zs k).1+1,(runT zs k).2)else(0,(runT zs k).2 ++ [(((runT zs k).1:Int),nth zs (nth scanL k).toNat)])
def Ao (zs:List Int):List (Int×Int):=(runT zs 16).2
theorem Li (zs:List Int)(k:Nat):(runT zs k).1≤k:=by
 induction k with
 | zero=>exact Nat.le_refl _
 | succ k ih=>unfold runT;split <;> simp <;> omega
theorem JQ (zs:List Int)(k:Nat):(runT zs k).2.length≤k:=by
 induction k with
 | zero=>exact Nat.le_refl _
 | succ k ih=>unfold runT;split <;> simp <;> omega
theorem Dt (zs:List Int):(Ao zs).length≤16:=JQ zs 16
theorem JV : ∀ k,k<16→0≤nth scanL k∧nth scanL k≤15:=by decide
def rOk (B:Int)(x:Int×Int):Prop:=0≤x.1∧x.1≤15∧x.2≠0 ∧ -B≤x.2∧x.2≤B
abbrev Rn (B : Int) := { x : Int × Int // rOk B x }
def encR {B:Int}(x:Rn B):Array Value := #[.agg #[.int .i64 x.1.1,.int .i64 x.1.2]]
theorem G5 (n:Nat)(hn:1≤n)(Bs:Nat)(zs:List Int)(B:Int)(hl:zs.length=16)(hB:bdI B zs)(w:World)(hI:IB w Bs 47 zs):
 SeqStopsK Fence.wide n Tryz.prog 139 #[.pointer (some ⟨Bs,0,none⟩)] (encR (B:=B)) (keepB Bs) (fun xs=>xs.map (·.1)=Ao zs) (fun _=>True) 16 w:=by
 intro l J Jx W hW hJ hJx hY h0;have hB0:=hI.ext hW;refine callsIn_wide.2 ?_;have Hl:=Aa hl;have HY:=Aa hY;have HB:=Aa hB;clear hl hY hB hI hJx hW;go_enter Tryz.func139,Tryz.ntmps139
 go_wp2_with fail
 refine(Kh _).mono ?_
 rintro e w1 ⟨rfl,e1⟩
 have B1:=hB0.ext e1;have J1:J [] w1:=hJ [] W w1 none h0 ⟨e1.os,e1.tape,e1.output,e1.size,fun k hk _=>e1.block k hk⟩ (fun r hr=>by cases hr);clear hB0 h0 e1 hJ;go_wp2_with fail
 go_loopw [3,8] (fun z i wr=>∃(k:Nat) (pre:List (Rn B)),k≤16∧i= .int .i64 k∧z= .int .i64 ((runT zs k).1:Nat)∧pre.map (·.1)=(runT zs k).2∧J pre wr∧IB wr Bs 47 zs) (fun _ i _=>16-(intOf i).toNat)
 case atStart=>exact⟨0,[],by omega,rfl,rfl,rfl,J1,B1⟩
 case round =>
  obtain⟨k,pre,hk,rfl,rfl,hpl,Jr,Br⟩:=hrel;clear J1 B1
  by_cases hlt:k<16
  ·have hd:decide ((k:Int)<16)=true:=by simp;omega
   obtain⟨s0,s1⟩:=JV k hlt;have hst:runT zs (k+1)=if nth zs (nth scanL k).toNat=0 then((runT zs k).1+1,(runT zs k).2)else(0,(runT zs k).2 ++ [(((runT zs k).1:Int),nth zs (nth scanL k).toNat)]):=rfl;have hz:=Li zs k;have hln:=JQ zs k;obtain⟨q,hq⟩:∃ q:Nat,nth scanL k=(q:Int):=⟨(nth scanL k).toNat,by omega⟩;rw[hq,Int.toNat_natCast]at hst;rw[hq]at s0 s1;have hc:=Br.cell (i:=q) (by rw[Hl.out];omega);have hb:=HB.out q (by rw[Hl.out];omega);have Hst:=Aa hst;have Hq:=Aa hq;clear hst hq;generalize nth zs q=lv at *;obtain⟨z,hzz⟩:∃ z,z=(runT zs k).1:=⟨_,rfl⟩;rw[←hzz]at Hst hz⊢;have Hpl:=Aa hpl;clear hpl hzz
   by_cases h0:lv=0
   ·subst h0;go_wp2_with (refine AF 47 _ _ rfl rfl scanL rfl k 16 _ rfl rfl 3 Rm Rt AC hlt rfl ?_;rw[Hq.out])
    have hst:=Hst.out;rw[if_pos rfl]at hst;go_roundw
    case rel=>exact⟨k+1,pre,by omega,by go_num,by rw[hst];go_num,by rw[hst];exact Hpl.out,Jr,Br⟩
    case measure=>simp[intOf];omega
   ·have hd0:(lv == 0)=false:=by simpa using h0
    have hst:=Hst.out;rw[if_neg h0]at hst;have HST:=Aa hst;clear hst Hst;obtain⟨fn,tmps,assign,body,hy,hR⟩:=HY.out pre ⟨((z:Nat),lv),by exact⟨by simp,by simp;omega,h0,hb.1,hb.2⟩⟩ wr Jr (by have:=congrArg List.length Hpl.out;simp at this;omega);dsimp only[encR]at hy;go_upto_region 8 with(refine AF 47 _ _ rfl rfl scanL rfl k 16 _ rfl rfl 3 Rm Rt AC hlt rfl ?_;rw[Hq.out])
    refine(wpIn_wide (n:=n)).1 ?_
    gi_wp2
    refine hR.mono ?_
    rintro e W3 (⟨rfl,hJ3,hk3⟩|⟨rfl,hJx3⟩)
    ·gi_wp2
     go_wp2;have B3:IB W3 Bs 47 zs:=hk3.trans Br;go_roundw
     case rel=>exact⟨k+1,_,by omega,by go_num,by rw[HST.out];go_num,by rw[HST.out];simp[Hpl.out],hJ3,B3⟩
     case measure=>simp[intOf];omega
    ·gi_wp2
     go_wp2;refine bodyPost_ret (results_none rfl _ _ _) rfl ?_;exact⟨⟨_,rfl⟩,.inr ⟨_,trivial,hJx3⟩⟩
  ·obtain rfl:k=16:=by omega
   go_wp2;go_end0
   exact⟨⟨_,rfl⟩,.inl ⟨pre,hpl,Jr⟩⟩
theorem GZ (zs:List Int)(w:World):
 Calls Tryz.prog 107 #[.agg (ic zs)] w fun e w'=>e= .returned (.func (.func 139) #[] #[.pointer (some ⟨w.heap.size,0,none⟩)])∧w'=w.alloc (.cells (ic zs) 47):=by
 go_enter Tryz.func107,Tryz.ntmps107
 go_wp2;go_ret
 exact⟨rfl,rfl⟩
theorem Ea (zs:List Int)(w:World)(hl:zs.length=16)(B:Int)(hB:bdI B zs):
 Calls Tryz.prog 106 #[.agg (ic zs)] w fun e w'=>e= .returned (.int .i64 ((Ao zs).length:Nat))∧Ext w w':=by
 have Hl:=Aa hl;have HB:=Aa hB;have hr:=Dt zs;have p0:=(IB.new w 47 zs).alloc (.cells #[.int .i64 0] 3);have c0:=Aj (w.alloc (.cells (ic zs) 47)) (.cells #[.int .i64 0] 3);have E0:=(Ext.alloc w (.cells (ic zs) 47)).trans (Ext.alloc _ (.cells #[.int .i64 0] 3));simp only[World.size_alloc]at c0;clear hl hB;refine Ck 4 Tryz.func106 rfl ?_;simp only[Tryz.ntmps106,List.size_toArray,List.length_cons,List.length_nil,Nat.reduceAdd,Nat.reduceSub,Array.replicate_succ,Array.replicate_zero,List.push_toArray,List.append_toArray,List.nil_append,List.cons_append];go_wp2_with (refine Ab 47 _ rfl rfl p0 0 16 rfl _ Rm rfl Ba (by rw[Hl.out];omega) _ (by rw[Ak _ _ Hl.out]) ?_)
 refine(GZ zs _).mono ?_
 rintro e w1 ⟨rfl,rfl⟩
 simp only[World.size_alloc];obtain⟨c,hc⟩:∃ c,c=w.heap.size+1:=⟨_,rfl⟩;generalize hw1:(w.alloc (.cells (ic zs) 47)).alloc (.cells #[.int .i64 0] 3)=w1 at *;have hs:w1.heap.size=c+1:=by rw[←hw1,hc];simp
 rw[←hc]at c0⊢;have e2:=Ext.alloc w1 (.cells (ic zs) 47);have I2:=IB.new w1 47 zs;have c2:=e2.blk c0;have E2:=E0.trans e2;have hs2:(w1.alloc (.cells (ic zs) 47)).heap.size=c+2:=by simp[hs]
 rw[hs]at I2;have HC:=Aa hc;clear hc hw1 c0 p0 E0 e2;generalize w1.alloc (.cells (ic zs) 47)=w2 at *;go_upto_region 99 with fail
 refine(wpIn_wide (n:=4)).1 ?_;refine wpIn_rangeFunc_ownG rfl (by omega) (gf:=139) (lb := #[.pointer (some ⟨c+1,0,none⟩)]) rfl trivial (enters_of Tryz.func139 (by kernel_rfl) rfl)
  (G5 3 (by omega) (c+1) zs B Hl.out HB.out w2 I2) keepB.t (keepB.b (by omega)) (Below.refl _ _) (fun _=>rfl)
  (fun pre W=>W.heap[c]?=some (.cells #[.int .i64 (pre.length:Nat)] 3 (0,0))∧Ext w W) (fun _ _ _=>False)
  (fun pre W W' row hI hg hr=>⟨Ar hI.1 hg (fun e=>by have:=(hr _ e).1;omega),Ext.grown hI.2 hg (fun k e=>by have:=(hr k e).1;have:=HC.out;omega)⟩) (fun _ _ _ _ _ h _ _=>h) ⟨c2,E2⟩ ?a1 ?assign ?body ?done ?stop
 case assign =>
  intro l x W K hK;simp[encR]
  gi_wp2
  exact hK
 case body =>
  rintro l pre x W ⟨hc1,hE⟩ hlen
  obtain⟨hc0,hcc,hcf⟩:=bx1 hc1
  gi_wp2
  have h1:=heap_setCell_same W c 0 _ _ (.int .i64 ((pre.length:Int)+1)) hc1;exact⟨(KeepsOthers.setCell _ _ _).from _,Below.heap_setCell _ _ _ _ (by show c+1≠c;omega),by simpa using h1,Ext.grown hE (Ax _ _ _ _) (fun k e=>by cases e;have:=HC.out;omega)⟩
 case done =>
  rintro D ys W hD hS ⟨hc1,hE⟩ hK
  obtain⟨hc0,hcc,hcf⟩:=bx1 hc1;have hyl:=congrArg List.length hS;rw[List.length_map]at hyl;have HY:=Aa hyl;clear hyl hS;go_wp2;refine⟨by simp,.inl ⟨_,_,rfl,run_takeDeferred hK,?_⟩⟩;exact⟨_,results_tmp rfl _ _ _,by rw[←HY.out];rfl,GN hE (by have:=HC.out;omega) _⟩
 case stop =>
  rintro D c pre W _ _ h _
  exact h.elim
end Go.Proofs.YtijnbalgnhigbaaGreatDoor
namespace Go.Proofs.YtijnbalgnhigbaaGreatDoor
open Go.RowKit
def spY (d j:Nat):Nat:=if d%2=0 then 3-j else j
def spIn (d:Nat)(l:List Int):Nat→List Int
 | 0=>l
 | j+1=>if spY d j≤d∧d-spY d j≤3 then spIn d l j ++ [4*(spY d j:Int)+d-(spY d j:Int)]else spIn d l j
def Ct : Nat→List Int
 | 0 => []
 | d+1=>spIn d (Ct d) 4
theorem OP : Ct 7=scanL:=by decide
theorem QY : ∀ d,d<7→∀ j,j≤4→(spIn d (Ct d) j).length≤16:=by decide
theorem Kw : (Tryz.prog.info? 3).map (fun i=>(i.zero,i.size,i.bytes))=some (some (.int .i64 0),1,8):=by kernel_rfl
theorem Pi : (Tryz.prog.info? 125).map (fun i=>(i.zero,i.size,i.bytes))=some (some (.agg #[.int .i64 0,.int .i64 0]),2,16):=by kernel_rfl
theorem G9 (w:World):
 Calls Tryz.prog 152 #[] w fun e w'=>∃ a c,e= .returned (.slice a 16 c)∧w'.ownsRow w.heap.size 3 1 (.slice a 16 c) 16 (scanL.map (Value.int .i64))∧Ext w w':=by
 obtain⟨W,hW⟩:∃ W,W=w.heap.size:=⟨_,rfl⟩;have F0:FR w.heap.size 3 w (w.alloc (.cells #[] 3)):=FR.of_ext (Ext.alloc w _) (Nat.le_refl _);have o0:=World.ownsRow_made (base:=w.heap.size) (e:=3) (size:=1) w #[] 0 (Nat.le_refl _) (by simp) rfl;rw[←hW]at F0 o0⊢;have hWw:W≤w.heap.size:=by omega
 have HW:=Aa hW;go_enter Tryz.func152,Tryz.ntmps152
 go_wp2_with fail
 rw[←hW];clear hW;go_loopw [1,2] (fun v y wr=>∃ d:Nat,d≤7∧y= .int .i64 d∧wr.ownsRow W 3 1 v (Ct d).length ((Ct d).map (Value.int .i64))∧FR W 3 w wr) (fun _ y _=>7-(intOf y).toNat)
 case atStart=>exact⟨0,by omega,rfl,by simpa [Ct] using o0,F0⟩
 case round =>
  obtain⟨d,hd,rfl,o1,F1⟩:=hrel;clear o0 F0;obtain⟨a1,c1,rfl⟩:=Al o1
  by_cases hlt:d<7
  ·have hd7:decide ((d:Int)<7)=true:=by simp;omega
   go_wp2_with fail
   go_loopw [1,3] (fun v y wr=>∃ j:Nat,j≤4∧y= .int .i64 j∧wr.ownsRow W 3 1 v (spIn d (Ct d) j).length ((spIn d (Ct d) j).map (Value.int .i64))∧FR W 3 w wr) (fun _ y _=>4-(intOf y).toNat)
   case atStart=>exact⟨0,by omega,rfl,o1,F1⟩
   case round =>
    obtain⟨j,hj,rfl,o2,F2⟩:=hrel;clear o1 F1;obtain⟨a2,c2,rfl⟩:=Al o2;have hB2:=Nat.le_trans hWw F2.size
    by_cases hlt2:j<4
    ·have hd4:decide ((j:Int)<4)=true:=by simp;omega
     have hln:=QY d hlt j (by omega);have HST:=Aa (show spIn d (Ct d) (j+1)=if spY d j≤d∧d-spY d j≤3 then spIn d (Ct d) j ++ [4*(spY d j:Int)+d-(spY d j:Int)]else spIn d (Ct d) j from rfl);obtain⟨L,hL⟩:∃ L,L=spIn d (Ct d) j:=⟨_,rfl⟩;rw[←hL]at HST o2 hln⊢;have hyr:spY d j≤3:=by unfold spY;split <;> omega
     have hyd:(d%2=0∧spY d j=3-j)∨(d%2=1∧spY d j=j):=by
      unfold spY
      by_cases h:d%2=0
      ·rw[if_pos h];exact .inl ⟨h,rfl⟩
      ·rw[if_neg h];exact .inr ⟨by omega,rfl⟩
     generalize spY d j=y at *;clear hL;rcases hyd with⟨he,rfl⟩|⟨he,rfl⟩
     ·have hdm:((d:Int).tmod 2 == 0)=true:=by
       rw[Int.tmod_eq_emod_of_nonneg (by omega)];simp;omega
      go_wp2_with fail
      by_cases hin:3-j≤d∧d-(3-j)≤3
      ·refine(Az ((d:Int)-(3-(j:Int))) 0 3 _ (by omega) (by omega)).mono ?_
       rintro e w3 ⟨rfl,rfl⟩
       go_wp2_with (at_builtin;refine CH _ o2 hB2 _ rfl _ _ 22 rfl (.int .i64 0) 8 Rv Kw rfl rfl rfl rfl (by omega) (by omega) ?_;intro v3 w3 own3 gr3 _;refine Hid.out ?_)
       refine Aa ?_;obtain⟨a3,c3,rfl⟩:=Al own3;have F3:=F2.trans (FR.of_row o2 gr3 hB2);have HN:=Aa (show spIn d (Ct d) (j+1)=L ++ [4*(3-(j:Int))+d-(3-(j:Int))] by rw[HST.out,if_pos hin];congr 2;omega);clear HST;go_wp2;go_roundw
       case rel=>exact⟨j+1,by omega,by go_num,by rw[HN.out,List.length_append,List.map_append];exact own3,F3⟩
       case measure=>simp[intOf] <;> omega
      ·refine(BU ((d:Int)-(3-(j:Int))) 0 3 _ (by omega)).mono ?_
       rintro e w3 ⟨rfl,rfl⟩
       have HN:=Aa (show spIn d (Ct d) (j+1)=L by rw[HST.out,if_neg hin]);clear HST;go_wp2;go_roundw
       case rel=>exact⟨j+1,by omega,by go_num,by rw[HN.out];exact o2,F2⟩
       case measure=>simp[intOf] <;> omega
     ·have hdm:((d:Int).tmod 2 == 0)=false:=by
       rw[Int.tmod_eq_emod_of_nonneg (by omega)];simp;omega
      go_wp2_with fail
      by_cases hin:y≤d∧d-y≤3
      ·refine(Az ((d:Int)-(y:Int)) 0 3 _ (by omega) (by omega)).mono ?_
       rintro e w3 ⟨rfl,rfl⟩
       go_wp2_with (at_builtin;refine CH _ o2 hB2 _ rfl _ _ 22 rfl (.int .i64 0) 8 Rv Kw rfl rfl rfl rfl (by omega) (by omega) ?_;intro v3 w3 own3 gr3 _;refine Hid.out ?_)
       refine Aa ?_;obtain⟨a3,c3,rfl⟩:=Al own3;have F3:=F2.trans (FR.of_row o2 gr3 hB2);have HN:=Aa (show spIn d (Ct d) (y+1)=L ++ [4*(y:Int)+d-(y:Int)] by rw[HST.out,if_pos hin]);clear HST;go_wp2;go_roundw
       case rel=>exact⟨y+1,by omega,by go_num,by rw[HN.out,List.length_append,List.map_append];exact own3,F3⟩
       case measure=>simp[intOf] <;> omega
      ·refine(BU ((d:Int)-(y:Int)) 0 3 _ (by omega)).mono ?_
       rintro e w3 ⟨rfl,rfl⟩
       have HN:=Aa (show spIn d (Ct d) (y+1)=L by rw[HST.out,if_neg hin]);clear HST;go_wp2;go_roundw
       case rel=>exact⟨y+1,by omega,by go_num,by rw[HN.out];exact o2,F2⟩
       case measure=>simp[intOf] <;> omega
    ·have HJ:=Aa (show j=4 by omega);have hd4:decide ((j:Int)<4)=false:=by simp;omega
     have HO:=Aa (show spIn d (Ct d) j=Ct (d+1) by rw[HJ.out];rfl);rw[HO.out]at o2⊢;go_wp2;go_roundw
     case rel=>exact⟨d+1,by omega,by go_num,o2,F2⟩
     case measure=>simp[intOf] <;> omega
  ·have HD:=Aa (show d=7 by omega);have hd7:decide ((d:Int)<7)=false:=by simp;omega
   have HO:=Aa (show Ct d=scanL by rw[HD.out];exact OP);rw[HO.out,show scanL.length=16 from rfl]at o1⊢;go_wp2;go_ret
   exact⟨_,_,rfl,o1,by show Below w.heap.size w wr;rw[←HW.out];exact F1.lo⟩
theorem FR.owns {b0 T U b s n:Nat}{v:Value}{xs:List Value}{w w':World}(f:FR b0 T w w')(h:w.ownsRow b U s v n xs)(hne:U≠T):w'.ownsRow b U s v n xs:=by
 refine⟨h.1,?_⟩;rcases h.2 with h2|⟨g,cap,cur,hv,hb,hg,rest⟩
 ·exact .inl h2
 ·exact .inr ⟨g,cap,cur,hv,hb,f.blk hg hne,rest⟩
theorem Bq {w:World}{b U s n:Nat}{a:Option Addr}{c:Nat}{xs:List Value}(h:w.ownsRow b U s (.slice a n c) n xs)(hn:0<n):∃ g,a=some ⟨g,0,none⟩:=by
 rcases h.2 with⟨-,h0⟩|⟨g,cap,cur,hv,-⟩
 ·omega
 ·simp only[Value.slice.injEq]at hv;exact⟨g,hv.1⟩
theorem B9 (zs:List Int):∀ u∈zs.map (Value.int .i64),u.oneCell'=true:=by
 intro u hu;obtain⟨z,-,rfl⟩:=List.mem_map.1 hu;rfl
theorem Qq (w:World)(c b:Int):Sl (w.alloc (.cells #[.int .i64 c,.int .i64 b] 125)) (some ⟨w.heap.size,0,none⟩) 2 [.int .i64 c,.int .i64 b]:=Iq w [.int .i64 c,.int .i64 b] 125
def Fz (l:List (Int×Int)):List Int:=l.flatMap fun r => [r.1,r.2]
theorem MF (l:List (Int×Int))(r:Int×Int):Fz (l ++ [r])=Fz l ++ [r.1,r.2]:=by simp[Fz]
theorem Kt : ∀ l:List (Int×Int),(Fz l).length=l.length*2
 | []=>rfl
 | r::l=>by
  have:=Kt l;simp only[Fz,List.flatMap_cons,List.length_append,List.length_cons,List.length_nil]at this⊢;omega
theorem KC : ∀(l:List (Int×Int)) (k:Nat),k<l.length→nth (Fz l) (k*2)=(l.getD k (0,0)).1∧nth (Fz l) (k*2+1)=(l.getD k (0,0)).2
 | [],k,h=>by simp at h
 | r::l,0,_=>⟨rfl,rfl⟩
 | r::l,k+1,h=>by
  have ih:=KC l k (by simpa using h);have e:Fz (r::l)=r.1::r.2::Fz l:=rfl;rw[e,show(k+1)*2=k*2+1+1 by omega];exact ih
theorem Mk {zs:List Int}{Bd:Int}(hl:zs.length=16)(hB:bdI Bd zs):∀ k,k≤16→∀ j,j<(runT zs k).2.length→0≤((runT zs k).2.getD j (0,0)).1∧((runT zs k).2.getD j (0,0)).1≤15∧((runT zs k).2.getD j (0,0)).2≠0 ∧ -Bd≤((runT zs k).2.getD j (0,0)).2∧((runT zs k).2.getD j (0,0)).2≤Bd
 | 0,_,j,h=>by simp[runT]at h
 | k+1,hk,j,h=>by
  have ih:=Mk hl hB k (by omega);have hz:=Li zs k;unfold runT at h⊢
  by_cases h0:nth zs (nth scanL k).toNat=0
  ·rw[if_pos h0]at h⊢;exact ih j h
  ·rw[if_neg h0]at h⊢;simp only[List.length_append,List.length_cons,List.length_nil]at h
   by_cases hj:j<(runT zs k).2.length
   ·have e:((runT zs k).2 ++ [(((runT zs k).1:Int),nth zs (nth scanL k).toNat)]).getD j (0,0)=(runT zs k).2.getD j (0,0):=by
     simp[List.getD,List.getElem?_append_left hj]
    rw[e];exact ih j hj
   ·have hj2:j=(runT zs k).2.length:=by omega
    have e:((runT zs k).2 ++ [(((runT zs k).1:Int),nth zs (nth scanL k).toNat)]).getD j (0,0)=(((runT zs k).1:Int),nth zs (nth scanL k).toNat):=by
     rw[hj2];simp[List.getD]
    obtain⟨s0,s1⟩:=JV k (by omega);have hb:=hB (nth scanL k).toNat (by omega);rw[e];exact⟨by omega,by omega,h0,hb.1,hb.2⟩
def bkL (zs:List Int):Nat→List Int
 | 0=>numL (Ao zs).length 16
 | k+1=>bkL zs k++(numL ((Ao zs).getD k (0,0)).1.toNat 23++numL (sidx ((Ao zs).getD k (0,0)).2-1).toNat 30)
def bkN (zs:List Int):Nat→Nat
 | 0=>numN (Ao zs).length
 | k+1=>bkN zs k+(numN ((Ao zs).getD k (0,0)).1.toNat+numN (sidx ((Ao zs).getD k (0,0)).2-1).toNat)
def blkB (zs:List Int):List Int:=bkL zs (Ao zs).length
def blkC (zs:List Int):Nat:=bkN zs (Ao zs).length
theorem Mj {zs:List Int}(hl:zs.length=16)(hB:bdI 4080 zs){k:Nat}(hk:k<(Ao zs).length):∃ z s:Nat,((Ao zs).getD k (0,0)).1=z∧z≤15∧sidx ((Ao zs).getD k (0,0)).2-1=s∧s≤8160 ∧ -4080≤((Ao zs).getD k (0,0)).2∧((Ao zs).getD k (0,0)).2≤4080:=by
 obtain⟨h1,h2,h3,h4,h5⟩:=Mk hl hB 16 (Nat.le_refl _) k hk;show ∃ z s:Nat,((runT zs 16).2.getD k (0,0)).1=z∧z≤15∧sidx ((runT zs 16).2.getD k (0,0)).2-1=s∧s≤8160 ∧ -4080≤((runT zs 16).2.getD k (0,0)).2∧((runT zs 16).2.getD k (0,0)).2≤4080;generalize (runT zs 16).2.getD k (0,0)=r at *;refine⟨r.1.toNat,(sidx r.2-1).toNat,by omega,by omega,?_,?_,h4,h5⟩
 ·unfold sidx;split <;> omega
 ·unfold sidx;split <;> omega
theorem Mx {zs:List Int}(hl:zs.length=16)(hB:bdI 4080 zs):∀ k,k≤(Ao zs).length→bkN zs k≤31+k*62
 | 0,_=>by have:=Dt zs;exact Bh (by omega)
 | k+1,hk=>by
  have ih:=Mx hl hB k (by omega);obtain⟨z,s,e1,h1,e2,h2,-,-⟩:=Mj hl hB (show k<(Ao zs).length by omega);have q1:numN ((Ao zs).getD k (0,0)).1.toNat≤31:=Bh (by omega);have q2:numN (sidx ((Ao zs).getD k (0,0)).2-1).toNat≤31:=Bh (by omega);rw[bkN];omega
theorem Ew {zs:List Int}(hl:zs.length=16)(hB:bdI 4080 zs):blkC zs≤1023:=by
 have h1:=Mx hl hB _ (Nat.le_refl _);have h2:=Dt zs;unfold blkC;omega
theorem IW (zs:List Int)(w:World)(hl:zs.length=16):
 Calls Tryz.prog 147 #[.agg (ic zs)] w fun e w'=>∃ a c,e= .returned (.slice a (Ao zs).length c)∧w'.ownsRow w.heap.size 125 2 (.slice a (Ao zs).length c) (Ao zs).length ((Fz (Ao zs)).map (Value.int .i64))∧Ext w w':=by
 have Hl:=Aa hl;obtain⟨Bx,hBx⟩:∃ Bx,Bx=w.heap.size:=⟨_,rfl⟩;have E0:=(Ext.alloc w (.cells (ic zs) 47)).trans (Ext.alloc _ (.cells #[] 125));have I0:=(IB.new w 47 zs).alloc (.cells #[] 125);have o0:=World.ownsRow_made (base:=Bx+1) (e:=125) (size:=2) (w.alloc (.cells (ic zs) 47)) #[] 0 (by simp[hBx]) (by simp) rfl;have z0:Bx+1≤((w.alloc (.cells (ic zs) 47)).alloc (.cells #[] 125)).heap.size:=by simp[hBx]
 rw[World.size_alloc]at o0;rw[←hBx]at I0 o0;have HB:=Aa hBx;clear hl;go_enter Tryz.func147,Tryz.ntmps147
 go_wp2_with fail
 try simp only[World.size_alloc]
 rw[←hBx];clear hBx;generalize (w.alloc (.cells (ic zs) 47)).alloc (.cells #[] 125)=w1 at *;refine(G9 _).mono ?_
 rintro e w2 ⟨ga,gc,rfl,og,e2⟩
 obtain⟨g,rfl⟩:=Bq og (by omega);have I2:=I0.ext e2;have o2:=Ae o0 e2;have E2:=E0.trans e2;have z2:=Nat.le_trans z0 e2.size;have F2:=FR.refl (Bx+1) 125 w2;have oz:=World.ownsRow_nil w2 0 3 1;clear I0 o0 E0 z0 e2;go_wp2_with fail
 go_loopw [3,5,6] (fun v zr y wr=>∃ k:Nat,k≤16∧y= .int .i64 k∧zr= .int .i64 ((runT zs k).1:Nat)∧wr.ownsRow (Bx+1) 125 2 v (runT zs k).2.length ((Fz (runT zs k).2).map (Value.int .i64))∧FR (Bx+1) 125 w2 wr) (fun _ _ y _=>16-(intOf y).toNat)
 case atStart=>exact⟨0,by omega,rfl,rfl,o2,F2⟩
 case round =>
  obtain⟨k,hk,rfl,rfl,o3,F3⟩:=hrel;clear o2 F2;obtain⟨a3,c3,rfl⟩:=Al o3;have hB3:=Nat.le_trans z2 F3.size
  by_cases hlt:k<16
  ·have hd:decide ((k:Int)<16)=true:=by simp;omega
   obtain⟨s0,s1⟩:=JV k hlt;have HST:=Aa (show runT zs (k+1)=if nth zs (nth scanL k).toNat=0 then((runT zs k).1+1,(runT zs k).2)else(0,(runT zs k).2 ++ [(((runT zs k).1:Int),nth zs (nth scanL k).toNat)])from rfl);have hz:=Li zs k;have hln:=JQ zs k;obtain⟨q,hq⟩:∃ q:Nat,nth scanL k=(q:Int):=⟨(nth scanL k).toNat,by omega⟩;rw[hq,Int.toNat_natCast]at HST;rw[hq]at s0 s1;have og3:=Sl.of_owns (F3.owns og (by decide));obtain⟨g1,o1,he,hcg⟩:=og3.int hlt;rw[hq]at hcg;cases he;rw[Nat.zero_add]at hcg;have hcl:=(F3.ib I2 (by decide)).cell (i:=q) (by rw[Hl.out];omega);obtain⟨z,hzz⟩:∃ z,z=(runT zs k).1:=⟨_,rfl⟩;obtain⟨R,hR⟩:∃ R,R=(runT zs k).2:=⟨_,rfl⟩;rw[←hzz,←hR]at HST;rw[←hzz]at hz⊢;rw[←hR]at o3 hln⊢;generalize nth zs q=lv at *;clear hzz hR hq og3;have hq16:(q:Int)<16:=by omega
   by_cases h0:lv=0
   ·subst h0;have HS:=Aa (show runT zs (k+1)=(z+1,R) by rw[HST.out,if_pos rfl]);clear HST;go_wp2;go_roundw
    case rel=>exact⟨k+1,by omega,by go_num,by rw[HS.out];go_num,by rw[HS.out];exact o3,F3⟩
    case measure=>simp[intOf] <;> omega
   ·have hd0:(lv == 0)=false:=by simpa using h0
    have HS:=Aa (show runT zs (k+1)=(0,R ++ [((z:Int),lv)]) by rw[HST.out,if_neg h0]);clear HST;go_wp2_with (at_builtin;refine Aw _ rfl (o3.alloc _) (by simp;omega) _ _ 156 rfl (.agg #[.int .i64 0,.int .i64 0]) 16 Tryz.underlying156 Pi rfl (by decide) rfl ⟨wr.heap.size,0,none⟩ 1 1 [.int .i64 _,.int .i64 _] rfl rfl ((Qq wr _ _).cellsOf _ (by simp)) (by intro u hu;simp at hu;rcases hu with rfl|rfl <;> rfl) (by omega) (by omega) ?_;intro v2 w2 own2 gr2 _;refine Hid.out ?_)
    refine Aa ?_;obtain⟨a4,c4,rfl⟩:=Al own2;have F4:=(F3.trans (FR.of_ext (Ext.alloc wr (.cells #[_,_] 125)) hB3)).trans (FR.of_row (o3.alloc _) gr2 (by simp;omega));go_wp2;go_roundw
    case rel=>exact⟨k+1,by omega,by go_num,by rw[HS.out];rfl,by rw[HS.out,MF,List.length_append,List.map_append];exact own2,F4⟩
    case measure=>simp[intOf] <;> omega
  ·have HK:=Aa (show k=16 by omega);have hd:decide ((k:Int)<16)=false:=by simp;omega
   have HR:=Aa (show(runT zs k).2=Ao zs by rw[HK.out];rfl);rw[HR.out]at o3⊢;have hlo:Below (Bx+1) w2 wr:=F3.lo;go_wp2;go_ret
   exact⟨_,_,rfl,AH o3 (by have:=HB.out;omega),Below.trans E2 (hlo.mono (by have:=HB.out;omega))⟩
theorem DK (n:Nat):0<numN n:=by unfold numN;omega
theorem QB {w:World}{b U g n c:Nat}{l:List Int}(h:w.ownsRow b U 2 (.slice (some ⟨g,0,none⟩) n c) n (l.map (Value.int .i64))){j:Nat}(hj:j<l.length):w.cell? ⟨g,j,none⟩=some (.int .i64 (nth l j)):=by
 have h1:=h.cells (g:=g) rfl j (.int .i64 (nth l j)) (by rw[List.getElem?_map,List.getElem?_eq_getElem hj,Cc _ _ hj];rfl);have e:(⟨g,0,none⟩:Addr).add j=⟨g,j,none⟩:=by unfold Addr.add;split <;> simp_all
 rwa [e]at h1
theorem BN (n b:Nat)(bi:Int)(hbi:bi=(b:Int))(w:World)(hn:n<32768)(hb:b≤100):
 Calls Tryz.prog 127 #[.int .i64 n,.int .i64 bi] w fun e w'=>∃ a c,e= .returned (.slice a (numN n) c)∧w'.ownsRow w.heap.size 118 2 (.slice a (numN n) c) (numN n) ((numL n b).map (Value.int .i64))∧Ext w w':=by
 subst hbi;exact Kb n b w hn hb
theorem ET (zs:List Int)(w:World)(hl:zs.length=16)(hB:bdI 4080 zs):
 Calls Tryz.prog 129 #[.agg (ic zs)] w fun e w'=>∃ a c,e= .returned (.slice a (blkC zs) c)∧w'.ownsRow w.heap.size 118 2 (.slice a (blkC zs) c) (blkC zs) ((blkB zs).map (Value.int .i64))∧Ext w w':=by
 have Hl:=Aa hl;have HBd:=Aa hB;have hR:=Dt zs;obtain⟨Bx,hBx⟩:∃ Bx,Bx=w.heap.size:=⟨_,rfl⟩;have E0:=Ext.alloc w (.cells (ic zs) 47);have I0:=IB.new w 47 zs;have z0:Bx+1≤(w.alloc (.cells (ic zs) 47)).heap.size:=by simp[hBx]
 have HBx:=Aa hBx;clear hl hB;go_enter Tryz.func129,Tryz.ntmps129
 go_wp2_with (refine Ab 47 _ rfl rfl I0 0 16 rfl _ Rm rfl Ba (by rw[Hl.out];omega) _ (by rw[Ak _ _ Hl.out]) ?_)
 try rw[←hBx]
 generalize w.alloc (.cells (ic zs) 47)=w1 at *;refine(IW zs _ Hl.out).mono ?_
 rintro e w2 ⟨ra,rc,rfl,or2,e2⟩
 have E2:=E0.trans e2;have z2:=Nat.le_trans z0 e2.size;obtain⟨R,hRR⟩:∃ R,R=(Ao zs).length:=⟨_,rfl⟩;rw[←hRR]at or2 hR⊢;have HRR:=Aa hRR;have HC0:=Aa (show numN R=bkN zs 0 by rw[hRR];rfl);have HL0:=Aa (show numL R 16=bkL zs 0 by rw[hRR];rfl);clear hRR E0 I0 z0 e2 hBx;go_wp2_with fail
 refine(BN R 16 16 rfl _ (by omega) (by omega)).mono ?_
 rintro e w3 ⟨na,nc,rfl,on3,e3⟩
 have or3:=Ae or2 e3;have E3:=E2.trans e3;have z3:=Nat.le_trans z2 e3.size;have o3:=AH on3 z2;have F3:=FR.refl (Bx+1) 118 w3;rw[HC0.out,HL0.out]at o3;rw[HC0.out];clear or2 E2 z2 e3 on3;go_wp2_with fail
 go_loopw [4,5] (fun v y wr=>∃ k:Nat,k≤R∧y= .int .i64 k∧wr.ownsRow (Bx+1) 118 2 v (bkN zs k) ((bkL zs k).map (Value.int .i64))∧FR (Bx+1) 118 w3 wr) (fun _ y _=>R-(intOf y).toNat)
 case atStart=>exact⟨0,by omega,rfl,o3,F3⟩
 case round =>
  obtain⟨k,hk,rfl,o4,F4⟩:=hrel;clear o3 F3;obtain⟨a4,c4,rfl⟩:=Al o4;have hB4:=Nat.le_trans z3 F4.size
  by_cases hlt:k<R
  ·have hd:decide ((k:Int)<R)=true:=by simp;omega
   obtain⟨z,s,e1,h1,e2,h2,h3,h4⟩:=Mj Hl.out HBd.out (show k<(Ao zs).length by rw[←HRR.out];exact hlt);have or4:=F4.owns or3 (by decide);obtain⟨g,rfl⟩:=Bq or4 (by omega);have hfl:=Kt (Ao zs);rw[←HRR.out]at hfl;obtain⟨n1,n2⟩:=KC (Ao zs) k (by rw[←HRR.out];exact hlt);have cz:=QB or4 (j:=k*2) (by omega);rw[n1,e1]at cz;obtain⟨lv,hlv⟩:∃ lv,lv=((Ao zs).getD k (0,0)).2:=⟨_,rfl⟩;have HC:=Aa (show bkN zs (k+1)=bkN zs k+(numN z+numN s) by rw[bkN,e1,e2];simp);have HLs:=Aa (show bkL zs (k+1)=bkL zs k++(numL z 23++numL s 30) by rw[bkL,e1,e2];simp);have hbn:=Mx Hl.out HBd.out k (by rw[←HRR.out];omega);have q1:=Bh (show z<32768 by omega);have q2:=Bh (show s<32768 by omega);have p1:=DK z;have p2:=DK s;have Hcl:=Aa (fun(wx:World) (f:FR (Bx+1) 118 w3 wx)=>(show wx.cell? ⟨g,k*2+1,none⟩=some (.int .i64 lv) by rw[hlv,←n2];exact QB (f.owns or3 (by decide)) (by omega)));have HE2:=Aa (show sidx lv-1=(s:Int) by rw[hlv];exact e2);rw[←hlv]at h3 h4;clear hlv e1 e2 n1 n2 hfl or4;go_wp2_with fail
   refine(BN z 23 23 rfl _ (by omega) (by omega)).mono ?_
   rintro e w5 ⟨a5,c5,rfl,o5,e5⟩
   obtain⟨g5,rfl⟩:=Bq o5 p1;have o4':=Ae o4 e5;have F5:=F4.trans (FR.of_ext e5 hB4);have hB5:=Nat.le_trans hB4 e5.size;go_wp2_with (at_builtin;refine Aw _ rfl o4' hB5 _ _ 88 rfl (.agg #[.int .i64 0,.int .i64 0]) 16 Ru A5 rfl (by decide) rfl _ _ _ _ rfl o5.1 (o5.cells rfl) (B9 _) (by omega) (by omega) ?_;intro v2 w2 own2 gr2 _;refine Hid.out ?_)
   refine Aa ?_;obtain⟨a6,c6,rfl⟩:=Al own2;have F6:=F5.trans (FR.of_row o4' gr2 hB5);have hB6:=Nat.le_trans hB5 gr2.size;have o6:=own2;have cl6:=Hcl.out _ F6;clear own2 o5 o4' o4 F5 F4 e5 gr2 cz;go_wp2_with fail
   refine(B6 lv _ (by omega) (by omega)).mono ?_
   rintro e w7 ⟨rfl,rfl⟩
   rw[show Value.int IntKind.i64 (sidx lv)=Value.int IntKind.i64 ((s:Int)+1) by rw[←HE2.out];congr 1;omega];go_wp2_with fail
   refine(BN s 30 30 rfl _ (by omega) (by omega)).mono ?_
   rintro e w7 ⟨a7,c7,rfl,o7,e7⟩
   obtain⟨g7,rfl⟩:=Bq o7 p2;have o6':=Ae o6 e7;have F7:=F6.trans (FR.of_ext e7 hB6);have hB7:=Nat.le_trans hB6 e7.size;go_wp2_with (at_builtin;refine Aw _ rfl o6' hB7 _ _ 88 rfl (.agg #[.int .i64 0,.int .i64 0]) 16 Ru A5 rfl (by decide) rfl _ _ _ _ rfl o7.1 (o7.cells rfl) (B9 _) (by omega) (by omega) ?_;intro v2 w2 own2 gr2 _;refine Hid.out ?_)
   refine Aa ?_;obtain⟨a8,c8,rfl⟩:=Al own2;have F8:=F7.trans (FR.of_row o6' gr2 hB7);have o8:=ownc own2 (show _=(bkL zs (k+1)).map (Value.int .i64) by rw[HLs.out];simp);have HC3:=Aa (show bkN zs k+numN z+numN s=bkN zs (k+1) by rw[HC.out];omega);rw[HC3.out]at o8⊢;clear own2 o7 o6' o6 F7 F6 e7 gr2 cl6 Hcl;go_wp2;go_roundw
   case rel=>exact⟨k+1,by omega,by go_num,o8,F8⟩
   case measure=>simp[intOf] <;> omega
  ·have HKR:=Aa (show k=R by omega);have hd:decide ((k:Int)<R)=false:=by simp;omega
   have H1:=Aa (show bkN zs k=blkC zs by rw[HKR.out,HRR.out];rfl);have H2:=Aa (show bkL zs k=blkB zs by rw[HKR.out,HRR.out];rfl);rw[H1.out,H2.out]at o4;rw[H1.out];have hlo:=F4.lo;go_wp2;go_ret
   exact⟨_,_,rfl,AH o4 (by have:=HBx.out;omega),Below.trans E3 (hlo.mono (by have:=HBx.out;omega))⟩
theorem Mv {Bd:Int}{zs:List Int}(h:inB Bd zs=true):bdI Bd zs:=by
 intro j hj;unfold inB at h;rw[List.all_eq_true]at h;have:=h _ (List.getElem_mem hj);rw[Cc zs j hj]
 simpa using this
theorem OV {Bd:Int}{zs:List Int}(h:bdI Bd zs)(o n:Nat)(hl:o+n≤zs.length):bdI Bd (sub zs o n):=by
 intro j hj;rw[Bv _ _ _ hl]at hj;rw[D4 _ _ _ _ hj];exact h _ (by omega)
def hdL (m:Mac):List Int := [0,1,1,m.kind-1]
def mvL (m:Mac):List Int:=numL (sidx m.x).toNat 2++numL (sidx m.y).toNat 2
def mdL (m:Mac):Nat→List Int
 | 0 => []
 | k+1=>mdL m k++numL (nth m.modes k).toNat 9
def mdN (m:Mac):Nat→Nat
 | 0=>0
 | k+1=>mdN m k+numN (nth m.modes k).toNat
def miL (m:Mac):List Int:=hdL m++(if m.kind=1 then mvL m else mdL m 4)
def miN (m:Mac):Nat:=2+(if m.kind=1 then numN (sidx m.x).toNat+numN (sidx m.y).toNat else mdN m 4)
def lvBn (m:Mac):Nat→List Int
 | 0=>miL m
 | k+1=>lvBn m k++blkB (sub m.lv (k*16) 16)
def lvNn (m:Mac):Nat→Nat
 | 0=>miN m
 | k+1=>lvNn m k+blkC (sub m.lv (k*16) 16)
def macL (m:Mac):List Int:=if m.kind=0 then [0,0]else lvBn m 4
def macN (m:Mac):Nat:=if m.kind=0 then 1 else lvNn m 4
theorem JI {m:Mac}(hv:m.valid)(h2:m.kind=2){k:Nat}(hk:k<4):∃ z:Nat,nth m.modes k=z∧z≤4:=by
 have:=hv.2.2.2.2.1 h2 k hk;exact⟨(nth m.modes k).toNat,by omega,by omega⟩
theorem GU {m:Mac}(hv:m.valid)(h2:m.kind=2):∀ k,k≤4→mdN m k≤k*31
 | 0,_=>Nat.le_refl _
 | k+1,hk=>by
  have ih:=GU hv h2 k (by omega);obtain⟨z,e,h⟩:=JI hv h2 (show k<4 by omega);have:=Bh (show(nth m.modes k).toNat<32768 by omega);rw[mdN];omega
theorem Nf {m:Mac}(hv:m.valid):∃ a b:Nat,sidx m.x=a∧a≤32∧sidx m.y=b∧b≤32:=by
 obtain⟨h1,h2,h3,h4⟩:=hv.2.1;have q1:=Mn h1 h2;have q2:=Mn h3 h4;exact⟨(sidx m.x).toNat,(sidx m.y).toNat,by omega,by omega,by omega,by omega⟩
theorem QU {m:Mac}(hv:m.valid)(h0:m.kind≠0):miN m≤200:=by
 unfold miN
 by_cases h1:m.kind=1
 ·rw[if_pos h1];obtain⟨a,b,e1,l1,e2,l2⟩:=Nf hv;have:=Bh (show(sidx m.x).toNat<32768 by omega);have:=Bh (show(sidx m.y).toNat<32768 by omega);omega
 ·rw[if_neg h1];have:=GU hv (by have:=hv.1;omega) 4 (Nat.le_refl _);omega
theorem JF {m:Mac}(hm:m.ok)(hv:m.valid){k:Nat}(hk:k<4):(sub m.lv (k*16) 16).length=16∧bdI 4080 (sub m.lv (k*16) 16):=by
 have hl:=hm.lv;exact⟨Bv _ _ _ (by omega),OV (Mv hv.2.2.2.2.2.2) _ _ (by omega)⟩
theorem Ic {m:Mac}(hm:m.ok)(hv:m.valid)(h0:m.kind≠0):∀ k,k≤4→lvNn m k≤200+k*1023
 | 0,_=>by have:=QU hv h0;rw[lvNn];omega
 | k+1,hk=>by
  have ih:=Ic hm hv h0 k (by omega);obtain⟨h1,h2⟩:=JF hm hv (show k<4 by omega);have:=Ew h1 h2;rw[lvNn];omega
theorem Po (m:Mac):1≤macN m:=by
 unfold macN
 split
 ·exact Nat.le_refl _
 ·have:∀ k,1≤lvNn m k:=fun k=>by
   induction k with
   | zero=>rw[lvNn,miN];omega
   | succ k ih=>rw[lvNn];omega
  exact this 4
theorem Jb {m:Mac}(hm:m.ok)(hv:m.valid):macN m≤5000:=by
 unfold macN
 split
 ·omega
 ·have:=Ic hm hv (by assumption) 4 (Nat.le_refl _);omega
theorem Ho (zs:List Int):0<blkC zs:=by
 have:∀ k,0<bkN zs k:=fun k=>by
  induction k with
  | zero=>exact DK _
  | succ k ih=>rw[bkN];omega
 exact this _
theorem Ka (m:Mac)(w:World)(hm:m.ok)(h0:m.kind=0):
 Calls Tryz.prog 82 #[.agg (ic m.zs),.bool false] w fun e w'=>∃ a c,e= .returned (.slice a (macN m) c)∧w'.ownsRow w.heap.size 118 2 (.slice a (macN m) c) (macN m) ((macL m).map (Value.int .i64))∧Ext w w':=by
 have I0:=(IB.new w 50 m.zs).alloc (.cells #[] 118);have Hl:=Aa (Mac.zs_len hm);have hk:=I0.cell (i:=0) (by rw[Mac.zs_len hm];omega);rw[Mac.zs_kind,h0]at hk;have E0:=((Ext.alloc w (.cells (ic m.zs) 50)).trans (Ext.alloc _ (.cells #[] 118))).trans (Ext.alloc _ (.cells #[.int .i64 0,.int .i64 0] 118));have HN:=Aa (show macN m=1 by rw[macN,if_pos h0]);have HL:=Aa (show macL m = [0,0] by rw[macL,if_pos h0]);have o9:=World.ownsRow_lit (base:=w.heap.size) (e:=118) (size:=2) ((w.alloc (.cells (ic m.zs) 50)).alloc (.cells #[] 118)) #[.int .i64 0,.int .i64 0] 1 (by simp;omega) (by unfold maxLen;omega) rfl;rw[World.size_alloc,World.size_alloc]at o9;clear h0;go_enter Tryz.func82,Tryz.ntmps82
 go_wp2;go_ret
 rw[HN.out,HL.out];exact⟨_,_,rfl,o9,E0⟩
theorem MQ (m:Mac)(w:World)(hm:m.ok)(hv:m.valid)(h1:m.kind=1):
 Calls Tryz.prog 82 #[.agg (ic m.zs),.bool false] w fun e w'=>∃ a c,e= .returned (.slice a (macN m) c)∧w'.ownsRow w.heap.size 118 2 (.slice a (macN m) c) (macN m) ((macL m).map (Value.int .i64))∧Ext w w':=by
 have Hl:=Aa (Mac.zs_len hm);have Hm:=Aa hm;have HV:=Aa hv;have HK0:=Aa (show m.kind≠0 by rw[h1];decide);have HK1:=Aa h1;obtain⟨Bx,hBx⟩:∃ Bx,Bx=w.heap.size:=⟨_,rfl⟩;have E0:=(Ext.alloc w (.cells (ic m.zs) 50)).trans (Ext.alloc _ (.cells #[] 118));have I0:=(IB.new w 50 m.zs).alloc (.cells #[] 118);have o0:=World.ownsRow_made (base:=Bx+1) (e:=118) (size:=2) (w.alloc (.cells (ic m.zs) 50)) #[] 0 (by simp[hBx]) (by simp) rfl;have z0:Bx+1≤((w.alloc (.cells (ic m.zs) 50)).alloc (.cells #[] 118)).heap.size:=by simp[hBx]
 rw[World.size_alloc]at o0;have hk:=I0.cell (i:=0) (by rw[Mac.zs_len hm];omega);have hx:=I0.cell (i:=1) (by rw[Mac.zs_len hm];omega);have hy:=I0.cell (i:=2) (by rw[Mac.zs_len hm];omega);rw[Mac.zs_kind,h1]at hk;rw[Mac.zs_x]at hx;rw[Mac.zs_y]at hy;rw[←hBx]at I0 o0 hk hx hy;have HBx:=Aa hBx;obtain⟨xa,ya,ex,lx,ey,ly⟩:=Nf hv;have HX:=Aa ex;have HY:=Aa ey;obtain⟨v1,v2,v3,v4⟩:=hv.2.1;have px:=Bh (show xa<32768 by omega);have py:=Bh (show ya<32768 by omega);have ppx:=DK xa;have ppy:=DK ya;have HMI:=Aa (show lvBn m 0 = [0,1,1,0]++(numL xa 2++numL ya 2) by rw[lvBn,miL,if_pos h1,hdL,mvL,ex,ey,h1];simp);have HMN:=Aa (show lvNn m 0=0+2+numN xa+numN ya by rw[lvNn,miN,if_pos h1,ex,ey];simp;omega);clear hm hv h1 ex ey;go_enter Tryz.func82,Tryz.ntmps82
 go_upto_region 2 with fail
 try simp only[World.size_alloc]
 rw[←hBx];clear hBx;generalize (w.alloc (.cells (ic m.zs) 50)).alloc (.cells #[] 118)=w1 at *;go_wp2_with (at_builtin;refine Aw _ rfl (o0.alloc _) (by simp;omega) _ _ 88 rfl (.agg #[.int .i64 0,.int .i64 0]) 16 Ru A5 rfl (by decide) rfl ⟨w1.heap.size,0,none⟩ 2 2 [.int .i64 0,.int .i64 1,.int .i64 1,.int .i64 _] rfl rfl ((Iq w1 [.int .i64 0,.int .i64 1,.int .i64 1,.int .i64 _] 118).cellsOf _ (by simp)) (by intro u hu;simp at hu;rcases hu with rfl|rfl|rfl|rfl <;> rfl) (by omega) (by omega) ?_;intro v2 w2 own2 gr2 _;refine Hid.out ?_)
 refine Aa ?_;obtain⟨a2,c2,rfl⟩:=Al own2;have F2:=(FR.of_ext (B:=Bx+1) (T:=118) (Ext.alloc w1 (.cells #[.int .i64 0,.int .i64 1,.int .i64 1,.int .i64 _] 118)) z0).trans (FR.of_row (o0.alloc _) gr2 (by simp;omega));have E2:Ext w w2:=Below.trans E0 (F2.lo.mono (by have:=HBx.out;omega));have z2:=Nat.le_trans z0 F2.size;have I2:=F2.ib I0 (by decide);have hx2:=I2.cell (i:=1) (by rw[Hl.out];omega);have hy2:=I2.cell (i:=2) (by rw[Hl.out];omega);have hk2:=I2.cell (i:=0) (by rw[Hl.out];omega);rw[Mac.zs_kind,HK1.out]at hk2;rw[Mac.zs_x]at hx2;rw[Mac.zs_y]at hy2;have o2:=ownc own2 (show _=([0,1,1,0]:List Int).map (Value.int .i64) by simp);clear own2 gr2 F2 E0 I0 o0 z0 hk hx hy;have hke:((1:Int) == 1)=true:=rfl;go_wp2_with fail
 refine(B6 m.x _ (by omega) (by omega)).mono ?_
 rintro e w3 ⟨rfl,rfl⟩
 rw[HX.out];go_wp2_with fail
 refine(BN xa 2 2 rfl _ (by omega) (by omega)).mono ?_
 rintro e w3 ⟨a3,c3,rfl,o3,e3⟩
 obtain⟨g3,rfl⟩:=Bq o3 ppx;have o2':=Ae o2 e3;have hB3:=Nat.le_trans z2 e3.size;have E3:=E2.trans e3;have I3:=I2.ext e3;clear o2 e3 I2 E2 hx2 hy2 hk2;go_wp2_with (at_builtin;refine Aw _ rfl o2' hB3 _ _ 88 rfl (.agg #[.int .i64 0,.int .i64 0]) 16 Ru A5 rfl (by decide) rfl _ _ _ _ rfl o3.1 (o3.cells rfl) (B9 _) (by omega) (by omega) ?_;intro v2 w2 own2 gr2 _;refine Hid.out ?_)
 refine Aa ?_;obtain⟨a4,c4,rfl⟩:=Al own2;have F4:=FR.of_row o2' gr2 hB3;have E4:Ext w w2:=Below.trans E3 (F4.lo.mono (by have:=HBx.out;omega));have z4:=Nat.le_trans hB3 F4.size;have I4:=F4.ib I3 (by decide);have hy4:=I4.cell (i:=2) (by rw[Hl.out];omega);rw[Mac.zs_y]at hy4;have o4:=own2;clear own2 gr2 F4 E3 I3 o2' o3 hB3;go_wp2_with fail
 refine(B6 m.y _ (by omega) (by omega)).mono ?_
 rintro e w5 ⟨rfl,rfl⟩
 rw[HY.out];go_wp2_with fail
 refine(BN ya 2 2 rfl _ (by omega) (by omega)).mono ?_
 rintro e w5 ⟨a5,c5,rfl,o5,e5⟩
 obtain⟨g5,rfl⟩:=Bq o5 ppy;have o4':=Ae o4 e5;have hB5:=Nat.le_trans z4 e5.size;have E5:=E4.trans e5;have I5:=I4.ext e5;clear o4 e5 I4 E4 hy4;go_wp2_with (at_builtin;refine Aw _ rfl o4' hB5 _ _ 88 rfl (.agg #[.int .i64 0,.int .i64 0]) 16 Ru A5 rfl (by decide) rfl _ _ _ _ rfl o5.1 (o5.cells rfl) (B9 _) (by omega) (by omega) ?_;intro v2 w3 own2 gr2 _;refine Hid.out ?_)
 refine Aa ?_;obtain⟨a6,c6,rfl⟩:=Al own2;have F6:=FR.of_row o4' gr2 hB5;have E3:Ext w w3:=Below.trans E5 (F6.lo.mono (by have:=HBx.out;omega));have z3:=Nat.le_trans hB5 F6.size;have I3:=F6.ib I5 (by decide);have o3:=ownc own2 (show _=(lvBn m 0).map (Value.int .i64) by rw[HMI.out];simp);rw[←HMN.out]at o3⊢;clear own2 gr2 F6 E5 I5 o4' o5 hB5;have F3:=FR.refl (Bx+1) 118 w3;go_wp2_with fail
 go_loopw [5,7] (fun v y wr=>∃ k:Nat,k≤4∧y= .int .i64 k∧wr.ownsRow (Bx+1) 118 2 v (lvNn m k) ((lvBn m k).map (Value.int .i64))∧FR (Bx+1) 118 w3 wr) (fun _ y _=>4-(intOf y).toNat)
 case atStart=>exact⟨0,by omega,rfl,o3,F3⟩
 case round =>
  obtain⟨k,hk,rfl,o4,F4⟩:=hrel;clear o3 F3;obtain⟨a4,c4,rfl⟩:=Al o4;have hB4:=Nat.le_trans z3 F4.size
  by_cases hlt:k<4
  ·have hd:decide ((k:Int)<4)=true:=by simp;omega
   obtain⟨l1,l2⟩:=JF Hm.out HV.out hlt;have hbc:=Ew l1 l2;have hln:=Ic Hm.out HV.out HK0.out k (by omega);have I4:=F4.ib I3 (by decide);have HLs:=Aa (show lvBn m (k+1)=lvBn m k++blkB (sub m.lv (k*16) 16)from rfl);have HC:=Aa (show lvNn m k+blkC (sub m.lv (k*16) 16)=lvNn m (k+1)from rfl);have HBK:=Aa (fun w=>ET (sub m.lv (k*16) 16) w l1 l2);have HZB:=Aa (Mac.zs_blk Hm.out k hlt);generalize sub m.lv (k*16) 16=bz at *;clear l1 l2;go_wp2_with (refine Ab 47 _ rfl rfl I4 (7+k*16) 16 rfl _ Rm rfl Ba (by rw[Hl.out];omega) _ (by rw[HZB.out]) ?_)
   refine(HBK.out _).mono ?_
   rintro e w5 ⟨a5,c5,rfl,o5,e5⟩
   have o4':=Ae o4 e5;have F5:=F4.trans (FR.of_ext e5 hB4);have hB5:=Nat.le_trans hB4 e5.size;obtain⟨g5,rfl⟩:=Bq o5 (Ho bz);go_wp2_with (at_builtin;refine Aw _ rfl o4' hB5 _ _ 88 rfl (.agg #[.int .i64 0,.int .i64 0]) 16 Ru A5 rfl (by decide) rfl _ _ _ _ rfl o5.1 (o5.cells rfl) (B9 _) (by omega) (by omega) ?_;intro v2 w2 own2 gr2 _;refine Hid.out ?_)
   refine Aa ?_;obtain⟨a6,c6,rfl⟩:=Al own2;have F6:=F5.trans (FR.of_row o4' gr2 hB5);have o6:=ownc own2 (show _=(lvBn m (k+1)).map (Value.int .i64) by rw[HLs.out];simp);rw[HC.out]at o6⊢;clear own2 o5 o4' o4 F5 F4 e5 gr2 I4;go_wp2;go_roundw
   case rel=>exact⟨k+1,by omega,by go_num,o6,F6⟩
   case measure=>simp[intOf] <;> omega
  ·have HKR:=Aa (show k=4 by omega);have hd:decide ((k:Int)<4)=false:=by simp;omega
   have H1:=Aa (show lvNn m k=macN m by rw[HKR.out,macN,if_neg HK0.out]);have H2:=Aa (show lvBn m k=macL m by rw[HKR.out,macL,if_neg HK0.out]);rw[H1.out,H2.out]at o4;rw[H1.out];have hlo:=F4.lo;go_wp2;go_ret
   exact⟨_,_,rfl,AH o4 (by have:=HBx.out;omega),Below.trans E3 (hlo.mono (by have:=HBx.out;omega))⟩
theorem MP (m:Mac)(w:World)(hm:m.ok)(hv:m.valid)(h1:m.kind=2):
 Calls Tryz.prog 82 #[.agg (ic m.zs),.bool false] w fun e w'=>∃ a c,e= .returned (.slice a (macN m) c)∧w'.ownsRow w.heap.size 118 2 (.slice a (macN m) c) (macN m) ((macL m).map (Value.int .i64))∧Ext w w':=by
 have Hl:=Aa (Mac.zs_len hm);have Hm:=Aa hm;have HV:=Aa hv;have HK0:=Aa (show m.kind≠0 by rw[h1];decide);have HK1:=Aa h1;obtain⟨Bx,hBx⟩:∃ Bx,Bx=w.heap.size:=⟨_,rfl⟩;have E0:=(Ext.alloc w (.cells (ic m.zs) 50)).trans (Ext.alloc _ (.cells #[] 118));have I0:=(IB.new w 50 m.zs).alloc (.cells #[] 118);have o0:=World.ownsRow_made (base:=Bx+1) (e:=118) (size:=2) (w.alloc (.cells (ic m.zs) 50)) #[] 0 (by simp[hBx]) (by simp) rfl;have z0:Bx+1≤((w.alloc (.cells (ic m.zs) 50)).alloc (.cells #[] 118)).heap.size:=by simp[hBx]
 rw[World.size_alloc]at o0;have hk:=I0.cell (i:=0) (by rw[Mac.zs_len hm];omega);rw[Mac.zs_kind,h1]at hk;rw[←hBx]at I0 o0 hk;have HBx:=Aa hBx;have HMI:=Aa (show lvBn m 0 = [0,1,1,1]++mdL m 4 by rw[lvBn,miL,if_neg (by rw[h1];decide),hdL,h1];simp);have HMN:=Aa (show lvNn m 0=2+mdN m 4 by rw[lvNn,miN,if_neg (by rw[h1];decide)]);clear hm hv h1;go_enter Tryz.func82,Tryz.ntmps82
 go_upto_region 2 with fail
 try simp only[World.size_alloc]
 rw[←hBx];clear hBx;generalize (w.alloc (.cells (ic m.zs) 50)).alloc (.cells #[] 118)=w1 at *;go_wp2_with (at_builtin;refine Aw _ rfl (o0.alloc _) (by simp;omega) _ _ 88 rfl (.agg #[.int .i64 0,.int .i64 0]) 16 Ru A5 rfl (by decide) rfl ⟨w1.heap.size,0,none⟩ 2 2 [.int .i64 0,.int .i64 1,.int .i64 1,.int .i64 _] rfl rfl ((Iq w1 [.int .i64 0,.int .i64 1,.int .i64 1,.int .i64 _] 118).cellsOf _ (by simp)) (by intro u hu;simp at hu;rcases hu with rfl|rfl|rfl|rfl <;> rfl) (by omega) (by omega) ?_;intro v2 w2 own2 gr2 _;refine Hid.out ?_)
 refine Aa ?_;rw[show 0+2=2 from rfl]at own2;try rw[show 0+2=2 from rfl]
 obtain⟨a2,c2,rfl⟩:=Al own2;have F2:=(FR.of_ext (B:=Bx+1) (T:=118) (Ext.alloc w1 (.cells #[.int .i64 0,.int .i64 1,.int .i64 1,.int .i64 _] 118)) z0).trans (FR.of_row (o0.alloc _) gr2 (by simp;omega));have E2:Ext w w2:=Below.trans E0 (F2.lo.mono (by have:=HBx.out;omega));have z2:=Nat.le_trans z0 F2.size;have I2:=F2.ib I0 (by decide);have hk2:=I2.cell (i:=0) (by rw[Hl.out];omega);rw[Mac.zs_kind,HK1.out]at hk2;have o2:=ownc own2 (show _=([0,1,1,1]++mdL m 0:List Int).map (Value.int .i64) by simp[mdL]);clear own2 gr2 F2 E0 I0 o0 z0 hk;have hke:((2:Int) == 1)=false:=rfl;have F0:=FR.refl (Bx+1) 118 w2;go_wp2_with fail
 clear hk2 hke;go_loopw [5,6] (fun v y wr=>∃ k:Nat,k≤4∧y= .int .i64 k∧wr.ownsRow (Bx+1) 118 2 v (2+mdN m k) (([0,1,1,1]++mdL m k).map (Value.int .i64))∧FR (Bx+1) 118 w2 wr) (fun _ y _=>4-(intOf y).toNat)
 case atStart=>exact⟨0,by omega,rfl,o2,F0⟩
 case round =>
  obtain⟨k,hk,rfl,o4,F4⟩:=hrel;clear o2 F0;obtain⟨a4,c4,rfl⟩:=Al o4;have hB4:=Nat.le_trans z2 F4.size
  by_cases hlt:k<4
  ·have hd:decide ((k:Int)<4)=true:=by simp;omega
   obtain⟨z,ez,lz⟩:=JI HV.out HK1.out hlt;have hmn:=GU HV.out HK1.out k (by omega);have q1:=Bh (show z<32768 by omega);have p1:=DK z;have cz:=(F4.ib I2 (by decide)).cell (i:=3+k) (by rw[Hl.out];omega);rw[Mac.nth_mode Hm.out k hlt,ez]at cz;have HLs:=Aa (show mdL m (k+1)=mdL m k++numL z 9 by rw[mdL,ez];simp);have HC:=Aa (show 2+mdN m k+numN z=2+mdN m (k+1) by rw[mdN,ez];simp;omega);clear ez;go_wp2_with fail
   refine(BN z 9 9 rfl _ (by omega) (by omega)).mono ?_
   rintro e w5 ⟨a5,c5,rfl,o5,e5⟩
   obtain⟨g5,rfl⟩:=Bq o5 p1;have o4':=Ae o4 e5;have F5:=F4.trans (FR.of_ext e5 hB4);have hB5:=Nat.le_trans hB4 e5.size;go_wp2_with (at_builtin;refine Aw _ rfl o4' hB5 _ _ 88 rfl (.agg #[.int .i64 0,.int .i64 0]) 16 Ru A5 rfl (by decide) rfl _ _ _ _ rfl o5.1 (o5.cells rfl) (B9 _) (by omega) (by omega) ?_;intro v2 w6 own2 gr2 _;refine Hid.out ?_)
   refine Aa ?_;obtain⟨a6,c6,rfl⟩:=Al own2;have F6:=F5.trans (FR.of_row o4' gr2 hB5);have o6:=ownc own2 (show _=([0,1,1,1]++mdL m (k+1)).map (Value.int .i64) by rw[HLs.out];simp);rw[HC.out]at o6⊢;clear own2 o5 o4' o4 F5 F4 e5 gr2 cz;go_wp2;go_roundw
   case rel=>exact⟨k+1,by omega,by go_num,o6,F6⟩
   case measure=>simp[intOf] <;> omega
  ·have HKR:=Aa (show k=4 by omega);have hd:decide ((k:Int)<4)=false:=by simp;omega
   have H1:=Aa (show 2+mdN m k=lvNn m 0 by rw[HKR.out,HMN.out]);have H2:=Aa (show [0,1,1,1]++mdL m k=lvBn m 0 by rw[HKR.out,HMI.out]);rw[H1.out,H2.out]at o4;rw[H1.out];obtain⟨w3,hw3⟩:∃ w3,w3=wr:=⟨_,rfl⟩;rw[←hw3]at o4 F4 hB4⊢;clear hw3;have E3:Ext w w3:=Below.trans E2 (F4.lo.mono (by have:=HBx.out;omega));have z3:=hB4;have I3:=F4.ib I2 (by decide);have o3:=o4;clear o4 F4 hB4 E2 I2;have F3:=FR.refl (Bx+1) 118 w3;go_wp2_with fail
   go_loopw [5,7] (fun v y wr=>∃ k:Nat,k≤4∧y= .int .i64 k∧wr.ownsRow (Bx+1) 118 2 v (lvNn m k) ((lvBn m k).map (Value.int .i64))∧FR (Bx+1) 118 w3 wr) (fun _ y _=>4-(intOf y).toNat)
   case atStart=>exact⟨0,by omega,rfl,o3,F3⟩
   case round =>
    obtain⟨k,hk,rfl,o4,F4⟩:=hrel;clear o3 F3;obtain⟨a4,c4,rfl⟩:=Al o4;have hB4:=Nat.le_trans z3 F4.size
    by_cases hlt:k<4
    ·have hd:decide ((k:Int)<4)=true:=by simp;omega
     obtain⟨l1,l2⟩:=JF Hm.out HV.out hlt;have hbc:=Ew l1 l2;have hln:=Ic Hm.out HV.out HK0.out k (by omega);have I4:=F4.ib I3 (by decide);have HLs:=Aa (show lvBn m (k+1)=lvBn m k++blkB (sub m.lv (k*16) 16)from rfl);have HC:=Aa (show lvNn m k+blkC (sub m.lv (k*16) 16)=lvNn m (k+1)from rfl);have HBK:=Aa (fun w=>ET (sub m.lv (k*16) 16) w l1 l2);have HZB:=Aa (Mac.zs_blk Hm.out k hlt);generalize sub m.lv (k*16) 16=bz at *;clear l1 l2;go_wp2_with (refine Ab 47 _ rfl rfl I4 (7+k*16) 16 rfl _ Rm rfl Ba (by rw[Hl.out];omega) _ (by rw[HZB.out]) ?_)
     refine(HBK.out _).mono ?_
     rintro e w5 ⟨a5,c5,rfl,o5,e5⟩
     have o4':=Ae o4 e5;have F5:=F4.trans (FR.of_ext e5 hB4);have hB5:=Nat.le_trans hB4 e5.size;obtain⟨g5,rfl⟩:=Bq o5 (Ho bz);go_wp2_with (at_builtin;refine Aw _ rfl o4' hB5 _ _ 88 rfl (.agg #[.int .i64 0,.int .i64 0]) 16 Ru A5 rfl (by decide) rfl _ _ _ _ rfl o5.1 (o5.cells rfl) (B9 _) (by omega) (by omega) ?_;intro v2 w2 own2 gr2 _;refine Hid.out ?_)
     refine Aa ?_;obtain⟨a6,c6,rfl⟩:=Al own2;have F6:=F5.trans (FR.of_row o4' gr2 hB5);have o6:=ownc own2 (show _=(lvBn m (k+1)).map (Value.int .i64) by rw[HLs.out];simp);rw[HC.out]at o6⊢;clear own2 o5 o4' o4 F5 F4 e5 gr2 I4;go_wp2;go_roundw
     case rel=>exact⟨k+1,by omega,by go_num,o6,F6⟩
     case measure=>simp[intOf] <;> omega
    ·have HKR:=Aa (show k=4 by omega);have hd:decide ((k:Int)<4)=false:=by simp;omega
     have H1:=Aa (show lvNn m k=macN m by rw[HKR.out,macN,if_neg HK0.out]);have H2:=Aa (show lvBn m k=macL m by rw[HKR.out,macL,if_neg HK0.out]);rw[H1.out,H2.out]at o4;rw[H1.out];have hlo:=F4.lo;go_wp2;go_ret
     exact⟨_,_,rfl,AH o4 (by have:=HBx.out;omega),Below.trans E3 (hlo.mono (by have:=HBx.out;omega))⟩
theorem Ia (m:Mac)(w:World)(hm:m.ok)(hv:m.valid):
 Calls Tryz.prog 82 #[.agg (ic m.zs),.bool false] w fun e w'=>∃ a c,e= .returned (.slice a (macN m) c)∧w'.ownsRow w.heap.size 118 2 (.slice a (macN m) c) (macN m) ((macL m).map (Value.int .i64))∧Ext w w':=by
 by_cases h0:m.kind=0
 ·exact Ka m w hm h0
 ·by_cases h1:m.kind=1
  ·exact MQ m w hm hv h1
  ·exact MP m w hm hv (by have:=hv.1;omega)
attribute [local go_sem] Oper.semAt_some
structure FX (B T X : Nat) (w w' : World) : Prop where
 lo:Below B w w'
 ot:∀(i:Nat) (o:Obj),w.heap[i]?=some o→notT T o→i≠X→w'.heap[i]?=some o
theorem FX.refl (B T X:Nat)(w:World):FX B T X w w:=⟨Below.refl _ _,fun _ _ h _ _=>h⟩
theorem FX.fr {B T X:Nat}{a b c:World}(h:FX B T X a b)(k:FR B T b c):FX B T X a c:=⟨h.lo.trans k.lo,fun i o h1 h2 h3=>k.ot i o (h.ot i o h1 h2 h3) h2⟩
theorem FX.ext {B T X:Nat}{a b c:World}(h:FX B T X a b)(k:Ext b c)(hB:B≤b.heap.size):FX B T X a c:=h.fr (FR.of_ext k hB)
theorem FX.set {B T X:Nat}{a b:World}(h:FX B T X a b)(hX:B≤X)(v:Value):FX B T X a (b.setCell ⟨X,0,none⟩ v) :=
 ⟨h.lo.setCell (p:=⟨X,0,none⟩) hX v,fun i o h1 h2 h3=>Ai (h.ot i o h1 h2 h3) h3⟩
theorem FX.ib {B T X U b:Nat}{zs:List Int}{w w':World}(f:FX B T X w w')(h:IB w b U zs)(hne:U≠T)(hb:b≠X):IB w' b U zs:=f.ot b _ h (fun cs fr e=>by cases e;exact hne rfl) hb
theorem FX.size {B T X:Nat}{w w':World}(h:FX B T X w w'):w.heap.size≤w'.heap.size:=h.lo.size
theorem FX.grown {B T X:Nat}{a b c:World}{row:Option Nat}(h:FX B T X a b)(g:b.grownBy c row)(hr:∀ r,row=some r→a.heap.size≤r)(hB:B≤a.heap.size):FX B T X a c :=
 ⟨h.lo.trans ⟨g.os,g.tape,g.output,g.size,fun k hk=>g.block k (by have:=h.size;omega) (fun e=>by have:=hr k e.symm;omega)⟩,fun i o h1 h2 h3=>(g.block i (lt_of_block (h.ot i o h1 h2 h3)) (fun e=>by have:=hr i e.symm;have:=lt_of_block h1;omega)).trans (h.ot i o h1 h2 h3)⟩
def BB (w:World)(X:Nat)(v:Value):Prop:=w.heap[X]?=some (.cells #[v] 88 (0,0))
theorem BB.cell {w:World}{X:Nat}{v:Value}(h:BB w X v):w.cell? ⟨X,0,none⟩=some v∧w.frozen? ⟨X,0,none⟩=false:=by
 obtain⟨-,h1,h2⟩:=bx1 h;exact⟨h1,h2⟩
theorem BB.set {w:World}{X:Nat}{v:Value}(h:BB w X v)(u:Value):BB (w.setCell ⟨X,0,none⟩ u) X u:=by
 have h1:=heap_setCell_same w X 0 _ _ u h;show _=_
 simpa using h1
theorem BB.fr {B X:Nat}{w w':World}{v:Value}(h:BB w X v)(f:FR B 118 w w'):BB w' X v:=f.blk h (by decide)
theorem BB.ext {X:Nat}{w w':World}{v:Value}(h:BB w X v)(e:Ext w w'):BB w' X v:=e.blk h
theorem AK {w:World}{X B s n:Nat}{v v' u:Value}{xs:List Value}(o:w.ownsRow B 118 s v n xs)(h:BB w X v'):(w.setCell ⟨X,0,none⟩ u).ownsRow B 118 s v n xs:=by
 refine o.kept (Ax w X 0 u) ?_;rcases o.2 with⟨rfl,-⟩|⟨g,cap,cur,rfl,-,hg,-⟩
 ·exact .inl rfl
 ·right
  intro e;cases e;unfold BB at h;rw[hg]at h;cases h
theorem AR (v:Value)(N:Nat)(xs:List Int)(n b B:Nat)(bi:Int)(hbi:bi=(b:Int))(w:World)(own:w.ownsRow B 118 2 v N (xs.map (Value.int .i64)))(hB:B≤w.heap.size)(hN:N≤1000000)(hn:n<32768)(hb:b≤100):
 Calls Tryz.prog 104 #[v,.int .i64 n,.int .i64 bi] w fun e w'=>∃ a c,e= .returned (.slice a (N+numN n) c)∧w'.ownsRow B 118 2 (.slice a (N+numN n) c) (N+numN n) ((xs++numL n b).map (Value.int .i64))∧FR B 118 w w':=by
 subst hbi;exact Is v N xs n b B w own hB hN hn hb
def ST (w1:World)(B0 X N:Nat)(xs:List Int)(wx:World):Prop:=FX B0 118 X w1 wx∧∃ a c,BB wx X (.slice a N c)∧wx.ownsRow B0 118 2 (.slice a N c) N (xs.map (Value.int .i64))
def MK (lo:Nat):List Deferred→World→Prop
 | [],_=>True
 | d::ds,w=>∃ D,d.target= .collected D∧lo≤D∧w.heap[D]?=some (.deferred (some []))∧(∀ d'∈ds,d'.target ≠ .collected D)∧MK lo ds w
theorem MK.keep {lo:Nat}{w w':World}(h:∀(i:Nat) (o:Obj),w.heap[i]?=some o→o.isCells=false→w'.heap[i]?=some o):∀ ds,MK lo ds w→MK lo ds w'
 | [],_=>trivial
 | d::ds,⟨D,h1,h2,h3,h4,h5⟩=>⟨D,h1,h2,h _ _ h3 rfl,h4,MK.keep h ds h5⟩
theorem MK.put {lo D:Nat}{w:World}(o:Obj):∀ ds,MK lo ds w→(∀ d∈ds,d.target ≠ .collected D)→MK lo ds (w.putObj D o)
 | [],_,_=>trivial
 | d::ds,⟨E,h1,h2,h3,h4,h5⟩,hn=>⟨E,h1,h2,(World.putObj_heap_other (fun e=>hn d (List.mem_cons_self) (by rw[h1,e]))).trans h3,h4,MK.put o ds h5 (fun d' hd=>hn d' (List.mem_cons_of_mem _ hd))⟩
theorem MK.lt {lo:Nat}{w:World}: ∀ ds,MK lo ds w→∀ d∈ds,∀ D,w.heap.size≤D→d.target ≠ .collected D
 | [],_,d,hd,_,_=>by cases hd
 | e::ds,⟨E,h1,h2,h3,h4,h5⟩,d,hd,D,hD=>by
  rcases List.mem_cons.1 hd with rfl|hd
  ·rw[h1];intro he;have:=lt_of_block h3;cases he;omega
  ·exact MK.lt ds h5 d hd D hD
theorem FX.trans {B T X:Nat}{a b c:World}(h:FX B T X a b)(k:FX B T X b c):FX B T X a c:=⟨h.lo.trans k.lo,fun i o h1 h2 h3=>k.ot i o (h.ot i o h1 h2 h3) h2 h3⟩
theorem FX.keepsN {B T X:Nat}{w w':World}{v:Value}(f:FX B T X w w')(hX:BB w X v):KeepsOthers w w':=⟨f.size,fun i o h1 h2=>f.ot i o h1 (fun cs fr e=>by subst e;cases h2) (fun e=>by subst e;unfold BB at hX;rw[hX]at h1;cases h1;cases h2)⟩
theorem MK.ko {lo:Nat}{w w':World}(h:KeepsOthers w w')(ds:List Deferred)(m:MK lo ds w):MK lo ds w':=MK.keep h.same ds m
def rcL : List (Int×Int)→List Int
 | [] => []
 | r::l=>(numL r.1.toNat 23++numL (sidx r.2-1).toNat 30)++rcL l
def rcN : List (Int×Int)→Nat
 | []=>0
 | r::l=>(numN r.1.toNat+numN (sidx r.2-1).toNat)+rcN l
theorem Ij (r:Int×Int):∀ l,rcL (l ++ [r])=rcL l++(numL r.1.toNat 23++numL (sidx r.2-1).toNat 30)
 | []=>by simp[rcL]
 | q::l=>by simp[rcL,Ij r l]
theorem Ik (r:Int×Int):∀ l,rcN (l ++ [r])=rcN l+(numN r.1.toNat+numN (sidx r.2-1).toNat)
 | []=>by simp[rcN]
 | q::l=>by simp[rcN,Ik r l];omega
theorem Nx (zs:List Int):∀ k,k≤(Ao zs).length→bkL zs k=numL (Ao zs).length 16++rcL ((Ao zs).take k)∧bkN zs k=numN (Ao zs).length+rcN ((Ao zs).take k)
 | 0,_=>by simp[bkL,bkN,rcL,rcN]
 | k+1,h=>by
  obtain⟨h1,h2⟩:=Nx zs k (by omega);have e:(Ao zs).take (k+1)=(Ao zs).take k ++ [(Ao zs).getD k (0,0)]:=by
   rw[List.take_add_one];simp[List.getD,List.getElem?_eq_getElem (show k<(Ao zs).length by omega)]
  rw[e,Ij,Ik,bkL,bkN,h1,h2];exact⟨by simp,by omega⟩
theorem OY (zs:List Int):blkB zs=numL (Ao zs).length 16++rcL (Ao zs)∧blkC zs=numN (Ao zs).length+rcN (Ao zs):=by
 have h:=Nx zs (Ao zs).length (Nat.le_refl _);rw[List.take_length]at h;exact h
theorem Nj (x:Rn 4080):∃ z s:Nat,x.1.1=z∧z≤15∧sidx x.1.2-1=s∧s≤8160 ∧ -4080≤x.1.2∧x.1.2≤4080:=by
 obtain⟨⟨z,l⟩,h1,h2,h3,h4,h5⟩:=x;simp only at h1 h2 h3 h4 h5⊢;refine⟨z.toNat,(sidx l-1).toNat,by omega,by omega,?_,?_,h4,h5⟩
 ·unfold sidx;split <;> omega
 ·unfold sidx;split <;> omega
theorem Ni : ∀ l:List (Rn 4080),rcN (l.map (·.1))≤l.length*62
 | []=>by simp[rcN]
 | x::l=>by
  have ih:=Ni l;obtain⟨z,s,e1,h1,e2,h2,-,-⟩:=Nj x;have q1:numN x.1.1.toNat≤31:=Bh (by omega);have q2:numN (sidx x.1.2-1).toNat≤31:=Bh (by omega);simp only[List.map_cons,rcN,List.length_cons];omega
structure RI (B0 Bx : Nat) (wL : World) (Ib : Nat) (zs : List Int) (N : Nat) (L : List Int) (pre : List (Rn 4080)) (W : World) : Prop where
 fx:FX B0 118 Bx wL W
 ib:IB W Ib 47 zs
 bb:∃ a c,BB W Bx (.slice a (N+rcN (pre.map (·.1))) c)∧W.ownsRow B0 118 2 (.slice a (N+rcN (pre.map (·.1))) c) (N+rcN (pre.map (·.1))) ((L++rcL (pre.map (·.1))).map (Value.int .i64))
theorem Db {W W':World}{b:Nat}{cs:Array Value}{T:TypeId}{fr:Nat×Nat}{row:Option Nat}{n:Nat}(h:W.heap[b]?=some (.cells cs T fr))(g:W.grownBy W' row)(hr:∀ r,row=some r→n≤r∧∃ o:Obj,W.heap[r]?=some o∧o.isCells=false):W'.heap[b]?=some (.cells cs T fr) :=
 Ar h g (fun e=>by obtain⟨-,o,ho,hc⟩:=hr b e;rw[h]at ho;cases ho;cases hc)
theorem Ng {W W':World}{b e s k:Nat}{v:Value}{xs:List Value}{row:Option Nat}{n:Nat}(h:W.ownsRow b e s v k xs)(g:W.grownBy W' row)(hr:∀ r,row=some r→n≤r∧∃ o:Obj,W.heap[r]?=some o∧o.isCells=false):W'.ownsRow b e s v k xs:=by
 refine h.kept g ?_;rcases h.2 with⟨rfl,-⟩|⟨q,cap,cur,rfl,-,hq,-⟩
 ·exact .inl rfl
 ·right
  intro e;obtain⟨-,o,ho,hc⟩:=hr q e.symm;rw[hq]at ho;cases ho;cases hc
theorem RI.own {B0 Bx Ib N:Nat}{wL:World}{zs L:List Int}(hB:B0≤wL.heap.size):OwnFrom wL.heap.size (fun pre W=>RI B0 Bx wL Ib zs N L pre W):=fun pre W W' row h g hr=>by
 obtain⟨h1,h2,a,c,h3,h4⟩:=h;exact⟨h1.grown g (fun r e=>(hr r e).1) hB,Db h2 g hr,a,c,Db h3 g hr,Ng h4 g hr⟩
def LPI (m:Mac)(N0:Nat)(xs0:List Int)(B0 Bx:Nat)(w1:World)(a:Act)(wr:World):Prop:=∃(k:Nat) (ds:List Deferred) (l:List Value),a=⟨l.toArray,ds⟩∧l.length=77∧l[3]?=some (.pointer (some ⟨Bx,0,none⟩))∧l[4]?=some (.pointer (some ⟨Bx+1,0,none⟩))∧l[54]?=some (.agg (ic m.lv))∧l[55]?=some (.int .i64 (k:Nat))∧k≤4∧MK w1.heap.size ds wr∧FX B0 118 Bx w1 wr∧B0≤wr.heap.size∧∃ a c,BB wr Bx (.slice a (N0+lvNn m k) c)∧wr.ownsRow B0 118 2 (.slice a (N0+lvNn m k) c) (N0+lvNn m k) ((xs0++lvBn m k).map (Value.int .i64))
theorem Na (l:List Value)(h:l.length=77):l=(List.range 77).map (fun i=>l.getD i undef):=by
 refine List.ext_getElem (by simp[h]) fun i h1 h2 => ?_
 simp[List.getD,h1]
theorem LPI.elim {m:Mac}{N0:Nat}{xs0:List Int}{B0 Bx:Nat}{w1:World}{a:Act}{wr:World}(h:LPI m N0 xs0 B0 Bx w1 a wr):∃(k:Nat) (ds:List Deferred) (f:Nat→Value),a=⟨(f 0::f 1::f 2::(.pointer (some ⟨Bx,0,none⟩))::(.pointer (some ⟨Bx+1,0,none⟩))::f 5::f 6::f 7::f 8::f 9::f 10::f 11::f 12::f 13::f 14::f 15::f 16::f 17::f 18::f 19::f 20::f 21::f 22::f 23::f 24::f 25::f 26::f 27::f 28::f 29::f 30::f 31::f 32::f 33::f 34::f 35::f 36::f 37::f 38::f 39::f 40::f 41::f 42::f 43::f 44::f 45::f 46::f 47::f 48::f 49::f 50::f 51::f 52::f 53::(.agg (ic m.lv))::(.int .i64 (k:Nat))::f 56::f 57::f 58::f 59::f 60::f 61::f 62::f 63::f 64::f 65::f 66::f 67::f 68::f 69::f 70::f 71::f 72::f 73::f 74::f 75::f 76 :: []).toArray,ds⟩∧k≤4∧MK w1.heap.size ds wr∧FX B0 118 Bx w1 wr∧B0≤wr.heap.size∧∃ a c,BB wr Bx (.slice a (N0+lvNn m k) c)∧wr.ownsRow B0 118 2 (.slice a (N0+lvNn m k) c) (N0+lvNn m k) ((xs0++lvBn m k).map (Value.int .i64)):=by
 obtain⟨k,ds,l,rfl,hl,h3,h4,h54,h55,hr⟩:=h;refine⟨k,ds,fun i=>l.getD i undef,?_,hr⟩;have e:=Na l hl;have g3:l.getD 3 undef= .pointer (some ⟨Bx,0,none⟩):=by simp[List.getD,h3]
 have g4:l.getD 4 undef= .pointer (some ⟨Bx+1,0,none⟩):=by simp[List.getD,h4]
 have g54:l.getD 54 undef= .agg (ic m.lv):=by simp[List.getD,h54]
 have g55:l.getD 55 undef= .int .i64 (k:Nat):=by simp[List.getD,h55]
 rw[←g3,←g4,←g54,←g55];exact congrArg (fun z:List Value=>(⟨z.toArray,ds⟩:Act)) e
theorem RI.ext {B0 Bx Ib N:Nat}{wL W W':World}{zs L:List Int}{pre:List (Rn 4080)}(h:RI B0 Bx wL Ib zs N L pre W)(e:Ext W W')(hB:B0≤wL.heap.size):RI B0 Bx wL Ib zs N L pre W':=by
 obtain⟨h1,h2,a,c,h3,h4⟩:=h;exact⟨h1.ext e (Nat.le_trans hB h1.size),h2.ext e,a,c,h3.ext e,Ae h4 e⟩
def AX (Bx:Nat)(wL:World)(x:Rn 4080)(a':Act)(W:World):Prop:=∃(Rx:Nat) (l:List Value),wL.heap.size≤Rx∧W.heap[Rx]?=some (.cells #[.int .i64 x.1.1,.int .i64 x.1.2] 125 (0,0))∧a'=⟨l.toArray,[]⟩∧l.length=77∧l[3]?=some (.pointer (some ⟨Bx,0,none⟩))∧l[11]?=some (.pointer (some ⟨Rx,0,none⟩))
theorem AX.own (Bx:Nat)(wL:World)(x:Rn 4080)(a':Act):OwnFrom wL.heap.size (fun(_:Unit) W=>AX Bx wL x a' W):=fun _ W W' row h g hr=>by
 obtain⟨Rx,l,h1,h2,h3⟩:=h;exact⟨Rx,l,h1,Db h2 g hr,h3⟩
theorem AX.elim {Bx:Nat}{wL:World}{x:Rn 4080}{a':Act}{W:World}(h:AX Bx wL x a' W):∃(Rx:Nat) (f:Nat→Value),wL.heap.size≤Rx∧W.heap[Rx]?=some (.cells #[.int .i64 x.1.1,.int .i64 x.1.2] 125 (0,0))∧a'=⟨(f 0::f 1::f 2::(.pointer (some ⟨Bx,0,none⟩))::f 4::f 5::f 6::f 7::f 8::f 9::f 10::(.pointer (some ⟨Rx,0,none⟩))::f 12::f 13::f 14::f 15::f 16::f 17::f 18::f 19::f 20::f 21::f 22::f 23::f 24::f 25::f 26::f 27::f 28::f 29::f 30::f 31::f 32::f 33::f 34::f 35::f 36::f 37::f 38::f 39::f 40::f 41::f 42::f 43::f 44::f 45::f 46::f 47::f 48::f 49::f 50::f 51::f 52::f 53::f 54::f 55::f 56::f 57::f 58::f 59::f 60::f 61::f 62::f 63::f 64::f 65::f 66::f 67::f 68::f 69::f 70::f 71::f 72::f 73::f 74::f 75::f 76 :: []).toArray,[]⟩:=by
 obtain⟨Rx,l,h1,h2,rfl,hl,h3,h11⟩:=h;refine⟨Rx,fun i=>l.getD i undef,h1,h2,?_⟩;have e:=Na l hl;have g3:l.getD 3 undef= .pointer (some ⟨Bx,0,none⟩):=by simp[List.getD,h3]
 have g11:l.getD 11 undef= .pointer (some ⟨Rx,0,none⟩):=by simp[List.getD,h11]
 rw[←g3,←g11];exact congrArg (fun z:List Value=>(⟨z.toArray,[]⟩:Act)) e
theorem Iz {F:Fence}{n:Nat}{P:Program}{fn:Func}{tmps:Array Value}{R:Ending→World→Prop}{lo:Nat}(Φ:World→Prop)(hput:∀ W D,lo≤D→W.heap[D]?=some (.deferred (some []))→Φ W→Φ (W.putObj D (.deferred none)))(hend:∀ W,Φ W→LeavesIn F n P fn tmps R [] .returning W):
 ∀ ds w,MK lo ds w→Φ w→LeavesInM F n P fn tmps R ds .returning w
 | [],w,_,h=>hend w h
 | d::ds,w,⟨D,h1,h2,h3,h4,h5⟩,h=>⟨by simp,.inl ⟨D,_,h1,run_takeDeferred h3,Iz Φ hput hend ds _ (MK.put _ ds h5 h4) (hput w D h2 h3 h)⟩⟩
theorem Ec (v0:Value)(N0:Nat)(xs0:List Int)(m:Mac)(B0:Nat)(w:World)(own:w.ownsRow B0 118 2 v0 N0 (xs0.map (Value.int .i64)))(hB:B0≤w.heap.size)(hN:N0≤100000)(hm:m.ok)(hv:m.valid)(h0:m.kind≠0):
 Calls Tryz.prog 63 #[v0,.agg (ic m.zs),.bool false] w fun e w'=>∃ a c,e= .returned (.slice a (N0+macN m) c)∧w'.ownsRow B0 118 2 (.slice a (N0+macN m) c) (N0+macN m) ((xs0++macL m).map (Value.int .i64))∧FR B0 118 w w':=by
 have Hl:=Aa (Mac.zs_len hm);have Hm:=Aa hm;have HV:=Aa hv;have HK0:=Aa h0;obtain⟨a0,c0,rfl⟩:=Al own;obtain⟨Bx,hBx⟩:∃ Bx,Bx=w.heap.size:=⟨_,rfl⟩;have E1:=(Ext.alloc w (.cells #[.slice a0 N0 c0] 88)).trans (Ext.alloc _ (.cells (ic m.zs) 50));have b0:BB ((w.alloc (.cells #[.slice a0 N0 c0] 88)).alloc (.cells (ic m.zs) 50)) Bx (.slice a0 N0 c0):=by rw[hBx];exact(Ext.alloc _ _).blk (Aj w _)
 have I1:=IB.new (w.alloc (.cells #[.slice a0 N0 c0] 88)) 50 m.zs;rw[World.size_alloc,←hBx]at I1;have o0:=Ae own E1;have hB0:B0≤((w.alloc (.cells #[.slice a0 N0 c0] 88)).alloc (.cells (ic m.zs) 50)).heap.size:=by simp;omega
 have hs1:((w.alloc (.cells #[.slice a0 N0 c0] 88)).alloc (.cells (ic m.zs) 50)).heap.size=Bx+2:=by simp[hBx]
 have hBX:B0≤Bx:=by omega
 have hk:=I1.cell (i:=0) (by rw[Mac.zs_len hm];omega);rw[Mac.zs_kind]at hk;have HBx:=Aa hBx;have HS1:=Aa hs1;have hk0:(m.kind == 0)=false:=by simpa using h0
 obtain⟨hkr1,hkr2⟩:=hv.1;obtain⟨xa,ya,ex,lx,ey,ly⟩:=Nf hv;have HX:=Aa ex;have HY:=Aa ey;obtain⟨q1,q2,q3,q4⟩:=hv.2.1;clear own hm hv h0 ex ey hs1;refine Ck 4 Tryz.func63 rfl ?_;simp only[Tryz.ntmps63,List.size_toArray,List.length_cons,List.length_nil,Nat.reduceAdd,Nat.reduceSub,Array.replicate_succ,Array.replicate_zero,List.push_toArray,List.append_toArray,List.nil_append,List.cons_append];go_upto_region 1 with fail
 try simp only[World.size_alloc]
 rw[←hBx];generalize (w.alloc (.cells #[.slice a0 N0 c0] 88)).alloc (.cells (ic m.zs) 50)=w1 at *;clear hBx;obtain⟨k0,k1⟩:=b0.cell;go_wp2_with (at_builtin;refine Aw _ rfl (o0.alloc _) (by simp;omega) _ _ 88 rfl (.agg #[.int .i64 0,.int .i64 0]) 16 Ru A5 rfl (by decide) rfl ⟨w1.heap.size,0,none⟩ 2 2 [.int .i64 0,.int .i64 1,.int .i64 1,.int .i64 _] rfl rfl ((Iq w1 [.int .i64 0,.int .i64 1,.int .i64 1,.int .i64 _] 118).cellsOf _ (by simp)) (by intro u hu;simp at hu;rcases hu with rfl|rfl|rfl|rfl <;> rfl) (by omega) (by omega) ?_;intro v2 w2 own2 gr2 _;refine Hid.out ?_)
 refine Aa ?_;obtain⟨a2,c2,rfl⟩:=Al own2;have FA:=(FR.of_ext (B:=B0) (T:=118) (Ext.alloc w1 (.cells #[.int .i64 0,.int .i64 1,.int .i64 1,.int .i64 _] 118)) hB0).trans (FR.of_row (o0.alloc _) gr2 (by simp;omega));have b2:=b0.fr FA;have o2:=ownc own2 (show _=(xs0 ++ [0,1,1,m.kind-1]).map (Value.int .i64) by simp);clear k0 k1;obtain⟨k0,k1⟩:=b2.cell;go_upto_region 5 with fail
 have FB:=((FX.refl B0 118 Bx w1).fr FA).set hBX (.slice a2 (N0+2) c2);have b3:=b2.set (.slice a2 (N0+2) c2);have o3:=AK (u := .slice a2 (N0+2) c2) o2 b2;have hB3:B0≤(w2.setCell ⟨Bx,0,none⟩ (.slice a2 (N0+2) c2)).heap.size:=Nat.le_trans hB0 FB.size;generalize w2.setCell ⟨Bx,0,none⟩ (.slice a2 (N0+2) c2)=w3 at *;clear own2 gr2 FA b2 o2 k0 k1 b0 o0;obtain⟨F0,b0,o0⟩:=And.intro FB (And.intro b3 o3);clear FB b3 o3 hB0 hk;have hB0:=hB3;clear hB3;obtain⟨N,hN0⟩:∃ N,N=N0+2:=⟨_,rfl⟩;obtain⟨L,hxs⟩:∃ L,L=xs0 ++ [0,1,1,m.kind-1]:=⟨_,rfl⟩;rw[←hN0]at o0 b0⊢;rw[←hxs]at o0;have HN0:=Aa hN0;have HXS:=Aa hxs;have hNb:N≤100002:=by omega
 clear hN0 hxs;have hk3:=(F0.ib I1 (by decide) (by omega)).cell (i:=0) (by rw[Hl.out];omega);rw[Mac.zs_kind]at hk3;go_upto_if 31 with fail
 clear hk3;go_cut []from 31 (fun wx=>∃ a c,FX B0 118 Bx w1 wx∧BB wx Bx (.slice a (N0+miN m) c)∧wx.ownsRow B0 118 2 (.slice a (N0+miN m) c) (N0+miN m) ((xs0++miL m).map (Value.int .i64))∧B0≤wx.heap.size)
 case first =>
  by_cases h1:m.kind=1
  ·have hke:(m.kind == 1)=true:=by simpa using h1
   have HMN:=Aa (show miN m=2+(numN xa+numN ya) by rw[miN,if_pos h1,HX.out,HY.out];simp);have HML:=Aa (show miL m = [0,1,1,m.kind-1]++(numL xa 2++numL ya 2) by rw[miL,if_pos h1,mvL,HX.out,HY.out];simp[hdL]);clear h1;rw[hke];clear hke;go_upto_region 6 with fail
   refine Am (by kernel_rfl) [(32,0),(33,1),(34,2),(35,3),(36,4),(37,5)] [[],[],[1],[1,2],[1,2,3],[0,1,2,3,4],[0,1,2,3,4,5]] (fun i own ys wx=>match i with|0=>own= .slice a2 N c2|1=>own= .pointer (some ⟨Bx+1,1,none⟩)|2=>own= .pointer (some ⟨Bx+1,1,none⟩)|3=>own= .int .i64 m.x|4=>own= .int .i64 (xa:Nat)|5=>∃(a3:Option Addr) (c3:Nat),own= .slice a3 (N+numN xa) c3∧wx.ownsRow B0 118 2 (.slice a3 (N+numN xa) c3) (N+numN xa) ((L++numL xa 2).map (Value.int .i64))|6=>∃(a3:Option Addr) (c3:Nat),BB wx Bx (.slice a3 (N+numN xa) c3)∧wx.ownsRow B0 118 2 (.slice a3 (N+numN xa) c3) (N+numN xa) ((L++numL xa 2).map (Value.int .i64))|_=>True) (fun Lx wx=>FX B0 118 Bx w1 wx∧(∃ z,BB wx Bx z∧(Lx 6=false→z= .slice a2 N c2))∧(Lx 5=false→wx.ownsRow B0 118 2 (.slice a2 N c2) N (L.map (Value.int .i64)))∧B0≤wx.heap.size) (by kernel_rfl) (by kernel_rfl) (by kernel_rfl) ?g0_r1 ?gop_r1 ?gend_r1
   case g0_r1=>exact⟨F0.ext (Ext.drewN _ 1) hB0,⟨_,b0,fun _=>rfl⟩,fun _=>o0,hB0⟩
   case gop_r1 =>
    refine⟨?o0,?o1,?o2,?o3,?o4,?o5,?o6,trivial⟩ <;> (intro Lx xs wx hG hl ha hb hD hI Qo Kx hK hQo;simp only[Ad,Nat.reduceAdd,Nat.reduceEqDiff,↓reduceIte]at hQo⊢)
    case o0 =>
     have l6:Lx 6=false:=hb 6 rfl;clear hl ha hb hD hI;obtain⟨z,g1,g2⟩:=hG.2.1;obtain rfl:=g2 l6;obtain⟨k0,k1⟩:=g1.cell;go_wp2;exact hK.out _ _ ⟨rfl,hG,kkp⟩
    case o1 =>
     clear hl ha hb hD hI;go_wp2;exact hK.out _ _ ⟨rfl,hG,kkp⟩
    case o2 =>
     clear hl ha hb;rw[ddq (hD 1 rfl)]at hQo⊢;clear hD hI;go_wp2;exact hK.out _ _ ⟨rfl,hG,kkp⟩
    case o3 =>
     clear hl ha hb;rw[ddq (hD 2 rfl)]at hQo⊢;clear hD hI;have hcx:=(hG.1.ib I1 (by decide) (by omega)).cell (i:=1) (by rw[Hl.out];omega);rw[Mac.zs_x]at hcx;go_wp2;exact hK.out _ _ ⟨rfl,hG,kkp⟩
    case o4 =>
     clear hl ha hb;rw[ddq (hD 3 rfl)]at hQo⊢;clear hD hI;go_wp2_with fail
     refine(BG m.x _ (by omega) (by omega)).mono ?_
     rintro e wz ⟨rfl,rfl⟩
     rw[HX.out];go_wp2;exact hK.out _ _ ⟨rfl,hG,kkp⟩
    case o5 =>
     have l5:Lx 5=false:=hl;clear hl ha hb;rw[ddq (hD 0 rfl),ddq (hD 4 rfl)]at hQo⊢;clear hD hI;go_wp2_with fail
     refine(AR _ N L xa 2 B0 2 rfl wx (hG.2.2.1 l5) hG.2.2.2 (by omega) (by omega) (by omega)).mono ?_
     rintro e wz ⟨az,cz,rfl,oz,fz⟩
     go_wp2;have hst:∀(wy:World),True→Stbn 7 5 [[],[],[1],[1,2],[1,2,3],[0,1,2,3,4],[0,1,2,3,4,5]] (fun i own ys wx=>match i with|0=>own= .slice a2 N c2|1=>own= .pointer (some ⟨Bx+1,1,none⟩)|2=>own= .pointer (some ⟨Bx+1,1,none⟩)|3=>own= .int .i64 m.x|4=>own= .int .i64 (xa:Nat)|5=>∃(a3:Option Addr) (c3:Nat),own= .slice a3 (N+numN xa) c3∧wx.ownsRow B0 118 2 (.slice a3 (N+numN xa) c3) (N+numN xa) ((L++numL xa 2).map (Value.int .i64))|6=>∃(a3:Option Addr) (c3:Nat),BB wx Bx (.slice a3 (N+numN xa) c3)∧wx.ownsRow B0 118 2 (.slice a3 (N+numN xa) c3) (N+numN xa) ((L++numL xa 2).map (Value.int .i64))|_=>True) wx wy:=by
      intro wy hy ii hii hne hc own ys h
      match ii,h with
      | 0,h|1,h|2,h|3,h|4,h=>exact h
      | 5,h=>exact absurd rfl hne
      | 6,h=>exact absurd hc (by decide)
      | _+7,_=>trivial
     obtain⟨z,g1,g2⟩:=hG.2.1;exact hK.out _ _ ⟨⟨az,cz,rfl,oz⟩,⟨hG.1.fr fz,⟨z,g1.fr fz,g2⟩,(fun x=>Bool.noConfusion x),Nat.le_trans hG.2.2.2 fz.size⟩,hst _ trivial⟩
    case o6 =>
     clear hl ha hb;have d5:∃(a3:Option Addr) (c3:Nat),(xs 5) = .slice a3 (N+numN xa) c3∧wx.ownsRow B0 118 2 (.slice a3 (N+numN xa) c3) (N+numN xa) ((L++numL xa 2).map (Value.int .i64)):=hD 5 rfl;clear hD hI;generalize xs 5=y5 at *;obtain⟨a3,c3,rfl,o3⟩:=d5;obtain⟨z,g1,g2⟩:=hG.2.1;obtain⟨k0,k1⟩:=g1.cell;go_wp2;have hst:∀(wy:World),(∀(v:Value) (n:Nat) (us:List Value),wx.ownsRow B0 118 2 v n us→wy.ownsRow B0 118 2 v n us)→Stbn 7 6 [[],[],[1],[1,2],[1,2,3],[0,1,2,3,4],[0,1,2,3,4,5]] (fun i own ys wx=>match i with|0=>own= .slice a2 N c2|1=>own= .pointer (some ⟨Bx+1,1,none⟩)|2=>own= .pointer (some ⟨Bx+1,1,none⟩)|3=>own= .int .i64 m.x|4=>own= .int .i64 (xa:Nat)|5=>∃(a3:Option Addr) (c3:Nat),own= .slice a3 (N+numN xa) c3∧wx.ownsRow B0 118 2 (.slice a3 (N+numN xa) c3) (N+numN xa) ((L++numL xa 2).map (Value.int .i64))|6=>∃(a3:Option Addr) (c3:Nat),BB wx Bx (.slice a3 (N+numN xa) c3)∧wx.ownsRow B0 118 2 (.slice a3 (N+numN xa) c3) (N+numN xa) ((L++numL xa 2).map (Value.int .i64))|_=>True) wx wy:=by
      intro wy hy ii hii hne hc own ys h
      match ii,h with
      | 0,h|1,h|2,h|3,h|4,h=>exact h
      | 5,h=>obtain⟨a9,c9,h1,h2⟩:=h;exact⟨a9,c9,h1,hy _ _ _ h2⟩
      | 6,h=>exact absurd rfl hne
      | _+7,_=>trivial
     exact hQo undef _ (hK.out _ _ ⟨⟨a3,c3,g1.set _,AK o3 g1⟩,⟨hG.1.set hBX _,⟨_,g1.set _,(fun x=>Bool.noConfusion x)⟩,(fun x=>AK (hG.2.2.1 x) g1),by simpa using hG.2.2.2⟩,hst _ (fun _ _ _ h=>AK h g1)⟩)
   intro xs wx hV hG0;obtain⟨Lx,hL,hG⟩:=hG0;have l5:Lx 5=true:=hL 5 (by decide);have l6:Lx 6=true:=hL 6 (by decide);clear hL;have d6:∃(a3:Option Addr) (c3:Nat),BB wx Bx (.slice a3 (N+numN xa) c3)∧wx.ownsRow B0 118 2 (.slice a3 (N+numN xa) c3) (N+numN xa) ((L++numL xa 2).map (Value.int .i64)):=hV 6 (by decide);clear hV;simp only[Ad,Nat.reduceAdd,Nat.reduceEqDiff,↓reduceIte];generalize xs 0=y0,xs 1=y1,xs 2=y2,xs 3=y3,xs 4=y4,xs 5=y5,xs 6=y6 at *
   replace hG:FX B0 118 Bx w1 wx∧(∃ z,BB wx Bx z∧(Lx 6=false→z= .slice a2 N c2))∧(Lx 5=false→wx.ownsRow B0 118 2 (.slice a2 N c2) N (L.map (Value.int .i64)))∧B0≤wx.heap.size:=hG
   obtain⟨a4,c4,b4,o4⟩:=d6;obtain⟨N5,hN5⟩:∃ q,q=N+numN xa:=⟨_,rfl⟩;obtain⟨L5,hL5⟩:∃ q,q=L++numL xa 2:=⟨_,rfl⟩;rw[←hN5]at b4 o4;rw[←hL5]at o4;try rw[←hN5]
   have F5:=hG.1;have hB5:=hG.2.2.2;have HN5:=Aa hN5;have HL5:=Aa hL5;have hNb5:N5≤101000:=by have:=Bh (show xa<32768 by omega);omega
   have b5:=b4;have o5:=o4;clear hN5 hL5 hG F0 b0 o0 hB0 b4 o4;generalize wx=w4 at *;go_upto_region 7 with fail
   refine Am (by kernel_rfl) [(38,0),(39,1),(40,2),(41,3),(42,4),(43,5)] [[],[],[1],[1,2],[1,2,3],[0,1,2,3,4],[0,1,2,3,4,5]] (fun i own ys wx=>match i with|0=>own= .slice a4 N5 c4|1=>own= .pointer (some ⟨Bx+1,1,none⟩)|2=>own= .pointer (some ⟨Bx+1,2,none⟩)|3=>own= .int .i64 m.y|4=>own= .int .i64 (ya:Nat)|5=>∃(a3:Option Addr) (c3:Nat),own= .slice a3 (N5+numN ya) c3∧wx.ownsRow B0 118 2 (.slice a3 (N5+numN ya) c3) (N5+numN ya) ((L5++numL ya 2).map (Value.int .i64))|6=>∃(a3:Option Addr) (c3:Nat),BB wx Bx (.slice a3 (N5+numN ya) c3)∧wx.ownsRow B0 118 2 (.slice a3 (N5+numN ya) c3) (N5+numN ya) ((L5++numL ya 2).map (Value.int .i64))|_=>True) (fun Lx wx=>FX B0 118 Bx w1 wx∧(∃ z,BB wx Bx z∧(Lx 6=false→z= .slice a4 N5 c4))∧(Lx 5=false→wx.ownsRow B0 118 2 (.slice a4 N5 c4) N5 (L5.map (Value.int .i64)))∧B0≤wx.heap.size) (by kernel_rfl) (by kernel_rfl) (by kernel_rfl) ?g0_r2 ?gop_r2 ?gend_r2
   case g0_r2=>exact⟨F5.ext (Ext.drewN _ 1) hB5,⟨_,b5,fun _=>rfl⟩,fun _=>o5,hB5⟩
   case gop_r2 =>
    refine⟨?o0,?o1,?o2,?o3,?o4,?o5,?o6,trivial⟩ <;> (intro Lx xs wx hG hl ha hb hD hI Qo Kx hK hQo;simp only[Ad,Nat.reduceAdd,Nat.reduceEqDiff,↓reduceIte]at hQo⊢)
    case o0 =>
     have l6:Lx 6=false:=hb 6 rfl;clear hl ha hb hD hI;obtain⟨z,g1,g2⟩:=hG.2.1;obtain rfl:=g2 l6;obtain⟨k0,k1⟩:=g1.cell;go_wp2;exact hK.out _ _ ⟨rfl,hG,kkp⟩
    case o1 =>
     clear hl ha hb hD hI;go_wp2;exact hK.out _ _ ⟨rfl,hG,kkp⟩
    case o2 =>
     clear hl ha hb;rw[ddq (hD 1 rfl)]at hQo⊢;clear hD hI;go_wp2;exact hK.out _ _ ⟨rfl,hG,kkp⟩
    case o3 =>
     clear hl ha hb;rw[ddq (hD 2 rfl)]at hQo⊢;clear hD hI;have hcx:=(hG.1.ib I1 (by decide) (by omega)).cell (i:=2) (by rw[Hl.out];omega);rw[Mac.zs_y]at hcx;go_wp2;exact hK.out _ _ ⟨rfl,hG,kkp⟩
    case o4 =>
     clear hl ha hb;rw[ddq (hD 3 rfl)]at hQo⊢;clear hD hI;go_wp2_with fail
     refine(BG m.y _ (by omega) (by omega)).mono ?_
     rintro e wz ⟨rfl,rfl⟩
     rw[HY.out];go_wp2;exact hK.out _ _ ⟨rfl,hG,kkp⟩
    case o5 =>
     have l5:Lx 5=false:=hl;clear hl ha hb;rw[ddq (hD 0 rfl),ddq (hD 4 rfl)]at hQo⊢;clear hD hI;go_wp2_with fail
     refine(AR _ N5 L5 ya 2 B0 2 rfl wx (hG.2.2.1 l5) hG.2.2.2 (by omega) (by omega) (by omega)).mono ?_
     rintro e wz ⟨az,cz,rfl,oz,fz⟩
     go_wp2;have hst:∀(wy:World),True→Stbn 7 5 [[],[],[1],[1,2],[1,2,3],[0,1,2,3,4],[0,1,2,3,4,5]] (fun i own ys wx=>match i with|0=>own= .slice a4 N5 c4|1=>own= .pointer (some ⟨Bx+1,1,none⟩)|2=>own= .pointer (some ⟨Bx+1,2,none⟩)|3=>own= .int .i64 m.y|4=>own= .int .i64 (ya:Nat)|5=>∃(a3:Option Addr) (c3:Nat),own= .slice a3 (N5+numN ya) c3∧wx.ownsRow B0 118 2 (.slice a3 (N5+numN ya) c3) (N5+numN ya) ((L5++numL ya 2).map (Value.int .i64))|6=>∃(a3:Option Addr) (c3:Nat),BB wx Bx (.slice a3 (N5+numN ya) c3)∧wx.ownsRow B0 118 2 (.slice a3 (N5+numN ya) c3) (N5+numN ya) ((L5++numL ya 2).map (Value.int .i64))|_=>True) wx wy:=by
      intro wy hy ii hii hne hc own ys h
      match ii,h with
      | 0,h|1,h|2,h|3,h|4,h=>exact h
      | 5,h=>exact absurd rfl hne
      | 6,h=>exact absurd hc (by decide)
      | _+7,_=>trivial
     obtain⟨z,g1,g2⟩:=hG.2.1;exact hK.out _ _ ⟨⟨az,cz,rfl,oz⟩,⟨hG.1.fr fz,⟨z,g1.fr fz,g2⟩,(fun x=>Bool.noConfusion x),Nat.le_trans hG.2.2.2 fz.size⟩,hst _ trivial⟩
    case o6 =>
     clear hl ha hb;have d5:∃(a3:Option Addr) (c3:Nat),(xs 5) = .slice a3 (N5+numN ya) c3∧wx.ownsRow B0 118 2 (.slice a3 (N5+numN ya) c3) (N5+numN ya) ((L5++numL ya 2).map (Value.int .i64)):=hD 5 rfl;clear hD hI;generalize xs 5=y5 at *;obtain⟨a3,c3,rfl,o3⟩:=d5;obtain⟨z,g1,g2⟩:=hG.2.1;obtain⟨k0,k1⟩:=g1.cell;go_wp2;have hst:∀(wy:World),(∀(v:Value) (n:Nat) (us:List Value),wx.ownsRow B0 118 2 v n us→wy.ownsRow B0 118 2 v n us)→Stbn 7 6 [[],[],[1],[1,2],[1,2,3],[0,1,2,3,4],[0,1,2,3,4,5]] (fun i own ys wx=>match i with|0=>own= .slice a4 N5 c4|1=>own= .pointer (some ⟨Bx+1,1,none⟩)|2=>own= .pointer (some ⟨Bx+1,2,none⟩)|3=>own= .int .i64 m.y|4=>own= .int .i64 (ya:Nat)|5=>∃(a3:Option Addr) (c3:Nat),own= .slice a3 (N5+numN ya) c3∧wx.ownsRow B0 118 2 (.slice a3 (N5+numN ya) c3) (N5+numN ya) ((L5++numL ya 2).map (Value.int .i64))|6=>∃(a3:Option Addr) (c3:Nat),BB wx Bx (.slice a3 (N5+numN ya) c3)∧wx.ownsRow B0 118 2 (.slice a3 (N5+numN ya) c3) (N5+numN ya) ((L5++numL ya 2).map (Value.int .i64))|_=>True) wx wy:=by
      intro wy hy ii hii hne hc own ys h
      match ii,h with
      | 0,h|1,h|2,h|3,h|4,h=>exact h
      | 5,h=>obtain⟨a9,c9,h1,h2⟩:=h;exact⟨a9,c9,h1,hy _ _ _ h2⟩
      | 6,h=>exact absurd rfl hne
      | _+7,_=>trivial
     exact hQo undef _ (hK.out _ _ ⟨⟨a3,c3,g1.set _,AK o3 g1⟩,⟨hG.1.set hBX _,⟨_,g1.set _,(fun x=>Bool.noConfusion x)⟩,(fun x=>AK (hG.2.2.1 x) g1),by simpa using hG.2.2.2⟩,hst _ (fun _ _ _ h=>AK h g1)⟩)
   intro xs wx hV hG0;obtain⟨Lx,hL,hG⟩:=hG0;have l5:Lx 5=true:=hL 5 (by decide);have l6:Lx 6=true:=hL 6 (by decide);clear hL;have d6:∃(a3:Option Addr) (c3:Nat),BB wx Bx (.slice a3 (N5+numN ya) c3)∧wx.ownsRow B0 118 2 (.slice a3 (N5+numN ya) c3) (N5+numN ya) ((L5++numL ya 2).map (Value.int .i64)):=hV 6 (by decide);clear hV;simp only[Ad,Nat.reduceAdd,Nat.reduceEqDiff,↓reduceIte];generalize xs 0=y0,xs 1=y1,xs 2=y2,xs 3=y3,xs 4=y4,xs 5=y5,xs 6=y6 at *
   replace hG:FX B0 118 Bx w1 wx∧(∃ z,BB wx Bx z∧(Lx 6=false→z= .slice a4 N5 c4))∧(Lx 5=false→wx.ownsRow B0 118 2 (.slice a4 N5 c4) N5 (L5.map (Value.int .i64)))∧B0≤wx.heap.size:=hG
   obtain⟨a6,c6,b4,o4⟩:=d6;obtain⟨N6,hN6⟩:∃ q,q=N5+numN ya:=⟨_,rfl⟩;obtain⟨L6,hL6⟩:∃ q,q=L5++numL ya 2:=⟨_,rfl⟩;rw[←hN6]at b4 o4;rw[←hL6]at o4;try rw[←hN6]
   have F6:=hG.1;have hB6:=hG.2.2.2;have HN6:=Aa hN6;have HL6:=Aa hL6;have hNb6:N6≤102000:=by have:=Bh (show ya<32768 by omega);omega
   have b6:=b4;have o6:=o4;clear hN6 hL6 hG F5 b5 o5 hB5 b4 o4;generalize wx=w5 at *;go_wp2;go_meet
   case rel=>exact⟨a6,c6,F6,by rw[HMN.out,show N0+(2+(numN xa+numN ya))=N6 by rw[HN6.out,HN5.out,HN0.out];omega];exact b6,by rw[HMN.out,HML.out,show N0+(2+(numN xa+numN ya))=N6 by rw[HN6.out,HN5.out,HN0.out];omega];exact ownc o6 (by rw[HL6.out,HL5.out,HXS.out];simp),hB6⟩
  ·have hke:(m.kind == 1)=false:=by simpa using h1
   have h2:m.kind=2:=by have:=HK0.out;omega
   have HK2:=Aa h2;have HMN:=Aa (show miN m=2+mdN m 4 by rw[miN,if_neg h1]);have HML:=Aa (show miL m = [0,1,1,m.kind-1]++mdL m 4 by rw[miL,if_neg h1];rfl);have I3:=F0.ib I1 (by decide) (by omega);rw[hke];clear h1 h2 hke;go_wp2_with (refine Ab 46 _ rfl rfl I3 3 4 rfl _ Rp rfl BZ (by rw[Hl.out];omega) _ (by rw[Mac.zs_modes Hm.out]) ?_)
   go_loopw [46] (fun y wr=>∃ k:Nat,k≤4∧y= .int .i64 k∧FX B0 118 Bx w1 wr∧B0≤wr.heap.size∧∃ a c,BB wr Bx (.slice a (N+mdN m k) c)∧wr.ownsRow B0 118 2 (.slice a (N+mdN m k) c) (N+mdN m k) ((L++mdL m k).map (Value.int .i64))) (fun y _=>4-(intOf y).toNat)
   case atStart=>exact⟨0,by omega,rfl,F0,hB0,_,_,b0,by simpa [mdL,mdN] using o0⟩
   case round =>
    obtain⟨k,hk,rfl,F4,hB4,a4,c4,b4,o4⟩:=hrel;clear F0 b0 o0 hB0
    by_cases hlt:k<4
    ·have hd:decide ((k:Int)<4)=true:=by simp;omega
     obtain⟨z,ez,lz⟩:=JI HV.out HK2.out hlt;have HZ:=Aa ez;have hmn:=GU HV.out HK2.out k (by omega);have HLs:=Aa (show mdL m (k+1)=mdL m k++numL z 9 by rw[mdL,ez];simp);have HC:=Aa (show N+mdN m k+numN z=N+mdN m (k+1) by rw[mdN,ez];simp;omega);obtain⟨k0,k1⟩:=b4.cell;clear ez;go_wp2_with (refine AF 46 _ _ rfl rfl m.modes rfl k 4 _ rfl rfl 3 Rp Rt AC hlt Hm.out.modes ?_;rw[HZ.out])
     refine(AR _ (N+mdN m k) (L++mdL m k) z 9 B0 9 rfl _ o4 hB4 (by omega) (by omega) (by omega)).mono ?_
     rintro e w5 ⟨a5,c5,rfl,o5,f5⟩
     rw[HC.out]at o5⊢;have b5:=b4.fr f5;clear k0 k1;obtain⟨k0,k1⟩:=b5.cell;have F6:=(F4.fr f5).set hBX (.slice a5 (N+mdN m (k+1)) c5);have b6:=b5.set (.slice a5 (N+mdN m (k+1)) c5);have o6:=AK (u := .slice a5 (N+mdN m (k+1)) c5) o5 b5;have hB6:B0≤(w5.setCell ⟨Bx,0,none⟩ (.slice a5 (N+mdN m (k+1)) c5)).heap.size:=by have:=Nat.le_trans hB4 f5.size;simpa using this
     clear b5 o5 F4 f5 b4 o4;go_wp2;go_roundw
     case rel=>exact⟨k+1,by omega,by go_num,F6,hB6,_,_,b6,ownc o6 (by rw[HLs.out];simp)⟩
     case measure=>simp[intOf] <;> omega
    ·have HKR:=Aa (show k=4 by omega);have hd:decide ((k:Int)<4)=false:=by simp;omega
     go_wp2;go_meet
     case rel=>exact⟨a4,c4,F4,by rw[HMN.out,show N0+(2+mdN m 4)=N+mdN m k by rw[HKR.out,HN0.out];omega];exact b4,by rw[HMN.out,HML.out,show N0+(2+mdN m 4)=N+mdN m k by rw[HKR.out,HN0.out];omega];exact ownc o4 (by rw[HKR.out,HXS.out];simp),hB4⟩
 case rest =>
  obtain⟨a6,c6,F6,b6,o6,hB6⟩:=hcut;clear hk0 q1 q2 q3 q4 lx ly HX HY;have HB1:=Aa (show B0≤w1.heap.size by have:=HS1.out;omega);have HBw:=Aa (show Bx<w1.heap.size by have:=HS1.out;omega);have I5:=F6.ib I1 (by decide) (by omega);go_wp2_with (refine Ab 48 _ rfl rfl I5 7 64 rfl _ Rs rfl Be (by rw[Hl.out];omega) _ (by rw[Mac.zs_lv Hm.out]) ?_)
  refine wp_loop (LPI m N0 xs0 B0 Bx w1) (fun a _=>4-(intOf (a.tmps.getD 55 undef)).toNat) ?lp0 ?lpr
  case lp0=>exact⟨0,[],_,rfl,rfl,rfl,rfl,rfl,rfl,by omega,trivial,F6,hB6,a6,c6,b6,o6⟩
  case lpr =>
   intro a wr hI;obtain⟨k,ds,f,rfl,hk,hM,F7,hB7,a7,c7,b7,o7⟩:=hI.elim;clear hI F6 b6 o6 hB6 I5
   by_cases hlt:k<4
   ·have hd:decide ((k:Int)<4)=true:=by simp;omega
    obtain⟨zs,hzs⟩:∃ zs,zs=sub m.lv (k*16) 16:=⟨_,rfl⟩;obtain⟨l1,l2⟩:=JF Hm.out HV.out hlt;rw[←hzs]at l1 l2;have Hz:=Aa hzs;have Hzl:=Aa l1;have Hzb:=Aa l2;have hbc:=Ew l1 l2;have hln:=Ic Hm.out HV.out HK0.out k (by omega);have HLs:=Aa (show lvBn m (k+1)=lvBn m k++blkB zs by rw[hzs];rfl);have HC:=Aa (show lvNn m (k+1)=lvNn m k+blkC zs by rw[hzs];rfl);have hR:=Dt zs;clear hzs l1 l2;obtain⟨Nk,hNk⟩:∃ q,q=N0+lvNn m k:=⟨_,rfl⟩;obtain⟨Lk,hLk⟩:∃ q,q=xs0++lvBn m k:=⟨_,rfl⟩;rw[←hNk]at b7 o7;rw[←hLk]at o7;have HNk:=Aa hNk;have HLk:=Aa hLk;have hNkb:Nk≤105000:=by omega
    clear hNk hLk;obtain⟨Zb,hZb⟩:∃ q,q=wr.heap.size:=⟨_,rfl⟩;have p0:=IB.new wr 47 (zl 16);go_upto_region 16 with(first|(refine Bg _ _ _ rfl rfl m.lv rfl k 4 16 _ rfl rfl _ _ Rs Rm rfl Ba hlt ?_;rw[←Hz.out])|(refine Au 47 rfl rfl 16 IF ?_;(try simp only[World.size_alloc]))|(refine Af 47 _ _ rfl rfl p0 0 16 rfl _ rfl zs rfl Ba Hzl.out (by simp[zl]) ?_;intro w8 p8 g8;refine Hid.out ?_))
    refine Aa ?_;rw[Ap (by rw[Hzl.out,AB])]at p8;rw[←hZb]at p8 g8⊢;have hsz7:=F7.size;have hbw:=HBw.out;have F8:FX B0 118 Bx w1 w8:=(F7.ext (Ext.alloc wr (.cells (ic (zl 16)) 47)) hB7).grown g8 (fun r e=>by cases e;omega) HB1.out;have b8:BB w8 Bx (.slice a7 Nk c7):=Ar ((Ext.alloc wr (.cells (ic (zl 16)) 47)).blk b7) g8 (by simp;omega);have o8:=(Ae o7 (Ext.alloc wr (.cells (ic (zl 16)) 47))).kept g8 (by
     cases ha:a7 with
     | none=>exact .inl rfl
     | some y=>right;have:=(o7.lt y.block (by rw[ha];rfl)).2;simp[Value.ownBlock];omega)
    have M8:=MK.keep (w':=w8) (fun i o h _=>(g8.block i (by have:=lt_of_block h;simp;omega) (fun e=>by have:=lt_of_block h;cases e;omega)).trans ((Ext.alloc wr (.cells (ic (zl 16)) 47)).blk h)) ds hM;have hB8:B0≤w8.heap.size:=Nat.le_trans HB1.out F8.size;have hZX:Zb≠Bx:=by omega
    have HZb:=Aa hZb;clear p0 g8 F7 b7 o7 hM hB7 hZb;go_upto_region 16 with fail
    have hext:Stab (fun wa wb=>Ext wa wb) (fun i own ys wx=>match i with|0=>own= .slice a7 Nk c7|1=>own= .agg (ic zs)|2=>own= .int .i64 ((Ao zs).length:Nat)|3=>∃(a3:Option Addr) (c3:Nat),own= .slice a3 (Nk+numN (Ao zs).length) c3∧wx.ownsRow B0 118 2 (.slice a3 (Nk+numN (Ao zs).length) c3) (Nk+numN (Ao zs).length) ((Lk++numL (Ao zs).length 16).map (Value.int .i64))|4=>∃(a3:Option Addr) (c3:Nat),BB wx Bx (.slice a3 (Nk+numN (Ao zs).length) c3)∧wx.ownsRow B0 118 2 (.slice a3 (Nk+numN (Ao zs).length) c3) (Nk+numN (Ao zs).length) ((Lk++numL (Ao zs).length 16).map (Value.int .i64))|_=>True):=by
     intro i own ys wa wb e h
     match i,h with
     | 0,h|1,h|2,h=>exact h
     | 3,h=>obtain⟨a9,c9,h1,h2⟩:=h;exact⟨a9,c9,h1,Ae h2 e⟩
     | 4,h=>obtain⟨a9,c9,h1,h2⟩:=h;exact⟨a9,c9,h1.ext e,Ae h2 e⟩
     | _+5,_=>trivial
    have Hext:=Aa hext;clear hext;refine Am (by kernel_rfl) [(58,0),(59,1),(60,2),(61,3)] [[],[],[1],[0,1,2],[0,1,2,3]] (fun i own ys wx=>match i with|0=>own= .slice a7 Nk c7|1=>own= .agg (ic zs)|2=>own= .int .i64 ((Ao zs).length:Nat)|3=>∃(a3:Option Addr) (c3:Nat),own= .slice a3 (Nk+numN (Ao zs).length) c3∧wx.ownsRow B0 118 2 (.slice a3 (Nk+numN (Ao zs).length) c3) (Nk+numN (Ao zs).length) ((Lk++numL (Ao zs).length 16).map (Value.int .i64))|4=>∃(a3:Option Addr) (c3:Nat),BB wx Bx (.slice a3 (Nk+numN (Ao zs).length) c3)∧wx.ownsRow B0 118 2 (.slice a3 (Nk+numN (Ao zs).length) c3) (Nk+numN (Ao zs).length) ((Lk++numL (Ao zs).length 16).map (Value.int .i64))|_=>True) (fun Lx wx=>FX B0 118 Bx w8 wx∧(∃ z,BB wx Bx z∧(Lx 4=false→z= .slice a7 Nk c7))∧(Lx 3=false→wx.ownsRow B0 118 2 (.slice a7 Nk c7) Nk (Lk.map (Value.int .i64)))∧B0≤wx.heap.size) (by kernel_rfl) (by kernel_rfl) (by kernel_rfl) ?g0_r3 ?gop_r3 ?gend_r3
    case g0_r3=>exact⟨(FX.refl B0 118 Bx w8).ext (Ext.drewN _ 1) hB8,⟨_,b8,fun _=>rfl⟩,fun _=>o8,hB8⟩
    case gop_r3 =>
     refine⟨?o0,?o1,?o2,?o3,?o4,trivial⟩ <;> (intro Lx xs wx hG hl ha hb hD hI Qo Kx hK hQo;simp only[Ad,Nat.reduceAdd,Nat.reduceEqDiff,↓reduceIte]at hQo⊢)
     case o0 =>
      have l4:Lx 4=false:=hb 4 rfl;clear hl ha hb hD hI;obtain⟨z,g1,g2⟩:=hG.2.1;obtain rfl:=g2 l4;obtain⟨k0,k1⟩:=g1.cell;go_wp2;exact hK.out _ _ ⟨rfl,hG,kkp⟩
     case o1 =>
      clear hl ha hb hD hI;have zx:=hG.1.ib p8 (by decide) hZX;go_wp2_with (refine Ab 47 _ rfl rfl zx 0 16 rfl _ Rm rfl Ba (by rw[Hzl.out];omega) _ (by rw[Ak _ _ Hzl.out]) ?_)
      exact hK.out _ _ ⟨rfl,hG,kkp⟩
     case o2 =>
      clear hl ha hb;rw[ddq (hD 1 rfl)]at hQo⊢;clear hD hI;go_wp2_with fail
      refine(Ea zs _ Hzl.out 4080 Hzb.out).mono ?_
      rintro e wz ⟨rfl,ez⟩
      go_wp2;obtain⟨z,g1,g2⟩:=hG.2.1;exact hK.out _ _ ⟨rfl,⟨hG.1.ext ez hG.2.2.2,⟨z,g1.ext ez,g2⟩,(fun x=>Ae (hG.2.2.1 x) ez),Nat.le_trans hG.2.2.2 ez.size⟩,fun i _ _ _ own ys h=>Hext.out i own ys _ _ ez h⟩
     case o3 =>
      have l3:Lx 3=false:=hl;clear hl ha hb;rw[ddq (hD 0 rfl),ddq (hD 2 rfl)]at hQo⊢;clear hD hI;go_wp2_with fail
      refine(AR _ Nk Lk (Ao zs).length 16 B0 16 rfl wx (hG.2.2.1 l3) hG.2.2.2 (by omega) (by omega) (by omega)).mono ?_
      rintro e wz ⟨az,cz,rfl,oz,fz⟩
      go_wp2;have hst:∀(wy:World),True→Stbn 5 3 [[],[],[1],[0,1,2],[0,1,2,3]] (fun i own ys wx=>match i with|0=>own= .slice a7 Nk c7|1=>own= .agg (ic zs)|2=>own= .int .i64 ((Ao zs).length:Nat)|3=>∃(a3:Option Addr) (c3:Nat),own= .slice a3 (Nk+numN (Ao zs).length) c3∧wx.ownsRow B0 118 2 (.slice a3 (Nk+numN (Ao zs).length) c3) (Nk+numN (Ao zs).length) ((Lk++numL (Ao zs).length 16).map (Value.int .i64))|4=>∃(a3:Option Addr) (c3:Nat),BB wx Bx (.slice a3 (Nk+numN (Ao zs).length) c3)∧wx.ownsRow B0 118 2 (.slice a3 (Nk+numN (Ao zs).length) c3) (Nk+numN (Ao zs).length) ((Lk++numL (Ao zs).length 16).map (Value.int .i64))|_=>True) wx wy:=by
       intro wy hy ii hii hne hc own ys h
       match ii,h with
       | 0,h|1,h|2,h=>exact h
       | 3,h=>exact absurd rfl hne
       | 4,h=>exact absurd hc (by decide)
       | _+5,_=>trivial
      obtain⟨z,g1,g2⟩:=hG.2.1;exact hK.out _ _ ⟨⟨az,cz,rfl,oz⟩,⟨hG.1.fr fz,⟨z,g1.fr fz,g2⟩,(fun x=>Bool.noConfusion x),Nat.le_trans hG.2.2.2 fz.size⟩,hst _ trivial⟩
     case o4 =>
      clear hl ha hb;have d3:∃(a3:Option Addr) (c3:Nat),(xs 3) = .slice a3 (Nk+numN (Ao zs).length) c3∧wx.ownsRow B0 118 2 (.slice a3 (Nk+numN (Ao zs).length) c3) (Nk+numN (Ao zs).length) ((Lk++numL (Ao zs).length 16).map (Value.int .i64)):=hD 3 rfl;clear hD hI;generalize xs 3=y3 at *;obtain⟨a3,c3,rfl,o3⟩:=d3;obtain⟨z,g1,g2⟩:=hG.2.1;obtain⟨k0,k1⟩:=g1.cell;go_wp2;have hst:∀(wy:World),(∀(v:Value) (n:Nat) (us:List Value),wx.ownsRow B0 118 2 v n us→wy.ownsRow B0 118 2 v n us)→Stbn 5 4 [[],[],[1],[0,1,2],[0,1,2,3]] (fun i own ys wx=>match i with|0=>own= .slice a7 Nk c7|1=>own= .agg (ic zs)|2=>own= .int .i64 ((Ao zs).length:Nat)|3=>∃(a3:Option Addr) (c3:Nat),own= .slice a3 (Nk+numN (Ao zs).length) c3∧wx.ownsRow B0 118 2 (.slice a3 (Nk+numN (Ao zs).length) c3) (Nk+numN (Ao zs).length) ((Lk++numL (Ao zs).length 16).map (Value.int .i64))|4=>∃(a3:Option Addr) (c3:Nat),BB wx Bx (.slice a3 (Nk+numN (Ao zs).length) c3)∧wx.ownsRow B0 118 2 (.slice a3 (Nk+numN (Ao zs).length) c3) (Nk+numN (Ao zs).length) ((Lk++numL (Ao zs).length 16).map (Value.int .i64))|_=>True) wx wy:=by
       intro wy hy ii hii hne hc own ys h
       match ii,h with
       | 0,h|1,h|2,h=>exact h
       | 3,h=>obtain⟨a9,c9,h1,h2⟩:=h;exact⟨a9,c9,h1,hy _ _ _ h2⟩
       | 4,h=>exact absurd rfl hne
       | _+5,_=>trivial
      exact hQo undef _ (hK.out _ _ ⟨⟨a3,c3,g1.set _,AK o3 g1⟩,⟨hG.1.set hBX _,⟨_,g1.set _,(fun x=>Bool.noConfusion x)⟩,(fun x=>AK (hG.2.2.1 x) g1),by simpa using hG.2.2.2⟩,hst _ (fun _ _ _ h=>AK h g1)⟩)
    clear Hext;intro xs wx hV hG0;obtain⟨Lx,hL,hG⟩:=hG0;have l3:Lx 3=true:=hL 3 (by decide);have l4:Lx 4=true:=hL 4 (by decide);clear hL;have d4:∃(a3:Option Addr) (c3:Nat),BB wx Bx (.slice a3 (Nk+numN (Ao zs).length) c3)∧wx.ownsRow B0 118 2 (.slice a3 (Nk+numN (Ao zs).length) c3) (Nk+numN (Ao zs).length) ((Lk++numL (Ao zs).length 16).map (Value.int .i64)):=hV 4 (by decide);clear hV;simp only[Ad,Nat.reduceAdd,Nat.reduceEqDiff,↓reduceIte];generalize xs 0=y0,xs 1=y1,xs 2=y2,xs 3=y3,xs 4=y4 at *
    replace hG:FX B0 118 Bx w8 wx∧(∃ z,BB wx Bx z∧(Lx 4=false→z= .slice a7 Nk c7))∧(Lx 3=false→wx.ownsRow B0 118 2 (.slice a7 Nk c7) Nk (Lk.map (Value.int .i64)))∧B0≤wx.heap.size:=hG
    obtain⟨a4,c4,b4,o4⟩:=d4;have F9:=F8.trans hG.1;have Z9:=hG.1.ib p8 (by decide) hZX;have M9:=MK.ko (hG.1.keepsN b8) ds M8;have hB9:=hG.2.2.2;obtain⟨N9,hN9⟩:∃ q,q=Nk+numN (Ao zs).length:=⟨_,rfl⟩;obtain⟨L9,hL9⟩:∃ q,q=Lk++numL (Ao zs).length 16:=⟨_,rfl⟩;rw[←hN9]at b4 o4;rw[←hL9]at o4;have HN9:=Aa hN9;have HL9:=Aa hL9;have hN9b:N9≤106000:=by have:=Bh (show(Ao zs).length<32768 by omega);omega
    clear hN9 hL9 hG F8 b8 o8 hB8 p8 M8;generalize wx=w9 at *;go_wp2_with (refine Ab 47 _ rfl rfl Z9 0 16 rfl _ Rm rfl Ba (by rw[Hzl.out];omega) _ (by rw[Ak _ _ Hzl.out]) ?_)
    refine(GZ zs _).mono ?_
    rintro e w10 ⟨rfl,rfl⟩
    obtain⟨Ib,hIb⟩:∃ q,q=w9.heap.size:=⟨_,rfl⟩;have IL:=IB.new w9 47 zs;have eL:=Ext.alloc w9 (.cells (ic zs) 47);have F10:=F9.ext eL hB9;have b10:=b4.ext eL;have o10:=Ae o4 eL;have M10:=MK.ko (KeepsOthers.alloc w9 (.cells (ic zs) 47)) ds M9;have hsL:(w9.alloc (.cells (ic zs) 47)).heap.size=Ib+1:=by simp[hIb]
    have hsz9:=F9.size;rw[←hIb]at IL⊢;generalize w9.alloc (.cells (ic zs) 47)=wL at *;have hB10:B0≤wL.heap.size:=by omega
    have HSL:=Aa hsL;have hIL:Ib<wL.heap.size:=by omega
    have hbL:Bx<wL.heap.size:=by omega
    have hbI:Bx<Ib:=by omega
    clear hsL eL F9 Z9 M9 hB9 b4 o4 hIb;go_upto_region 99 with fail
    refine(wpIn_wide (n:=4)).1 ?_;refine wpIn_rangeFunc_ownH rfl (by omega) (gf:=139) (lb := #[.pointer (some ⟨Ib,0,none⟩)]) rfl trivial (enters_of Tryz.func139 (by kernel_rfl) rfl)
     (G5 3 (by omega) Ib zs 4080 Hzl.out Hzb.out wL IL) keepB.t (keepB.b hIL) (Below.refl _ _) (fun _=>rfl)
     (fun pre W=>RI B0 Bx wL Ib zs N9 L9 pre W) (fun _ _ _=>False) (RI.own hB10) (fun _ _ _ _ _ h _ _=>h) ⟨FX.refl _ _ _ _,IL,_,_,b10,by simpa [rcL,rcN] using o10⟩ (AX Bx wL) (AX.own Bx wL) ?assign ?body ?done ?stop
    case assign =>
     intro l pre x W K hI hK;simp[encR]
     gi_wp2
     have e:=Ext.alloc W (.cells #[.int .i64 x.1.1,.int .i64 x.1.2] 125);exact hK _ _ ((KeepsOthers.alloc _ _).from _) ((e.blk hI.ib).trans hI.ib.symm) (hI.ext e hB10) ⟨W.heap.size,_,hI.fx.size,Aj _ _,rfl,rfl,rfl,rfl⟩
    case body =>
     rintro l pre x a' W hl ⟨r,hr⟩ hI hAX hlen
     obtain⟨Rx,f,hRx,bR,rfl⟩:=hAX.elim;obtain⟨fx,ib,aW,cW,bW,oW⟩:=hI;obtain⟨zz,ss,ez,lz,es,ls,v1,v2⟩:=Nj x;have hcount:=Ni pre;have HCN:=Aa (show N9+rcN ((pre ++ [x]).map (·.1))=N9+rcN (pre.map (·.1))+numN zz+numN ss by rw[List.map_append,List.map_cons,List.map_nil,Ik,ez,es];simp;omega);have HCL:=Aa (show L9++rcL ((pre ++ [x]).map (·.1))=L9++rcL (pre.map (·.1))++numL zz 23++numL ss 30 by rw[List.map_append,List.map_cons,List.map_nil,Ij,ez,es];simp);obtain⟨NW,hNW⟩:∃ q,q=N9+rcN (pre.map (·.1)):=⟨_,rfl⟩;obtain⟨LW,hLW⟩:∃ q,q=L9++rcL (pre.map (·.1)):=⟨_,rfl⟩;rw[←hNW]at bW oW HCN;rw[←hLW]at oW HCL;have hNWb:NW≤107000:=by omega
     obtain⟨lv,hlv⟩:∃ q,q=x.1.2:=⟨_,rfl⟩;rw[←hlv]at bR es v1 v2;rw[ez]at bR;have HE:=Aa es;have hBW:B0≤W.heap.size:=Nat.le_trans hB10 fx.size;have hRX:Rx≠Bx:=by omega
     have hIX:Ib≠Bx:=by omega
     have q1:=Bh (show zz<32768 by omega);clear hNW hLW hlv ez es hcount hAX;obtain⟨k0,k1⟩:=bW.cell;obtain⟨-,r0,r1,-⟩:=bx2 bR
     gi_wp2_with fail
     refine⟨trivial,?_⟩;refine(CallsIn.inRound _ (callsIn_wide.2 (AR _ NW LW zz 23 B0 23 rfl _ oW hBW (by omega) (by omega) (by omega)))).mono ?_
     rintro e w5 ⟨a5,c5,rfl,o5,f5⟩
     obtain⟨NZ,hNZ⟩:∃ q,q=NW+numN zz:=⟨_,rfl⟩;obtain⟨LZ,hLZ⟩:∃ q,q=LW++numL zz 23:=⟨_,rfl⟩;rw[←hNZ]at o5 HCN⊢;rw[←hLZ]at o5 HCL;have hNZb:NZ≤108000:=by omega
     clear hNZ hLZ;have b5:=bW.fr f5;clear k0 k1 r0 r1;obtain⟨k0,k1⟩:=b5.cell;have FA:=((FX.refl B0 118 Bx W).fr f5).set hBX (.slice a5 NZ c5);have b6:=b5.set (.slice a5 NZ c5);have o6:=AK (u := .slice a5 NZ c5) o5 b5;have hB6:B0≤(w5.setCell ⟨Bx,0,none⟩ (.slice a5 NZ c5)).heap.size:=Nat.le_trans hBW FA.size;have bR6:=FA.ot _ _ bR (fun cs fr e=>by cases e) hRX
     gi_wp2_with fail
     generalize w5.setCell ⟨Bx,0,none⟩ (.slice a5 NZ c5)=w6 at *;clear k0 k1 b5 o5 f5 oW;refine Es (by kernel_rfl) (by kernel_rfl) [(69,0),(70,1),(71,2),(72,3),(73,4),(74,5)] [[],[],[1],[1,2],[1,2,3],[0,1,2,3,4],[0,1,2,3,4,5]] (fun i own ys wx=>match i with|0=>own= .slice a5 NZ c5|1=>own= .pointer (some ⟨Rx,1,none⟩)|2=>own= .int .i64 lv|3=>own= .int .i64 ((ss:Int)+1)|4=>own= .int .i64 (ss:Nat)|5=>∃(a3:Option Addr) (c3:Nat),own= .slice a3 (NZ+numN ss) c3∧wx.ownsRow B0 118 2 (.slice a3 (NZ+numN ss) c3) (NZ+numN ss) ((LZ++numL ss 30).map (Value.int .i64))|6=>∃(a3:Option Addr) (c3:Nat),BB wx Bx (.slice a3 (NZ+numN ss) c3)∧wx.ownsRow B0 118 2 (.slice a3 (NZ+numN ss) c3) (NZ+numN ss) ((LZ++numL ss 30).map (Value.int .i64))|_=>True) (fun Lx wx=>FX B0 118 Bx w6 wx∧(∃ z,BB wx Bx z∧(Lx 6=false→z= .slice a5 NZ c5))∧(Lx 5=false→wx.ownsRow B0 118 2 (.slice a5 NZ c5) NZ (LZ.map (Value.int .i64)))∧B0≤wx.heap.size) (by kernel_rfl) (by kernel_rfl) (by kernel_rfl) ?g0_r4 ?gop_r4 ?gend_r4
     case g0_r4=>exact⟨(FX.refl B0 118 Bx w6).ext (Ext.drewN _ 1) hB6,⟨_,b6,fun _=>rfl⟩,fun _=>o6,hB6⟩
     case gop_r4 =>
      refine⟨?o0,?o1,?o2,?o3,?o4,?o5,?o6,trivial⟩ <;> (intro Lx xs wx hG hl ha hb hD hI Qo Kx hK hQo;simp only[Ad,Nat.reduceAdd,Nat.reduceEqDiff,↓reduceIte]at hQo⊢)
      case o0 =>
       have l6:Lx 6=false:=hb 6 rfl;clear hl ha hb hD hI;obtain⟨z,g1,g2⟩:=hG.2.1;obtain rfl:=g2 l6;obtain⟨k0,k1⟩:=g1.cell;go_wp2;exact hK.out _ _ ⟨rfl,hG,kkp⟩
      case o1 =>
       clear hl ha hb hD hI;go_wp2;exact hK.out _ _ ⟨rfl,hG,kkp⟩
      case o2 =>
       clear hl ha hb;rw[ddq (hD 1 rfl)]at hQo⊢;clear hD hI;have bx:=hG.1.ot _ _ bR6 (fun cs fr e=>by cases e) hRX;obtain⟨-,r0,r1,-⟩:=bx2 bx;go_wp2;exact hK.out _ _ ⟨rfl,hG,kkp⟩
      case o3 =>
       clear hl ha hb;rw[ddq (hD 2 rfl)]at hQo⊢;clear hD hI;go_wp2_with fail
       refine(BG lv _ (by omega) (by omega)).mono ?_
       rintro e wz ⟨rfl,rfl⟩
       rw[show Value.int .i64 (sidx lv)=Value.int .i64 ((ss:Int)+1) by rw[←HE.out];congr 1;omega];go_wp2;exact hK.out _ _ ⟨rfl,hG,kkp⟩
      case o4 =>
       clear hl ha hb;rw[ddq (hD 3 rfl)]at hQo⊢;clear hD hI;go_wp2;exact hK.out _ _ ⟨by first|rfl|(congr 1;omega),hG,fun _ _ _ _ _ _ h=>h⟩
      case o5 =>
       have l5:Lx 5=false:=hl;clear hl ha hb;rw[ddq (hD 0 rfl),ddq (hD 4 rfl)]at hQo⊢;clear hD hI;go_wp2_with fail
       refine(AR _ NZ LZ ss 30 B0 30 rfl wx (hG.2.2.1 l5) hG.2.2.2 (by omega) (by omega) (by omega)).mono ?_
       rintro e wz ⟨az,cz,rfl,oz,fz⟩
       go_wp2;have hst:∀(wy:World),True→Stbn 7 5 [[],[],[1],[1,2],[1,2,3],[0,1,2,3,4],[0,1,2,3,4,5]] (fun i own ys wx=>match i with|0=>own= .slice a5 NZ c5|1=>own= .pointer (some ⟨Rx,1,none⟩)|2=>own= .int .i64 lv|3=>own= .int .i64 ((ss:Int)+1)|4=>own= .int .i64 (ss:Nat)|5=>∃(a3:Option Addr) (c3:Nat),own= .slice a3 (NZ+numN ss) c3∧wx.ownsRow B0 118 2 (.slice a3 (NZ+numN ss) c3) (NZ+numN ss) ((LZ++numL ss 30).map (Value.int .i64))|6=>∃(a3:Option Addr) (c3:Nat),BB wx Bx (.slice a3 (NZ+numN ss) c3)∧wx.ownsRow B0 118 2 (.slice a3 (NZ+numN ss) c3) (NZ+numN ss) ((LZ++numL ss 30).map (Value.int .i64))|_=>True) wx wy:=by
        intro wy hy ii hii hne hc own ys h
        match ii,h with
        | 0,h|1,h|2,h|3,h|4,h=>exact h
        | 5,h=>exact absurd rfl hne
        | 6,h=>exact absurd hc (by decide)
        | _+7,_=>trivial
       obtain⟨z,g1,g2⟩:=hG.2.1;exact hK.out _ _ ⟨⟨az,cz,rfl,oz⟩,⟨hG.1.fr fz,⟨z,g1.fr fz,g2⟩,(fun x=>Bool.noConfusion x),Nat.le_trans hG.2.2.2 fz.size⟩,hst _ trivial⟩
      case o6 =>
       clear hl ha hb;have d5:∃(a3:Option Addr) (c3:Nat),(xs 5) = .slice a3 (NZ+numN ss) c3∧wx.ownsRow B0 118 2 (.slice a3 (NZ+numN ss) c3) (NZ+numN ss) ((LZ++numL ss 30).map (Value.int .i64)):=hD 5 rfl;clear hD hI;generalize xs 5=y5 at *;obtain⟨a3,c3,rfl,o3⟩:=d5;obtain⟨z,g1,g2⟩:=hG.2.1;obtain⟨k0,k1⟩:=g1.cell;go_wp2;have hst:∀(wy:World),(∀(v:Value) (n:Nat) (us:List Value),wx.ownsRow B0 118 2 v n us→wy.ownsRow B0 118 2 v n us)→Stbn 7 6 [[],[],[1],[1,2],[1,2,3],[0,1,2,3,4],[0,1,2,3,4,5]] (fun i own ys wx=>match i with|0=>own= .slice a5 NZ c5|1=>own= .pointer (some ⟨Rx,1,none⟩)|2=>own= .int .i64 lv|3=>own= .int .i64 ((ss:Int)+1)|4=>own= .int .i64 (ss:Nat)|5=>∃(a3:Option Addr) (c3:Nat),own= .slice a3 (NZ+numN ss) c3∧wx.ownsRow B0 118 2 (.slice a3 (NZ+numN ss) c3) (NZ+numN ss) ((LZ++numL ss 30).map (Value.int .i64))|6=>∃(a3:Option Addr) (c3:Nat),BB wx Bx (.slice a3 (NZ+numN ss) c3)∧wx.ownsRow B0 118 2 (.slice a3 (NZ+numN ss) c3) (NZ+numN ss) ((LZ++numL ss 30).map (Value.int .i64))|_=>True) wx wy:=by
        intro wy hy ii hii hne hc own ys h
        match ii,h with
        | 0,h|1,h|2,h|3,h|4,h=>exact h
        | 5,h=>obtain⟨a9,c9,h1,h2⟩:=h;exact⟨a9,c9,h1,hy _ _ _ h2⟩
        | 6,h=>exact absurd rfl hne
        | _+7,_=>trivial
       exact hQo undef _ (hK.out _ _ ⟨⟨a3,c3,g1.set _,AK o3 g1⟩,⟨hG.1.set hBX _,⟨_,g1.set _,(fun x=>Bool.noConfusion x)⟩,(fun x=>AK (hG.2.2.1 x) g1),by simpa using hG.2.2.2⟩,hst _ (fun _ _ _ h=>AK h g1)⟩)
     intro xs wx hV hG0;obtain⟨Lx,hL,hG⟩:=hG0;have l5:Lx 5=true:=hL 5 (by decide);have l6:Lx 6=true:=hL 6 (by decide);clear hL;have d6:∃(a3:Option Addr) (c3:Nat),BB wx Bx (.slice a3 (NZ+numN ss) c3)∧wx.ownsRow B0 118 2 (.slice a3 (NZ+numN ss) c3) (NZ+numN ss) ((LZ++numL ss 30).map (Value.int .i64)):=hV 6 (by decide);clear hV;simp only[Ad,Nat.reduceAdd,Nat.reduceEqDiff,↓reduceIte];generalize xs 0=y0,xs 1=y1,xs 2=y2,xs 3=y3,xs 4=y4,xs 5=y5,xs 6=y6 at *
     replace hG:FX B0 118 Bx w6 wx∧(∃ z,BB wx Bx z∧(Lx 6=false→z= .slice a5 NZ c5))∧(Lx 5=false→wx.ownsRow B0 118 2 (.slice a5 NZ c5) NZ (LZ.map (Value.int .i64)))∧B0≤wx.heap.size:=hG
     obtain⟨a4,c4,b4,o4⟩:=d6
     gi_wp2
     have FT:=FA.trans hG.1;exact⟨(FT.keepsN bW).from _,(FT.ib ib (by decide) hIX).trans ib.symm,fx.trans FT,FT.ib ib (by decide) hIX,_,_,by rw[HCN.out];exact b4,by rw[HCN.out,HCL.out];exact o4⟩
    case done =>
     rintro D ys W hD hS hI hK
     obtain⟨fx,ib,aW,cW,bW,oW⟩:=hI;have hS2:ys.map (·.1)=Ao zs:=hS;rw[hS2]at bW oW;obtain⟨u1,u2⟩:=OY zs;have HCN:N9+rcN (Ao zs)=N0+lvNn m (k+1):=by rw[HC.out,HN9.out,HNk.out,u2];omega
     have HCL:L9++rcL (Ao zs)=xs0++lvBn m (k+1):=by rw[HLs.out,HL9.out,HLk.out,u1];simp
     rw[HCN]at bW oW;rw[HCL]at oW;have hszL:=F10.size;have hszW:=fx.size;clear HCN HCL u1 u2 hS hS2;go_wp2;refine⟨⟨k+1,_::ds,_,rfl,rfl,rfl,rfl,rfl,by simp,by omega,⟨D,rfl,by omega,hK,fun d' hd'=>MK.lt ds M10 d' hd' D hD,MK.ko (fx.keepsN b10) ds M10⟩,F10.trans fx,by omega,aW,cW,bW,oW⟩,?_⟩;simp[intOf];omega
    case stop =>
     rintro D c pre W _ _ h _
     exact h.elim
   ·have HKR:=Aa (show k=4 by omega);have hd:decide ((k:Int)<4)=false:=by simp;omega
    obtain⟨k0,k1⟩:=b7.cell;have H1:=Aa (show N0+lvNn m k=N0+macN m by rw[HKR.out,macN,if_neg HK0.out]);have H2:=Aa (show xs0++lvBn m k=xs0++macL m by rw[HKR.out,macL,if_neg HK0.out]);rw[H1.out,H2.out]at o7;rw[H1.out]at b7 k0;go_wp2;show LeavesInM Fence.wide 4 _ _ _ _ ds .returning wr;refine Iz (lo:=w1.heap.size) (fun W=>FX B0 118 Bx w1 W∧W.ownsRow B0 118 2 (.slice a7 (N0+macN m) c7) (N0+macN m) ((xs0++macL m).map (Value.int .i64))) ?_ ?_ ds wr hM ⟨F7,o7⟩
    ·rintro W D hD hk ⟨h1,h2⟩
     exact⟨h1.grown (grownBy_putObj' W D _) (fun r e=>by cases e;exact hD) HB1.out,Ng (n:=w1.heap.size) h2 (grownBy_putObj' W D _) (fun r e=>by cases e;exact⟨hD,_,hk,rfl⟩)⟩
    ·rintro W ⟨h1,h2⟩
     exact⟨_,results_tmp rfl _ _ _,a7,c7,rfl,h2,⟨(E1.mono hB).trans h1.lo,fun i o h3 h4=>h1.ot i o (E1.blk h3) h4 (by have:=lt_of_block h3;have:=HBx.out;omega)⟩⟩
end Go.Proofs.YtijnbalgnhigbaaGreatDoor
namespace Go.Proofs.YtijnbalgnhigbaaGreatDoor
open Go.RowKit
theorem Eb (v0:Value)(N0:Nat)(xs0:List Int)(m:Mac)(B0:Nat)(w:World)(own:w.ownsRow B0 118 2 v0 N0 (xs0.map (Value.int .i64)))(hB:B0≤w.heap.size)(hN:N0≤100000)(hm:m.ok)(h0:m.kind=0):
 Calls Tryz.prog 63 #[v0,.agg (ic m.zs),.bool false] w fun e w'=>∃ a c,e= .returned (.slice a (N0+macN m) c)∧w'.ownsRow B0 118 2 (.slice a (N0+macN m) c) (N0+macN m) ((xs0++macL m).map (Value.int .i64))∧FR B0 118 w w':=by
 have Hl:=Aa (Mac.zs_len hm);obtain⟨a0,c0,rfl⟩:=Al own;obtain⟨Bx,hBx⟩:∃ Bx,Bx=w.heap.size:=⟨_,rfl⟩;have E1:=(Ext.alloc w (.cells #[.slice a0 N0 c0] 88)).trans (Ext.alloc _ (.cells (ic m.zs) 50));have b0:BB ((w.alloc (.cells #[.slice a0 N0 c0] 88)).alloc (.cells (ic m.zs) 50)) Bx (.slice a0 N0 c0):=by rw[hBx];exact(Ext.alloc _ _).blk (Aj w _)
 have I1:=IB.new (w.alloc (.cells #[.slice a0 N0 c0] 88)) 50 m.zs;rw[World.size_alloc,←hBx]at I1;have o0:=Ae own E1;have hs1:((w.alloc (.cells #[.slice a0 N0 c0] 88)).alloc (.cells (ic m.zs) 50)).heap.size=Bx+2:=by simp[hBx]
 have hk:=I1.cell (i:=0) (by rw[Mac.zs_len hm];omega);rw[Mac.zs_kind,h0]at hk;have HN:=Aa (show macN m=1 by rw[macN,if_pos h0]);have HL:=Aa (show macL m = [0,0] by rw[macL,if_pos h0]);have F1:FR B0 118 w ((w.alloc (.cells #[.slice a0 N0 c0] 88)).alloc (.cells (ic m.zs) 50)):=FR.of_ext E1 hB;have HBx:=Aa hBx;have HS1:=Aa hs1;clear h0 hs1;go_enter Tryz.func63,Tryz.ntmps63
 go_upto_region 1 with fail
 try simp only[World.size_alloc]
 rw[←hBx];generalize (w.alloc (.cells #[.slice a0 N0 c0] 88)).alloc (.cells (ic m.zs) 50)=w1 at *;clear hBx;obtain⟨k0,k1⟩:=b0.cell;have hB1:B0≤w1.heap.size:=by rw[HS1.out];have:=HBx.out;omega
 go_wp2_with (at_builtin;refine Aw _ rfl (o0.alloc _) (by simp;omega) _ _ 88 rfl (.agg #[.int .i64 0,.int .i64 0]) 16 Ru A5 rfl (by decide) rfl ⟨w1.heap.size,0,none⟩ 1 1 [.int .i64 0,.int .i64 0] rfl rfl ((Iq w1 [.int .i64 0,.int .i64 0] 118).cellsOf _ (by simp)) (by intro u hu;simp at hu;subst hu;rfl) (by omega) (by omega) ?_;intro v2 w2 own2 gr2 _;refine Hid.out ?_)
 refine Aa ?_;obtain⟨a2,c2,rfl⟩:=Al own2;have FA:=(FR.of_ext (B:=B0) (T:=118) (Ext.alloc w1 (.cells #[.int .i64 0,.int .i64 0] 118)) hB1).trans (FR.of_row (o0.alloc _) gr2 (by simp;omega));have o2:=ownc own2 (show _=(xs0 ++ [0,0]).map (Value.int .i64) by simp);go_wp2;go_ret
 rw[HN.out,HL.out];exact⟨_,_,rfl,o2,F1.trans FA⟩
theorem IT (v0:Value)(N0:Nat)(xs0:List Int)(m:Mac)(B0:Nat)(w:World)(own:w.ownsRow B0 118 2 v0 N0 (xs0.map (Value.int .i64)))(hB:B0≤w.heap.size)(hN:N0≤100000)(hm:m.ok)(hv:m.valid):
 Calls Tryz.prog 63 #[v0,.agg (ic m.zs),.bool false] w fun e w'=>∃ a c,e= .returned (.slice a (N0+macN m) c)∧w'.ownsRow B0 118 2 (.slice a (N0+macN m) c) (N0+macN m) ((xs0++macL m).map (Value.int .i64))∧FR B0 118 w w':=by
 by_cases h0:m.kind=0
 ·exact Eb v0 N0 xs0 m B0 w own hB hN hm h0
 ·exact Ec v0 N0 xs0 m B0 w own hB hN hm hv h0
theorem H7 (m:Mac)(w:World)(hm:m.ok)(hv:m.valid):
 Calls Tryz.prog 102 #[.agg (ic m.zs),.bool false] w fun e w'=>∃ a c,e= .returned (.slice a (macN m) c)∧w'.ownsRow w.heap.size 118 2 (.slice a (macN m) c) (macN m) ((macL m).map (Value.int .i64))∧Ext w w':=by
 have Hl:=Aa (Mac.zs_len hm);have Hm:=Aa hm;have HV:=Aa hv;have HD:=Aa (show decide m.valid=true from decide_eq_true hv);obtain⟨Bx,hBx⟩:∃ Bx,Bx=w.heap.size:=⟨_,rfl⟩;have E1:=Ext.alloc w (.cells (ic m.zs) 50);have I1:=IB.new w 50 m.zs;have hz:=I1.lt;rw[←hBx]at I1;have hm1:=hm;clear hm hv;go_enter Tryz.func102,Tryz.ntmps102
 go_upto_region 1 with fail
 rw[←hBx];generalize w.alloc (.cells (ic m.zs) 50)=w1 at *;have HBx:=Aa hBx;have hBl:w.heap.size≤Bx:=by omega
 clear hBx;go_wp2_with (refine Ab 50 _ rfl rfl I1 0 71 rfl _ Ro rfl Ah (by rw[Hl.out];omega) _ (by rw[Ak _ _ Hl.out]) ?_)
 refine(De m _ Hm.out).mono ?_;rw[HD.out]
 rintro e w2 ⟨rfl,e2⟩
 have I2:=I1.ext e2;have E2:=E1.trans e2;go_wp2_with (refine Ab 50 _ rfl rfl I2 0 71 rfl _ Ro rfl Ah (by rw[Hl.out];omega) _ (by rw[Ak _ _ Hl.out]) ?_)
 have hB2:w.heap.size≤w2.heap.size:=by have:=e2.size;omega
 refine(IT _ 0 [] m w.heap.size _ (World.ownsRow_nil _ _ _ _) hB2 (by omega) Hm.out HV.out).mono ?_
 rintro e w3 ⟨a,c,rfl,o3,f3⟩
 go_wp2;go_ret
 have hz:0+macN m=macN m:=Nat.zero_add _;rw[hz]at o3;exact⟨_,_,rfl,o3,FR.ext E2 f3 (Nat.le_refl _)⟩
end Go.Proofs.YtijnbalgnhigbaaGreatDoor
