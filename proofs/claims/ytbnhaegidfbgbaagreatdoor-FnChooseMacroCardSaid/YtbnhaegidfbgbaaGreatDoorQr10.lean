/- The program's rebuild of a macroblock of a picture. | The reference's rebuild of a macroblock of a picture. | Reconstruct, both sides. | The program's scan order. | The length of a number in bits; rows of decisions and what stays beside them; the decisions for a number. -/
import Derived.Test.YtbnhaegidfbgbaaGreatDoorQr9
import Derived.Lib.BitFns
import Derived.Lib.Strings
import Derived.Lib.Slices
import Derived.Lib.Small
import Derived.Lib.Walk
import Derived.Deep.Cut
import Derived.RangeFuncOwn
set_option linter.unusedVariables false
set_option linter.unusedSimpArgs false
set_option maxRecDepth 100000
set_option maxHeartbeats 4000000
namespace Go.Proofs.YtbnhaegidfbgbaaGreatDoor
open Go.RowKit
theorem bld_step (ref:Pic) (W H:Nat) (px:List Int) (x y:Nat) (m:Mac) (q:Nat) (top:Int) (k:Nat):bldS ref ⟨W,H,px⟩ x y m q top (k+1)=putS (bldS ref ⟨W,H,px⟩ x y m q top k) W (x+k%2*4) (y+k/2*4) (prK ref W H (bldS ref ⟨W,H,px⟩ x y m q top k) x y m top k) (dec (sub m.lv (k*16) 16) q) 16:=by
 show putS _ ((W:Int).toNat) _ _ _ _ _=_;rw[Int.toNat_natCast]
theorem ihad_bd {b:List Int} (h:bdA 1048576 b):bdA 1099511627776 (ihad b):=bdA_of (by omega) fun j hj=>by
 rw[ihad_len]at hj;rw[nth_ihad _ hj];have:=had_bdA h j;omega
theorem dec_bd (l:List Int) (q:Nat):bdA 1099511627776 (dec l q):=ihad_bd (inB_bdA (by omega) (dqs_rng l q) (by omega))
theorem smp_bd {b:List Int} (h:smp b):bdA 1099511627776 b:=bdA_of (by omega) fun j hj=>by
 have:=smp_nth h hj;omega
theorem lv_blk {m:Mac} (h:m.ok) (hv:m.valid) {k:Nat} (hk:k<4):inB 4080 (sub m.lv (k*16) 16)=true:=(inB_blocks h.lv).1 hv.2.2.2.2.2.2 k hk
theorem sub16 {zs:List Int} (h:zs.length=64) {k:Nat} (hk:k<4):(sub zs (k*16) 16).length=16:=sub_len _ _ _ (by omega)
theorem tabq_gr {w w':World} {g:Nat} (h:TabQ w) (gr:w.grownBy w' (some g)) (hg:0≠g):TabQ w':=fun j hj=>by
 have h1:=h j hj;exact gr.cell h1 (by simp;omega)
theorem lv2' {a b:Nat} (h:a<b):(some b:Option Nat)≠some a:=by simp;omega
theorem lv2 {a b:Nat} (h:a<b):(some a:Option Nat)≠some b:=by simp;omega
theorem ta_0_0 (cs:Array Value) (w:World):(Instr.typeAssert (.iface 128 (.agg cs)) 126 128 true).run Tryz.prog w= .ok (.tuple #[.agg cs,.bool true]) w:=by kernel_rfl
theorem ta_0_1 (cs:Array Value) (w:World):(Instr.typeAssert (.iface 128 (.agg cs)) 126 129 true).run Tryz.prog w= .ok (.tuple #[.agg (ic (List.replicate 71 0)),.bool false]) w:=by kernel_rfl
theorem ta_1_0 (cs:Array Value) (w:World):(Instr.typeAssert (.iface 129 (.agg cs)) 126 128 true).run Tryz.prog w= .ok (.tuple #[.agg (ic (List.replicate 71 0)),.bool false]) w:=by kernel_rfl
theorem ta_1_1 (cs:Array Value) (w:World):(Instr.typeAssert (.iface 129 (.agg cs)) 126 129 true).run Tryz.prog w= .ok (.tuple #[.agg cs,.bool true]) w:=by kernel_rfl
theorem ta_2_0 (cs:Array Value) (w:World):(Instr.typeAssert (.iface 158 (.agg cs)) 126 128 true).run Tryz.prog w= .ok (.tuple #[.agg (ic (List.replicate 71 0)),.bool false]) w:=by kernel_rfl
theorem ta_2_1 (cs:Array Value) (w:World):(Instr.typeAssert (.iface 158 (.agg cs)) 126 129 true).run Tryz.prog w= .ok (.tuple #[.agg (ic (List.replicate 71 0)),.bool false]) w:=by kernel_rfl
theorem rebuild_I (ref:Pic) (W H x y:Nat) (px:List Int) (m:Mac) (q:Nat) (top:Int) (ra:Option Addr) (rn rc base g n c:Nat) (w:World) (hT:TabQ w) (hbT:0<base) (own:w.ownsRow base 3 1 (.slice (some ⟨g,0,none⟩) n c) n (px.map (Value.int .i64)))
 (hp:placeP ⟨W,H,px⟩ x y) (hm:m.ok) (hv:m.valid) (hq:q<16) (hk:m.kind=2) :
 Calls Tryz.prog 46 #[.agg #[.int .i64 W,.int .i64 H,.slice (some ⟨g,0,none⟩) n c],.agg #[.int .i64 ref.w,.int .i64 ref.h,.slice ra rn rc],.int .i64 (x:Nat),.int .i64 (y:Nat),.agg (ic m.zs),.int .i64 q,.int .i64 top] w fun e w'=>e= .returned (.tuple #[])∧w'.ownsRow base 3 1 (.slice (some ⟨g,0,none⟩) n c) n ((bldS ref ⟨W,H,px⟩ x y m q top 4).map (Value.int .i64))∧w.grownBy w' (some g):=by
 obtain⟨hpv,hx0,hx1,hx8,hy0,hy1,hy8⟩:=hp;have hxx:x+8≤W:=by have h1:=hpv.1.2.2;simp only at hx1 h1;omega
 have hyy:y+8≤H:=by have h1:=hpv.2.1.2.2;simp only at hy1 h1;omega
 have hW32:W≤32:=by have:=hpv.1.2.1;simp only at this;omega
 have hH32:H≤32:=by have:=hpv.2.1.2.1;simp only at this;omega
 have hpl:n=px.length:=by have:=own.1;simpa using this.symm
 have hnW:n=W*H:=by
  have h1:=hpv.2.2.1;simp only[←Int.natCast_mul]at h1;rw[hpl];exact Int.ofNat.inj h1
 have hn1k:n≤1024:=by rw[hnW];exact Nat.mul_le_mul hW32 hH32
 have inn:∀ u v:Nat,u+4≤H→v+4≤W→(u+3)*W+v+3<n:=fun u v h1 h2=>by
  have h3:=Nat.mul_le_mul_right W (show u+4≤H by omega);rw[Nat.add_mul,Nat.mul_comm H W,←hnW]at h3;rw[Nat.add_mul];omega
 have Inn:=Lib.hid inn;have HV:=Lib.hid (fun k=>bldS_valid hpv ref x y m q top k);have HL:=Lib.hid (fun k=>show n=(bldS ref ⟨W,H,px⟩ x y m q top k).length by rw[bldS_len,hpl]);have Hmv:=Lib.hid hv;have Hm:=Lib.hid hm;have Hl:=Lib.hid (Mac.zs_len hm);have HK:=Lib.hid hk;have hbg:base≤g:=(own.lt g rfl).1;have hgT:0≠g:=by omega
 have hgw:g<w.heap.size:=(own.lt g rfl).2;have R0:RG w base g n c ra rn rc W H ref m w.heap.size px (((w.alloc (.cells #[.int .i64 W,.int .i64 H,.slice (some ⟨g,0,none⟩) n c] 25)).alloc (.cells #[.int .i64 ref.w,.int .i64 ref.h,.slice ra rn rc] 25)).alloc (.cells (ic m.zs) 32)):=by
  have a1:=Ext.alloc w (.cells #[.int .i64 W,.int .i64 H,.slice (some ⟨g,0,none⟩) n c] 25);have a2:=Ext.alloc (w.alloc (.cells #[.int .i64 W,.int .i64 H,.slice (some ⟨g,0,none⟩) n c] 25)) (.cells #[.int .i64 ref.w,.int .i64 ref.h,.slice ra rn rc] 25);have a3:=Ext.alloc ((w.alloc (.cells #[.int .i64 W,.int .i64 H,.slice (some ⟨g,0,none⟩) n c] 25)).alloc (.cells #[.int .i64 ref.w,.int .i64 ref.h,.slice ra rn rc] 25)) (.cells (ic m.zs) 32);have q1:=a3.blk (blk_new (w.alloc (.cells #[.int .i64 W,.int .i64 H,.slice (some ⟨g,0,none⟩) n c] 25)) (.cells #[.int .i64 ref.w,.int .i64 ref.h,.slice ra rn rc] 25));have q2:=IB.new ((w.alloc (.cells #[.int .i64 W,.int .i64 H,.slice (some ⟨g,0,none⟩) n c] 25)).alloc (.cells #[.int .i64 ref.w,.int .i64 ref.h,.slice ra rn rc] 25)) 32 m.zs;simp only[World.size_alloc]at q1 q2;exact⟨grown_ext (grown_refl _ _) ((a1.trans a2).trans a3),owns_ext own ((a1.trans a2).trans a3),a3.blk (a2.blk (blk_new _ _)),q1,q2,hgw⟩
 have HT:=Lib.hid hT;have ta1:=ta_2_0;have ta2:=ta_2_1;have hnil:=fun(w:World) (a:Option Addr) (n c:Nat)=>Lib.run_eql_slice_nil (P:=Tryz.prog) w 23 3 a n c 0 0 Tryz.underlying23
 have r2:=R0.b2;clear hpv hpl hnW inn hv hm hk own hx8 hy8 hT hx0 hy0 hx1 hy1;go_enter Tryz.func46,Tryz.ntmps46
 go_wp2_with (refine wpList_iload 32 _ rfl rfl r2 0 71 rfl _ Tryz.underlying32 rfl size_Macro (by rw[Hl.out];omega) _ (by rw[sub_all _ _ Hl.out]) ?_)
 try simp only[World.size_alloc]
 obtain⟨B,hB⟩:∃ B,B=w.heap.size:=⟨_,rfl⟩;rw[←hB]at R0 r2⊢;have hwB:w.heap.size≤B:=by omega
 have HB:=Lib.hid hB;clear hB r2;refine(impl_kindOf_2 m _ Hm.out HK.out).mono ?_
 rintro e w1 ⟨rfl,e1⟩
 have R1:=R0.ex e1;clear R0 e1;have r2:=R1.b2;go_wp2_with (refine wpList_iload 30 _ rfl rfl r2 7 64 rfl _ Tryz.underlying30 rfl size_A16A4 (by rw[Hl.out];omega) _ (by rw[Mac.zs_lv Hm.out]) ?_)
 clear r2;go_loopw [37] (fun i wr=>∃ k:Nat,k≤4∧i= .int .i64 k∧RG w base g n c ra rn rc W H ref m B (bldS ref ⟨W,H,px⟩ x y m q top k) wr) (fun i _=>4-(intOf i).toNat)
 case atStart=>exact⟨0,by omega,rfl,R1⟩
 case round =>
  obtain⟨k,hk,rfl,R3⟩:=hrel;clear R1
  by_cases hlt:k<4
  ·have hd:decide ((k:Int)<4)=true:=by simp;omega
   have hZv:=HV.out k;have hZn:=HL.out k;have Hst:=Lib.hid (bld_step ref W H px x y m q top k);obtain⟨Z,hZ⟩:∃ Z,Z=bldS ref ⟨W,H,px⟩ x y m q top k:=⟨_,rfl⟩;obtain⟨Z1,hZ1⟩:∃ Z,Z=bldS ref ⟨W,H,px⟩ x y m q top (k+1):=⟨_,rfl⟩;rw[←hZ]at R3 hZv hZn Hst;rw[←hZ1]at Hst;have HZ1:=Lib.hid hZ1;have HZv:=Lib.hid hZv;have HZn:=Lib.hid hZn;obtain⟨xi,hxi⟩:∃ v,v=x+k%2*4:=⟨_,rfl⟩;obtain⟨yj,hyj⟩:∃ v,v=y+k/2*4:=⟨_,rfl⟩;have HPK:=Lib.hid (show prK ref W H Z x y m top k=prd (nth m.modes k).toNat (edg ⟨W,H,Z⟩ ((x+k%2*4:Nat):Int) ((y+k/2*4:Nat):Int) top)from if_pos HK.out);rw[←hxi,←hyj]at Hst HPK;have hxi4:xi+4≤W:=by omega
   have hyj4:yj+4≤H:=by omega
   have Hxi:=Lib.hid (show(x:Int)+(k:Int)%2*4=((xi:Nat):Int) by omega);have Hyj:=Lib.hid (show(y:Int)+(k:Int)/2*4=((yj:Nat):Int) by omega);have hI:=Inn.out yj xi hyj4 hxi4;have hB16:=sub16 Hm.out.lv hlt;have hBv:=lv_blk Hm.out Hmv.out hlt;obtain⟨bk,hbk⟩:∃ b,b=sub m.lv (k*16) 16:=⟨_,rfl⟩;have Hbk:=Lib.hid hbk;rw[←hbk]at hB16 hBv Hst;have HB16:=Lib.hid hB16;have HBv:=Lib.hid hBv;clear hZ hZ1 hxi hyj hbk hB16 hBv hZv hZn
   -- the block's levels are laid
   have ia:=IB.new wr 29 (List.replicate 16 0);have R4:=R3.ex (Ext.alloc wr (.cells (ic (List.replicate 16 0)) 29));have hO:=lt_of_block R3.b2;go_wp2_with (first|(refine wpList_iindexa _ _ _ rfl rfl m.lv rfl k 4 16 _ rfl rfl _ _ Tryz.underlying30 Tryz.underlying29 rfl size_A16 hlt ?_)|(refine wpList_istore 29 _ _ rfl rfl ia 0 16 rfl _ rfl bk (by rw[Hbk.out]) size_A16 HB16.out (by simp) ?_;intro w5 i5 g5;refine Hid.out ?_))
   rw[spl_all (by rw[HB16.out];simp)]at i5;have R5:=R4.loc g5 hO hwB;obtain⟨O,hOe⟩:∃ O,O=wr.heap.size:=⟨_,rfl⟩;rw[←hOe]at i5 g5 hO⊢;have HOe:=Lib.hid hOe;clear hOe ia R4 R3 g5;refine Lib.hid ?_;go_wp2_with fail
   refine(partAt_any k _ hlt).mono ?_
   rintro e w6 ⟨rfl,rfl⟩
   have ib:=IB.new w5 29 (List.replicate 16 0);have R6:=R5.ex (Ext.alloc w5 (.cells (ic (List.replicate 16 0)) 29));have i6:=i5.alloc (.cells (ic (List.replicate 16 0)) 29);have hO2:=i5.lt;obtain⟨O2,hO2e⟩:∃ O,O=w5.heap.size:=⟨_,rfl⟩;rw[←hO2e]at ib hO2;have HO2:=Lib.hid hO2e;have hb0:=R6.b0;have hgB:=R6.gB;obtain⟨E,hE⟩:∃ E,E=edg ⟨W,H,Z⟩ (xi:Int) (yj:Int) top:=⟨_,rfl⟩;have hEok:=edg_ok HZv.out (xi:Int) (yj:Int) top;rw[←hE]at hEok HPK;have HE:=Lib.hid hE;have HEok:=Lib.hid hEok;have hmr:=Hmv.out.2.2.2.2.1 HK.out k hlt;obtain⟨md,hmd⟩:∃ v:Nat,nth m.modes k=(v:Int):=⟨(nth m.modes k).toNat,by omega⟩;rw[hmd]at hmr;rw[hmd,Int.toNat_natCast]at HPK;have Hmd:=Lib.hid hmd;obtain⟨PR,hPR⟩:∃ P,P=prd md E:=⟨_,rfl⟩;rw[←hPR]at HPK;rw[HPK.out]at Hst;have HPR:=Lib.hid hPR;clear hE hEok hmd hPR;have hPl:PR.length=16:=by rw[HPR.out,prd_len]
   have HPl:=Lib.hid hPl;have hPb:bdA 1099511627776 PR:=by rw[HPR.out];exact smp_bd (prd_smp _ HEok.out)
   have HPb:=Lib.hid hPb;clear hPl hPb;go_wp2_with fail
   rw[←hO2e];clear hO2e;have G7:RG w base g n c ra rn rc W H ref m B Z (w5.alloc (.cells (ic (List.replicate 16 0)) 29))∧IB (w5.alloc (.cells (ic (List.replicate 16 0)) 29)) O 29 bk∧IB (w5.alloc (.cells (ic (List.replicate 16 0)) 29)) O2 29 (List.replicate 16 0):=⟨R6,i6,ib⟩;clear R5 i5 R6 i6 ib hb0;refine wp_region_invL (by kernel_rfl) [(48,0),(49,1),(50,2),(51,3),(52,4),(53,5),(54,6),(55,7),(56,8),(57,9),(58,10),(59,11),(60,12),(61,13)] [[],[],[],[1,2],[],[],[4,5],[],[0,1,2,3,4,5,6,7],[],[],[9,10],[9,10,11],[0,1,2,3,4,5,6,7,8,9,10,11,12],[0,1,2,3,4,5,6,7,8,9,10,11,12,13]] (fun i own ys wx=>match i with|0=>own= .agg #[.int .i64 W,.int .i64 H,.slice (some ⟨g,0,none⟩) n c]|1=>own= .int .i64 (x:Nat)|2=>own= .int .i64 ((k:Int)%2*4)|3=>own= .int .i64 (xi:Nat)|4=>own= .int .i64 (y:Nat)|5=>own= .int .i64 ((k:Int)/2*4)|6=>own= .int .i64 (yj:Nat)|7=>own= .int .i64 top|8=>own= .agg (edC E)|9=>own= .int .i64 (k:Nat)|10=>own= .pointer (some ⟨B+1+1,3,none⟩)|11=>own= .pointer (some ⟨B+1+1,3+k,none⟩)|12=>own= .int .i64 (md:Nat)|13=>own= .agg (ic PR)|14=>True|_=>True) (fun Lx wx=>RG w base g n c ra rn rc W H ref m B Z wx∧IB wx O 29 bk∧IB wx O2 29 (if Lx 14=true then PR else(List.replicate 16 0))) (by kernel_rfl) (by kernel_rfl) (by kernel_rfl) ?g0_r1 ?gop_r1 ?gend_r1
   case g0_r1=>exact⟨G7.1.drew,G7.2.1.drewN 1,G7.2.2.drewN 1⟩
   case gop_r1 =>
    refine⟨?o0,?_,?_,?o3,?_,?_,?o6,?_,?o8,?_,?_,?o11,?o12,?o13,?o14,trivial⟩ <;> (intro Lx xs wx hG hl ha hb hD hI Qo Kx hK hQo;simp only[patchS,Nat.reduceAdd,Nat.reduceEqDiff,↓reduceIte]at hQo⊢)
    case o0 =>
     clear hl ha hb hD hI;obtain⟨-,k0,k1,k2,-⟩:=bx3 hG.1.b0;go_wp2;exact hK.out _ _ ⟨rfl,hG,kkp⟩
    case o3 =>
     clear hl ha hb;rw[ddq (hD 1 rfl),ddq (hD 2 rfl)]at hQo⊢;clear hD hI;go_wp2;exact hK.out _ _ ⟨by rw[←Hxi.out],hG,fun _ _ _ _ _ _ h=>h⟩
    case o6 =>
     clear hl ha hb;rw[ddq (hD 4 rfl),ddq (hD 5 rfl)]at hQo⊢;clear hD hI;go_wp2;exact hK.out _ _ ⟨by rw[←Hyj.out],hG,fun _ _ _ _ _ _ h=>h⟩
    case o8 =>
     clear hl ha hb;rw[ddq (hD 0 rfl),ddq (hD 3 rfl),ddq (hD 6 rfl),ddq (hD 7 rfl)]at hQo⊢;clear hD hI;go_wp2_with fail
     refine(edges_any ⟨W,H,Z⟩ (xi:Int) (yj:Int) top (some ⟨g,0,none⟩) c n _ HZv.out HZn.out (Sl.of_owns hG.1.own) (by omega) (by omega) (by omega) (by omega)).mono ?_
     rintro e w9 ⟨rfl,e9⟩
     rw[←HE.out];go_wp2;exact hK.out _ _ ⟨rfl,⟨hG.1.ex e9,hG.2.1.ext e9,hG.2.2.ext e9⟩,fun _ _ _ _ _ _ h=>h⟩
    case o11 =>
     clear hl ha hb;rw[ddq (hD 9 rfl),ddq (hD 10 rfl)]at hQo⊢;clear hD hI;go_wp2;exact hK.out _ _ ⟨rfl,hG,kkp⟩
    case o12 =>
     clear hl ha hb;rw[ddq (hD 11 rfl)]at hQo⊢;clear hD hI;have cx:=hG.1.b2.cell (i:=3+k) (by rw[Hl.out];omega);rw[Mac.nth_mode Hm.out k hlt,Hmd.out]at cx;go_wp2;exact hK.out _ _ ⟨rfl,hG,kkp⟩
    case o13 =>
     clear hl ha hb;rw[ddq (hD 8 rfl),ddq (hD 12 rfl)]at hQo⊢;clear hD hI;go_wp2_with fail
     refine(predict_any E md _ HEok.out (by omega)).mono ?_
     rintro e w9 ⟨rfl,e9⟩
     rw[←HPR.out];go_wp2;exact hK.out _ _ ⟨rfl,⟨hG.1.ex e9,hG.2.1.ext e9,hG.2.2.ext e9⟩,fun _ _ _ _ _ _ h=>h⟩
    case o14 =>
     have l14:Lx 14=false:=hl;clear hl ha hb;rw[ddq (hD 13 rfl)]at hQo⊢;clear hD hI;rw[l14,ifF]at hG;refine wpList_istore 29 _ _ rfl rfl hG.2.2 0 16 rfl _ rfl PR rfl size_A16 HPl.out (by simp) ?_;intro w9 i9 g9;rw[spl_all (by rw[HPl.out];simp)]at i9;exact hQo undef _ (hK.out _ _ ⟨trivial,⟨hG.1.loc g9 (by omega) hwB,hG.2.1.gr g9 (lv2' (by omega)),i9⟩,fun _ _ _ _ _ _ h=>h⟩)
    all_goals
     clear hl ha hb hD hI;go_wp2;exact hK.out _ _ ⟨rfl,hG,kkp⟩
   intro xs wx hV hG0;obtain⟨Lx,hL,hG⟩:=hG0;have l14:Lx 14=true:=hL 14 (by decide);clear hL hV;simp only[patchS,Nat.reduceAdd,Nat.reduceEqDiff,↓reduceIte];generalize xs 0=y0,xs 1=y1,xs 2=y2,xs 3=y3,xs 4=y4,xs 5=y5,xs 6=y6,xs 7=y7,xs 8=y8,xs 9=y9,xs 10=y10,xs 11=y11,xs 12=y12,xs 13=y13,xs 14=y14 at *
   replace hG:RG w base g n c ra rn rc W H ref m B Z wx∧IB wx O 29 bk∧IB wx O2 29 (if Lx 14=true then PR else(List.replicate 16 0)):=hG
   rw[l14,ifT]at hG;clear G7;obtain⟨RM,bM,pM⟩:=hG;go_wp2_with fail
   obtain⟨D,hD⟩:∃ D,D=dec bk q:=⟨_,rfl⟩;rw[←hD]at Hst;have HD:=Lib.hid hD;have HDl:=Lib.hid (show D.length=16 by rw[hD,dec_len]);have HDb:=Lib.hid (show bdA 1099511627776 D by rw[hD];exact dec_bd _ _);clear hD;refine wp_region_invL (by kernel_rfl) [(66,0),(67,1),(68,2),(69,3),(70,4),(71,5),(72,6),(73,7),(74,8),(75,9),(76,10),(77,11)] [[],[],[],[1,2],[],[],[4,5],[],[],[],[8,9],[0,1,2,3,4,5,6,7,8,9,10]] (fun i own ys wx=>match i with|0=>own= .agg #[.int .i64 W,.int .i64 H,.slice (some ⟨g,0,none⟩) n c]|1=>own= .int .i64 (x:Nat)|2=>own= .int .i64 ((k:Int)%2*4)|3=>own= .int .i64 (xi:Nat)|4=>own= .int .i64 (y:Nat)|5=>own= .int .i64 ((k:Int)/2*4)|6=>own= .int .i64 (yj:Nat)|7=>own= .agg (ic PR)|8=>own= .agg (ic bk)|9=>own= .int .i64 (q:Nat)|10=>own= .agg (ic D)|11=>True|_=>True) (fun Lx wx=>RG w base g n c ra rn rc W H ref m B (if Lx 11=true then Z1 else Z) wx∧IB wx O 29 bk∧IB wx O2 29 PR) (by kernel_rfl) (by kernel_rfl) (by kernel_rfl) ?g0_r2 ?gop_r2 ?gend_r2
   case g0_r2=>exact⟨RM.drew,bM.drewN 1,pM.drewN 1⟩
   case gop_r2 =>
    refine⟨?o0,?_,?_,?o3,?_,?_,?o6,?o7,?o8,?_,?o10,?o11,trivial⟩ <;> (intro Lx xs wx hG hl ha hb hD hI Qo Kx hK hQo;simp only[patchS,Nat.reduceAdd,Nat.reduceEqDiff,↓reduceIte]at hQo⊢)
    case o0 =>
     clear hl ha hb hD hI;obtain⟨-,k0,k1,k2,-⟩:=bx3 hG.1.b0;go_wp2;exact hK.out _ _ ⟨rfl,hG,kkp⟩
    case o3 =>
     clear hl ha hb;rw[ddq (hD 1 rfl),ddq (hD 2 rfl)]at hQo⊢;clear hD hI;go_wp2;exact hK.out _ _ ⟨by rw[←Hxi.out],hG,fun _ _ _ _ _ _ h=>h⟩
    case o6 =>
     clear hl ha hb;rw[ddq (hD 4 rfl),ddq (hD 5 rfl)]at hQo⊢;clear hD hI;go_wp2;exact hK.out _ _ ⟨by rw[←Hyj.out],hG,fun _ _ _ _ _ _ h=>h⟩
    case o7 =>
     clear hl ha hb hD hI;go_wp2_with (refine wpList_iload 29 _ rfl rfl hG.2.2 0 16 rfl _ Tryz.underlying29 rfl size_A16 (by rw[HPl.out];omega) _ (by rw[sub_all _ _ HPl.out]) ?_)
     exact hK.out _ _ ⟨rfl,hG,kkp⟩
    case o8 =>
     clear hl ha hb hD hI;go_wp2_with (refine wpList_iload 29 _ rfl rfl hG.2.1 0 16 rfl _ Tryz.underlying29 rfl size_A16 (by rw[HB16.out];omega) _ (by rw[sub_all _ _ HB16.out]) ?_)
     exact hK.out _ _ ⟨rfl,hG,kkp⟩
    case o10 =>
     clear hl ha hb;rw[ddq (hD 8 rfl),ddq (hD 9 rfl)]at hQo⊢;clear hD hI;have hTx:=tabq_gr HT.out hG.1.gr hgT;go_wp2_with fail
     refine(DecodeBlock_any bk q _ hTx HB16.out HBv.out hq).mono ?_
     rintro e w9 ⟨rfl,e9⟩
     rw[←HD.out];go_wp2;exact hK.out _ _ ⟨rfl,⟨hG.1.ex e9,hG.2.1.ext e9,hG.2.2.ext e9⟩,fun _ _ _ _ _ _ h=>h⟩
    case o11 =>
     have l11:Lx 11=false:=hl;clear hl ha hb;rw[ddq (hD 0 rfl),ddq (hD 3 rfl),ddq (hD 6 rfl),ddq (hD 7 rfl),ddq (hD 10 rfl)]at hQo⊢;clear hD hI;rw[l11,ifF]at hG;go_wp2_with fail
     refine(put_any W H xi yj base g n c Z PR D _ HPl.out HDl.out HPb.out HDb.out hW32 (by omega) (by omega) hI (by omega) hG.1.own).mono ?_
     rintro e w9 ⟨rfl,o9,g9⟩
     go_wp2;rw[←Hst.out]at o9;exact hK.out _ _ ⟨trivial,⟨hG.1.put g9 o9,hG.2.1.gr g9 (lv2 (by omega)),hG.2.2.gr g9 (lv2 (by omega))⟩,fun _ _ _ _ _ _ h=>h⟩
    all_goals
     clear hl ha hb hD hI;go_wp2;exact hK.out _ _ ⟨rfl,hG,kkp⟩
   intro xs wx hV hG0;obtain⟨Lx,hL,hG⟩:=hG0;have l11:Lx 11=true:=hL 11 (by decide);clear hL hV;simp only[patchS,Nat.reduceAdd,Nat.reduceEqDiff,↓reduceIte];generalize xs 0=y0,xs 1=y1,xs 2=y2,xs 3=y3,xs 4=y4,xs 5=y5,xs 6=y6,xs 7=y7,xs 8=y8,xs 9=y9,xs 10=y10,xs 11=y11 at *
   replace hG:RG w base g n c ra rn rc W H ref m B (if Lx 11=true then Z1 else Z) wx∧IB wx O 29 bk∧IB wx O2 29 PR:=hG
   rw[l11,ifT]at hG;clear RM bM pM;have HG:=Lib.hid hG;clear hG;go_wp2;go_roundw
   case rel=>exact⟨k+1,by omega,by go_num,by rw[←HZ1.out];exact HG.out.1⟩
   case measure=>simp[intOf];omega
  ·obtain rfl:k=4:=by omega
   have HR:=Lib.hid R3;clear R3;go_wp2;go_end0
   exact⟨rfl,HR.out.own,HR.out.gr⟩
theorem rebuild_S (ref:Pic) (W H x y:Nat) (px:List Int) (m:Mac) (q:Nat) (top:Int) (ra:Option Addr) (rn rc base g n c:Nat) (w:World) (hT:TabQ w) (hbT:0<base) (own:w.ownsRow base 3 1 (.slice (some ⟨g,0,none⟩) n c) n (px.map (Value.int .i64)))
 (hp:placeP ⟨W,H,px⟩ x y) (hm:m.ok) (hv:m.valid) (hq:q<16) (hk:m.kind=0) (hrv:ref.valid) (hrn:rn=ref.px.length) (hr:Sl w ra rn (ref.px.map (Value.int .i64))) (hrg:∀ z,ra=some z→z.block≠g) :
 Calls Tryz.prog 46 #[.agg #[.int .i64 W,.int .i64 H,.slice (some ⟨g,0,none⟩) n c],.agg #[.int .i64 ref.w,.int .i64 ref.h,.slice ra rn rc],.int .i64 (x:Nat),.int .i64 (y:Nat),.agg (ic m.zs),.int .i64 q,.int .i64 top] w fun e w'=>e= .returned (.tuple #[])∧w'.ownsRow base 3 1 (.slice (some ⟨g,0,none⟩) n c) n ((bldS ref ⟨W,H,px⟩ x y m q top 4).map (Value.int .i64))∧w.grownBy w' (some g):=by
 obtain⟨hpv,hx0,hx1,hx8,hy0,hy1,hy8⟩:=hp;have hxx:x+8≤W:=by have h1:=hpv.1.2.2;simp only at hx1 h1;omega
 have hyy:y+8≤H:=by have h1:=hpv.2.1.2.2;simp only at hy1 h1;omega
 have hW32:W≤32:=by have:=hpv.1.2.1;simp only at this;omega
 have hH32:H≤32:=by have:=hpv.2.1.2.1;simp only at this;omega
 have hpl:n=px.length:=by have:=own.1;simpa using this.symm
 have hnW:n=W*H:=by
  have h1:=hpv.2.2.1;simp only[←Int.natCast_mul]at h1;rw[hpl];exact Int.ofNat.inj h1
 have hn1k:n≤1024:=by rw[hnW];exact Nat.mul_le_mul hW32 hH32
 have inn:∀ u v:Nat,u+4≤H→v+4≤W→(u+3)*W+v+3<n:=fun u v h1 h2=>by
  have h3:=Nat.mul_le_mul_right W (show u+4≤H by omega);rw[Nat.add_mul,Nat.mul_comm H W,←hnW]at h3;rw[Nat.add_mul];omega
 have Inn:=Lib.hid inn;have HV:=Lib.hid (fun k=>bldS_valid hpv ref x y m q top k);have HL:=Lib.hid (fun k=>show n=(bldS ref ⟨W,H,px⟩ x y m q top k).length by rw[bldS_len,hpl]);have Hmv:=Lib.hid hv;have Hm:=Lib.hid hm;have Hl:=Lib.hid (Mac.zs_len hm);have HK:=Lib.hid hk;have hbg:base≤g:=(own.lt g rfl).1;have hgT:0≠g:=by omega
 have hgw:g<w.heap.size:=(own.lt g rfl).2;have R0:RG w base g n c ra rn rc W H ref m w.heap.size px (((w.alloc (.cells #[.int .i64 W,.int .i64 H,.slice (some ⟨g,0,none⟩) n c] 25)).alloc (.cells #[.int .i64 ref.w,.int .i64 ref.h,.slice ra rn rc] 25)).alloc (.cells (ic m.zs) 32)):=by
  have a1:=Ext.alloc w (.cells #[.int .i64 W,.int .i64 H,.slice (some ⟨g,0,none⟩) n c] 25);have a2:=Ext.alloc (w.alloc (.cells #[.int .i64 W,.int .i64 H,.slice (some ⟨g,0,none⟩) n c] 25)) (.cells #[.int .i64 ref.w,.int .i64 ref.h,.slice ra rn rc] 25);have a3:=Ext.alloc ((w.alloc (.cells #[.int .i64 W,.int .i64 H,.slice (some ⟨g,0,none⟩) n c] 25)).alloc (.cells #[.int .i64 ref.w,.int .i64 ref.h,.slice ra rn rc] 25)) (.cells (ic m.zs) 32);have q1:=a3.blk (blk_new (w.alloc (.cells #[.int .i64 W,.int .i64 H,.slice (some ⟨g,0,none⟩) n c] 25)) (.cells #[.int .i64 ref.w,.int .i64 ref.h,.slice ra rn rc] 25));have q2:=IB.new ((w.alloc (.cells #[.int .i64 W,.int .i64 H,.slice (some ⟨g,0,none⟩) n c] 25)).alloc (.cells #[.int .i64 ref.w,.int .i64 ref.h,.slice ra rn rc] 25)) 32 m.zs;simp only[World.size_alloc]at q1 q2;exact⟨grown_ext (grown_refl _ _) ((a1.trans a2).trans a3),owns_ext own ((a1.trans a2).trans a3),a3.blk (a2.blk (blk_new _ _)),q1,q2,hgw⟩
 have HT:=Lib.hid hT;have ta1:=ta_0_0;have ta2:=ta_0_1;have hnil:=fun(w:World) (a:Option Addr) (n c:Nat)=>Lib.run_eql_slice_nil (P:=Tryz.prog) w 23 3 a n c 0 0 Tryz.underlying23
 have r2:=R0.b2;clear hpv hpl hnW inn hv hm hk own hx8 hy8 hT;have Hrv:=Lib.hid hrv;have Hrn:=Lib.hid hrn;have Hrg:=Lib.hid hrg;clear hrv hrn hrg hx0 hy0 hx1 hy1;go_enter Tryz.func46,Tryz.ntmps46
 go_wp2_with (refine wpList_iload 32 _ rfl rfl r2 0 71 rfl _ Tryz.underlying32 rfl size_Macro (by rw[Hl.out];omega) _ (by rw[sub_all _ _ Hl.out]) ?_)
 try simp only[World.size_alloc]
 obtain⟨B,hB⟩:∃ B,B=w.heap.size:=⟨_,rfl⟩;rw[←hB]at R0 r2⊢;have hwB:w.heap.size≤B:=by omega
 have HB:=Lib.hid hB;clear hB r2;refine(impl_kindOf_0 m _ Hm.out HK.out).mono ?_
 rintro e w1 ⟨rfl,e1⟩
 have R1:=R0.ex e1;clear R0 e1;have r2:=R1.b2;obtain⟨-,k0,k1,k2,-⟩:=bx3 R1.b1;have hrs:Sl w1 ra rn (ref.px.map (Value.int .i64)):=hr.grown R1.gr (fun z hz=>by have:=Hrg.out z hz;simp;omega);have hvv:=Hmv.out.2.1;go_wp2_with (refine wpList_iload 27 _ rfl rfl r2 1 2 rfl _ Tryz.underlying27 rfl size_Vector (by rw[Hl.out];omega) _ Mac.zs_mv ?_)
 refine(moved_any ref x y m.x m.y ra rc rn _ Hrv.out Hrn.out hrs (by omega) (by omega) (by omega) (by omega) hvv.1 hvv.2.1 hvv.2.2.1 hvv.2.2.2).mono ?_
 rintro e w2 ⟨a2,c2,rfl,o2,e2⟩
 have R2:=R1.ex e2;have hs1:=R1.gr.size;have ha2:∃ g2,a2=some ⟨g2,0,none⟩∧g2≠g:=by
  rcases o2.2 with⟨-,h0⟩|⟨g2,cc,cur,hv2,hb2,-⟩
  ·omega
  ·simp only[Value.slice.injEq]at hv2;exact⟨g2,hv2.1,by omega⟩
 obtain⟨g2,rfl,hg2⟩:=ha2;have s2:=Sl.of_owns o2;have Hb:=Lib.hid (blkL_len ref x y m.x m.y);clear k0 k1 k2 r2 R1 e2 o2 hrs hr hvv;have r2:=R2.b2;go_wp2_with (refine wpList_iload 30 _ rfl rfl r2 7 64 rfl _ Tryz.underlying30 rfl size_A16A4 (by rw[Hl.out];omega) _ (by rw[Mac.zs_lv Hm.out]) ?_)
 clear r2;go_loopw [37] (fun i wr=>∃ k:Nat,k≤4∧i= .int .i64 k∧RG w base g n c ra rn rc W H ref m B (bldS ref ⟨W,H,px⟩ x y m q top k) wr∧Hid (Sl wr (some ⟨g2,0,none⟩) 64 ((blkL ref x y m.x m.y).map (Value.int .i64)))) (fun i _=>4-(intOf i).toNat)
 case atStart=>exact⟨0,by omega,rfl,R2,Lib.hid s2⟩
 case round =>
  obtain⟨k,hk,rfl,R3,S3⟩:=hrel;clear R2 s2
  by_cases hlt:k<4
  ·have hd:decide ((k:Int)<4)=true:=by simp;omega
   have hZv:=HV.out k;have hZn:=HL.out k;have Hst:=Lib.hid (bld_step ref W H px x y m q top k);obtain⟨Z,hZ⟩:∃ Z,Z=bldS ref ⟨W,H,px⟩ x y m q top k:=⟨_,rfl⟩;obtain⟨Z1,hZ1⟩:∃ Z,Z=bldS ref ⟨W,H,px⟩ x y m q top (k+1):=⟨_,rfl⟩;rw[←hZ]at R3 hZv hZn Hst;rw[←hZ1]at Hst;have HZ1:=Lib.hid hZ1;have HZv:=Lib.hid hZv;have HZn:=Lib.hid hZn;obtain⟨xi,hxi⟩:∃ v,v=x+k%2*4:=⟨_,rfl⟩;obtain⟨yj,hyj⟩:∃ v,v=y+k/2*4:=⟨_,rfl⟩;have HPK:=Lib.hid (show prK ref W H Z x y m top k=pof (blkL ref x y m.x m.y) (k%2*4) (k/2*4)from if_neg (by rw[HK.out];decide));rw[←hxi,←hyj]at Hst;have hxi4:xi+4≤W:=by omega
   have hyj4:yj+4≤H:=by omega
   have Hxi:=Lib.hid (show(x:Int)+(k:Int)%2*4=((xi:Nat):Int) by omega);have Hyj:=Lib.hid (show(y:Int)+(k:Int)/2*4=((yj:Nat):Int) by omega);have hI:=Inn.out yj xi hyj4 hxi4;have hB16:=sub16 Hm.out.lv hlt;have hBv:=lv_blk Hm.out Hmv.out hlt;obtain⟨bk,hbk⟩:∃ b,b=sub m.lv (k*16) 16:=⟨_,rfl⟩;have Hbk:=Lib.hid hbk;rw[←hbk]at hB16 hBv Hst;have HB16:=Lib.hid hB16;have HBv:=Lib.hid hBv;clear hZ hZ1 hxi hyj hbk hB16 hBv hZv hZn
   -- the block's levels are laid
   have ia:=IB.new wr 29 (List.replicate 16 0);have R4:=R3.ex (Ext.alloc wr (.cells (ic (List.replicate 16 0)) 29));have hO:=lt_of_block R3.b2;have S4:=S3.out.ext (Ext.alloc wr (.cells (ic (List.replicate 16 0)) 29));go_wp2_with (first|(refine wpList_iindexa _ _ _ rfl rfl m.lv rfl k 4 16 _ rfl rfl _ _ Tryz.underlying30 Tryz.underlying29 rfl size_A16 hlt ?_)|(refine wpList_istore 29 _ _ rfl rfl ia 0 16 rfl _ rfl bk (by rw[Hbk.out]) size_A16 HB16.out (by simp) ?_;intro w5 i5 g5;refine Hid.out ?_))
   rw[spl_all (by rw[HB16.out];simp)]at i5;have R5:=R4.loc g5 hO hwB;have hg2r:g2<wr.heap.size:=by
    obtain⟨b8,o8,h8,c8⟩:=S3.out.int (show 0<64 by omega);simp only[Option.some.injEq,Addr.mk.injEq,and_true]at h8;rw[h8.1];exact World.block_lt_of_cell? _ _ c8
   have S5:=S4.grown g5 (fun z hz=>by cases hz;simp;omega);obtain⟨O,hOe⟩:∃ O,O=wr.heap.size:=⟨_,rfl⟩;rw[←hOe]at i5 g5 hO⊢;have HOe:=Lib.hid hOe;clear hOe ia R4 R3 g5 S3 S4;refine Lib.hid ?_;go_wp2_with fail
   refine(partAt_any k _ hlt).mono ?_
   rintro e w6 ⟨rfl,rfl⟩
   have ib:=IB.new w5 29 (List.replicate 16 0);have R6:=R5.ex (Ext.alloc w5 (.cells (ic (List.replicate 16 0)) 29));have i6:=i5.alloc (.cells (ic (List.replicate 16 0)) 29);have hO2:=i5.lt;have S6:=S5.ext (Ext.alloc w5 (.cells (ic (List.replicate 16 0)) 29));obtain⟨O2,hO2e⟩:∃ O,O=w5.heap.size:=⟨_,rfl⟩;rw[←hO2e]at ib hO2;have HO2:=Lib.hid hO2e;have hb0:=R6.b0;have hgB:=R6.gB;obtain⟨E,hE⟩:∃ E,E=edg ⟨W,H,Z⟩ (xi:Int) (yj:Int) top:=⟨_,rfl⟩;clear hE;obtain⟨PR,hPR⟩:∃ P,P=pof (blkL ref x y m.x m.y) (k%2*4) (k/2*4):=⟨_,rfl⟩;rw[←hPR]at HPK;rw[HPK.out]at Hst;have HPR:=Lib.hid hPR;clear hPR;have hPl:PR.length=16:=by rw[HPR.out,pof_len]
   have HPl:=Lib.hid hPl;have hPb:bdA 1099511627776 PR:=by rw[HPR.out];exact smp_bd (pof_smp (blkL_smp Hrv.out _ _ _ _) (blkL_len _ _ _ _ _) (by omega) (by omega))
   have HPb:=Lib.hid hPb;clear hPl hPb;go_wp2_with fail
   rw[←hO2e];clear hO2e;refine(partOf_any (blkL ref x y m.x m.y) (k%2*4) (k/2*4) (by omega) (by omega) (some ⟨g2,0,none⟩) c2 _ S6).mono ?_
   rintro e w7 ⟨rfl,e7⟩
   rw[←HPR.out];have R7:=R6.ex e7;have i7:=i6.ext e7;have ib7:=ib.ext e7;have S7:=S6.ext e7;have hg2l:g2<w5.heap.size:=by
    obtain⟨b8,o8,h8,c8⟩:=S5.int (show 0<64 by omega);simp only[Option.some.injEq,Addr.mk.injEq,and_true]at h8;rw[h8.1];exact World.block_lt_of_cell? _ _ c8
   rw[←HO2.out]at hg2l;clear R5 i5 R6 i6 ib S5 S6 e7;go_wp2_with (refine wpList_istore 29 _ _ rfl rfl ib7 0 16 rfl _ rfl PR rfl size_A16 HPl.out (by simp) ?_;intro w8 pM g8;refine Hid.out ?_)
   rw[spl_all (by rw[HPl.out];simp)]at pM;have RM:=R7.loc g8 (by omega) hwB;have bM:=i7.gr g8 (lv2' (by omega));have SM:=S7.grown g8 (fun z hz=>by cases hz;simp;omega);clear R7 i7 ib7 S7 g8;refine Lib.hid ?_;go_wp2_with fail
   obtain⟨D,hD⟩:∃ D,D=dec bk q:=⟨_,rfl⟩;rw[←hD]at Hst;have HD:=Lib.hid hD;have HDl:=Lib.hid (show D.length=16 by rw[hD,dec_len]);have HDb:=Lib.hid (show bdA 1099511627776 D by rw[hD];exact dec_bd _ _);clear hD;refine wp_region_invL (by kernel_rfl) [(66,0),(67,1),(68,2),(69,3),(70,4),(71,5),(72,6),(73,7),(74,8),(75,9),(76,10),(77,11)] [[],[],[],[1,2],[],[],[4,5],[],[],[],[8,9],[0,1,2,3,4,5,6,7,8,9,10]] (fun i own ys wx=>match i with|0=>own= .agg #[.int .i64 W,.int .i64 H,.slice (some ⟨g,0,none⟩) n c]|1=>own= .int .i64 (x:Nat)|2=>own= .int .i64 ((k:Int)%2*4)|3=>own= .int .i64 (xi:Nat)|4=>own= .int .i64 (y:Nat)|5=>own= .int .i64 ((k:Int)/2*4)|6=>own= .int .i64 (yj:Nat)|7=>own= .agg (ic PR)|8=>own= .agg (ic bk)|9=>own= .int .i64 (q:Nat)|10=>own= .agg (ic D)|11=>True|_=>True) (fun Lx wx=>RG w base g n c ra rn rc W H ref m B (if Lx 11=true then Z1 else Z) wx∧IB wx O 29 bk∧IB wx O2 29 PR∧Sl wx (some ⟨g2,0,none⟩) 64 ((blkL ref x y m.x m.y).map (Value.int .i64))) (by kernel_rfl) (by kernel_rfl) (by kernel_rfl) ?g0_r3 ?gop_r3 ?gend_r3
   case g0_r3=>exact⟨RM.drew,bM.drewN 1,pM.drewN 1,SM.drewN 1⟩
   case gop_r3 =>
    refine⟨?o0,?_,?_,?o3,?_,?_,?o6,?o7,?o8,?_,?o10,?o11,trivial⟩ <;> (intro Lx xs wx hG hl ha hb hD hI Qo Kx hK hQo;simp only[patchS,Nat.reduceAdd,Nat.reduceEqDiff,↓reduceIte]at hQo⊢)
    case o0 =>
     clear hl ha hb hD hI;obtain⟨-,k0,k1,k2,-⟩:=bx3 hG.1.b0;go_wp2;exact hK.out _ _ ⟨rfl,hG,kkp⟩
    case o3 =>
     clear hl ha hb;rw[ddq (hD 1 rfl),ddq (hD 2 rfl)]at hQo⊢;clear hD hI;go_wp2;exact hK.out _ _ ⟨by rw[←Hxi.out],hG,fun _ _ _ _ _ _ h=>h⟩
    case o6 =>
     clear hl ha hb;rw[ddq (hD 4 rfl),ddq (hD 5 rfl)]at hQo⊢;clear hD hI;go_wp2;exact hK.out _ _ ⟨by rw[←Hyj.out],hG,fun _ _ _ _ _ _ h=>h⟩
    case o7 =>
     clear hl ha hb hD hI;go_wp2_with (refine wpList_iload 29 _ rfl rfl hG.2.2.1 0 16 rfl _ Tryz.underlying29 rfl size_A16 (by rw[HPl.out];omega) _ (by rw[sub_all _ _ HPl.out]) ?_)
     exact hK.out _ _ ⟨rfl,hG,kkp⟩
    case o8 =>
     clear hl ha hb hD hI;go_wp2_with (refine wpList_iload 29 _ rfl rfl hG.2.1 0 16 rfl _ Tryz.underlying29 rfl size_A16 (by rw[HB16.out];omega) _ (by rw[sub_all _ _ HB16.out]) ?_)
     exact hK.out _ _ ⟨rfl,hG,kkp⟩
    case o10 =>
     clear hl ha hb;rw[ddq (hD 8 rfl),ddq (hD 9 rfl)]at hQo⊢;clear hD hI;have hTx:=tabq_gr HT.out hG.1.gr hgT;go_wp2_with fail
     refine(DecodeBlock_any bk q _ hTx HB16.out HBv.out hq).mono ?_
     rintro e w9 ⟨rfl,e9⟩
     rw[←HD.out];go_wp2;exact hK.out _ _ ⟨rfl,⟨hG.1.ex e9,hG.2.1.ext e9,hG.2.2.1.ext e9,hG.2.2.2.ext e9⟩,fun _ _ _ _ _ _ h=>h⟩
    case o11 =>
     have l11:Lx 11=false:=hl;clear hl ha hb;rw[ddq (hD 0 rfl),ddq (hD 3 rfl),ddq (hD 6 rfl),ddq (hD 7 rfl),ddq (hD 10 rfl)]at hQo⊢;clear hD hI;rw[l11,ifF]at hG;go_wp2_with fail
     refine(put_any W H xi yj base g n c Z PR D _ HPl.out HDl.out HPb.out HDb.out hW32 (by omega) (by omega) hI (by omega) hG.1.own).mono ?_
     rintro e w9 ⟨rfl,o9,g9⟩
     go_wp2;rw[←Hst.out]at o9;exact hK.out _ _ ⟨trivial,⟨hG.1.put g9 o9,hG.2.1.gr g9 (lv2 (by omega)),hG.2.2.1.gr g9 (lv2 (by omega)),hG.2.2.2.grown g9 (fun z hz=>by cases hz;simpa using hg2)⟩,fun _ _ _ _ _ _ h=>h⟩
    all_goals
     clear hl ha hb hD hI;go_wp2;exact hK.out _ _ ⟨rfl,hG,kkp⟩
   intro xs wx hV hG0;obtain⟨Lx,hL,hG⟩:=hG0;have l11:Lx 11=true:=hL 11 (by decide);clear hL hV;simp only[patchS,Nat.reduceAdd,Nat.reduceEqDiff,↓reduceIte];generalize xs 0=y0,xs 1=y1,xs 2=y2,xs 3=y3,xs 4=y4,xs 5=y5,xs 6=y6,xs 7=y7,xs 8=y8,xs 9=y9,xs 10=y10,xs 11=y11 at *
   replace hG:RG w base g n c ra rn rc W H ref m B (if Lx 11=true then Z1 else Z) wx∧IB wx O 29 bk∧IB wx O2 29 PR∧Sl wx (some ⟨g2,0,none⟩) 64 ((blkL ref x y m.x m.y).map (Value.int .i64)):=hG
   rw[l11,ifT]at hG;clear RM bM pM SM;have HG:=Lib.hid hG;clear hG;go_wp2;go_roundw
   case rel=>exact⟨k+1,by omega,by go_num,by rw[←HZ1.out];exact HG.out.1,Lib.hid HG.out.2.2.2⟩
   case measure=>simp[intOf];omega
  ·obtain rfl:k=4:=by omega
   have HR:=Lib.hid R3;clear R3;go_wp2;go_end0
   exact⟨rfl,HR.out.own,HR.out.gr⟩
theorem rebuild_P (ref:Pic) (W H x y:Nat) (px:List Int) (m:Mac) (q:Nat) (top:Int) (ra:Option Addr) (rn rc base g n c:Nat) (w:World) (hT:TabQ w) (hbT:0<base) (own:w.ownsRow base 3 1 (.slice (some ⟨g,0,none⟩) n c) n (px.map (Value.int .i64)))
 (hp:placeP ⟨W,H,px⟩ x y) (hm:m.ok) (hv:m.valid) (hq:q<16) (hk:m.kind=1) (hrv:ref.valid) (hrn:rn=ref.px.length) (hr:Sl w ra rn (ref.px.map (Value.int .i64))) (hrg:∀ z,ra=some z→z.block≠g) :
 Calls Tryz.prog 46 #[.agg #[.int .i64 W,.int .i64 H,.slice (some ⟨g,0,none⟩) n c],.agg #[.int .i64 ref.w,.int .i64 ref.h,.slice ra rn rc],.int .i64 (x:Nat),.int .i64 (y:Nat),.agg (ic m.zs),.int .i64 q,.int .i64 top] w fun e w'=>e= .returned (.tuple #[])∧w'.ownsRow base 3 1 (.slice (some ⟨g,0,none⟩) n c) n ((bldS ref ⟨W,H,px⟩ x y m q top 4).map (Value.int .i64))∧w.grownBy w' (some g):=by
 obtain⟨hpv,hx0,hx1,hx8,hy0,hy1,hy8⟩:=hp;have hxx:x+8≤W:=by have h1:=hpv.1.2.2;simp only at hx1 h1;omega
 have hyy:y+8≤H:=by have h1:=hpv.2.1.2.2;simp only at hy1 h1;omega
 have hW32:W≤32:=by have:=hpv.1.2.1;simp only at this;omega
 have hH32:H≤32:=by have:=hpv.2.1.2.1;simp only at this;omega
 have hpl:n=px.length:=by have:=own.1;simpa using this.symm
 have hnW:n=W*H:=by
  have h1:=hpv.2.2.1;simp only[←Int.natCast_mul]at h1;rw[hpl];exact Int.ofNat.inj h1
 have hn1k:n≤1024:=by rw[hnW];exact Nat.mul_le_mul hW32 hH32
 have inn:∀ u v:Nat,u+4≤H→v+4≤W→(u+3)*W+v+3<n:=fun u v h1 h2=>by
  have h3:=Nat.mul_le_mul_right W (show u+4≤H by omega);rw[Nat.add_mul,Nat.mul_comm H W,←hnW]at h3;rw[Nat.add_mul];omega
 have Inn:=Lib.hid inn;have HV:=Lib.hid (fun k=>bldS_valid hpv ref x y m q top k);have HL:=Lib.hid (fun k=>show n=(bldS ref ⟨W,H,px⟩ x y m q top k).length by rw[bldS_len,hpl]);have Hmv:=Lib.hid hv;have Hm:=Lib.hid hm;have Hl:=Lib.hid (Mac.zs_len hm);have HK:=Lib.hid hk;have hbg:base≤g:=(own.lt g rfl).1;have hgT:0≠g:=by omega
 have hgw:g<w.heap.size:=(own.lt g rfl).2;have R0:RG w base g n c ra rn rc W H ref m w.heap.size px (((w.alloc (.cells #[.int .i64 W,.int .i64 H,.slice (some ⟨g,0,none⟩) n c] 25)).alloc (.cells #[.int .i64 ref.w,.int .i64 ref.h,.slice ra rn rc] 25)).alloc (.cells (ic m.zs) 32)):=by
  have a1:=Ext.alloc w (.cells #[.int .i64 W,.int .i64 H,.slice (some ⟨g,0,none⟩) n c] 25);have a2:=Ext.alloc (w.alloc (.cells #[.int .i64 W,.int .i64 H,.slice (some ⟨g,0,none⟩) n c] 25)) (.cells #[.int .i64 ref.w,.int .i64 ref.h,.slice ra rn rc] 25);have a3:=Ext.alloc ((w.alloc (.cells #[.int .i64 W,.int .i64 H,.slice (some ⟨g,0,none⟩) n c] 25)).alloc (.cells #[.int .i64 ref.w,.int .i64 ref.h,.slice ra rn rc] 25)) (.cells (ic m.zs) 32);have q1:=a3.blk (blk_new (w.alloc (.cells #[.int .i64 W,.int .i64 H,.slice (some ⟨g,0,none⟩) n c] 25)) (.cells #[.int .i64 ref.w,.int .i64 ref.h,.slice ra rn rc] 25));have q2:=IB.new ((w.alloc (.cells #[.int .i64 W,.int .i64 H,.slice (some ⟨g,0,none⟩) n c] 25)).alloc (.cells #[.int .i64 ref.w,.int .i64 ref.h,.slice ra rn rc] 25)) 32 m.zs;simp only[World.size_alloc]at q1 q2;exact⟨grown_ext (grown_refl _ _) ((a1.trans a2).trans a3),owns_ext own ((a1.trans a2).trans a3),a3.blk (a2.blk (blk_new _ _)),q1,q2,hgw⟩
 have HT:=Lib.hid hT;have ta1:=ta_1_0;have ta2:=ta_1_1;have hnil:=fun(w:World) (a:Option Addr) (n c:Nat)=>Lib.run_eql_slice_nil (P:=Tryz.prog) w 23 3 a n c 0 0 Tryz.underlying23
 have r2:=R0.b2;clear hpv hpl hnW inn hv hm hk own hx8 hy8 hT;have Hrv:=Lib.hid hrv;have Hrn:=Lib.hid hrn;have Hrg:=Lib.hid hrg;clear hrv hrn hrg hx0 hy0 hx1 hy1;go_enter Tryz.func46,Tryz.ntmps46
 go_wp2_with (refine wpList_iload 32 _ rfl rfl r2 0 71 rfl _ Tryz.underlying32 rfl size_Macro (by rw[Hl.out];omega) _ (by rw[sub_all _ _ Hl.out]) ?_)
 try simp only[World.size_alloc]
 obtain⟨B,hB⟩:∃ B,B=w.heap.size:=⟨_,rfl⟩;rw[←hB]at R0 r2⊢;have hwB:w.heap.size≤B:=by omega
 have HB:=Lib.hid hB;clear hB r2;refine(impl_kindOf_1 m _ Hm.out HK.out).mono ?_
 rintro e w1 ⟨rfl,e1⟩
 have R1:=R0.ex e1;clear R0 e1;have r2:=R1.b2;obtain⟨-,k0,k1,k2,-⟩:=bx3 R1.b1;have hrs:Sl w1 ra rn (ref.px.map (Value.int .i64)):=hr.grown R1.gr (fun z hz=>by have:=Hrg.out z hz;simp;omega);have hvv:=Hmv.out.2.1;go_wp2_with (refine wpList_iload 27 _ rfl rfl r2 1 2 rfl _ Tryz.underlying27 rfl size_Vector (by rw[Hl.out];omega) _ Mac.zs_mv ?_)
 refine(moved_any ref x y m.x m.y ra rc rn _ Hrv.out Hrn.out hrs (by omega) (by omega) (by omega) (by omega) hvv.1 hvv.2.1 hvv.2.2.1 hvv.2.2.2).mono ?_
 rintro e w2 ⟨a2,c2,rfl,o2,e2⟩
 have R2:=R1.ex e2;have hs1:=R1.gr.size;have ha2:∃ g2,a2=some ⟨g2,0,none⟩∧g2≠g:=by
  rcases o2.2 with⟨-,h0⟩|⟨g2,cc,cur,hv2,hb2,-⟩
  ·omega
  ·simp only[Value.slice.injEq]at hv2;exact⟨g2,hv2.1,by omega⟩
 obtain⟨g2,rfl,hg2⟩:=ha2;have s2:=Sl.of_owns o2;have Hb:=Lib.hid (blkL_len ref x y m.x m.y);clear k0 k1 k2 r2 R1 e2 o2 hrs hr hvv;have r2:=R2.b2;go_wp2_with (refine wpList_iload 30 _ rfl rfl r2 7 64 rfl _ Tryz.underlying30 rfl size_A16A4 (by rw[Hl.out];omega) _ (by rw[Mac.zs_lv Hm.out]) ?_)
 clear r2;go_loopw [37] (fun i wr=>∃ k:Nat,k≤4∧i= .int .i64 k∧RG w base g n c ra rn rc W H ref m B (bldS ref ⟨W,H,px⟩ x y m q top k) wr∧Hid (Sl wr (some ⟨g2,0,none⟩) 64 ((blkL ref x y m.x m.y).map (Value.int .i64)))) (fun i _=>4-(intOf i).toNat)
 case atStart=>exact⟨0,by omega,rfl,R2,Lib.hid s2⟩
 case round =>
  obtain⟨k,hk,rfl,R3,S3⟩:=hrel;clear R2 s2
  by_cases hlt:k<4
  ·have hd:decide ((k:Int)<4)=true:=by simp;omega
   have hZv:=HV.out k;have hZn:=HL.out k;have Hst:=Lib.hid (bld_step ref W H px x y m q top k);obtain⟨Z,hZ⟩:∃ Z,Z=bldS ref ⟨W,H,px⟩ x y m q top k:=⟨_,rfl⟩;obtain⟨Z1,hZ1⟩:∃ Z,Z=bldS ref ⟨W,H,px⟩ x y m q top (k+1):=⟨_,rfl⟩;rw[←hZ]at R3 hZv hZn Hst;rw[←hZ1]at Hst;have HZ1:=Lib.hid hZ1;have HZv:=Lib.hid hZv;have HZn:=Lib.hid hZn;obtain⟨xi,hxi⟩:∃ v,v=x+k%2*4:=⟨_,rfl⟩;obtain⟨yj,hyj⟩:∃ v,v=y+k/2*4:=⟨_,rfl⟩;have HPK:=Lib.hid (show prK ref W H Z x y m top k=pof (blkL ref x y m.x m.y) (k%2*4) (k/2*4)from if_neg (by rw[HK.out];decide));rw[←hxi,←hyj]at Hst;have hxi4:xi+4≤W:=by omega
   have hyj4:yj+4≤H:=by omega
   have Hxi:=Lib.hid (show(x:Int)+(k:Int)%2*4=((xi:Nat):Int) by omega);have Hyj:=Lib.hid (show(y:Int)+(k:Int)/2*4=((yj:Nat):Int) by omega);have hI:=Inn.out yj xi hyj4 hxi4;have hB16:=sub16 Hm.out.lv hlt;have hBv:=lv_blk Hm.out Hmv.out hlt;obtain⟨bk,hbk⟩:∃ b,b=sub m.lv (k*16) 16:=⟨_,rfl⟩;have Hbk:=Lib.hid hbk;rw[←hbk]at hB16 hBv Hst;have HB16:=Lib.hid hB16;have HBv:=Lib.hid hBv;clear hZ hZ1 hxi hyj hbk hB16 hBv hZv hZn
   -- the block's levels are laid
   have ia:=IB.new wr 29 (List.replicate 16 0);have R4:=R3.ex (Ext.alloc wr (.cells (ic (List.replicate 16 0)) 29));have hO:=lt_of_block R3.b2;have S4:=S3.out.ext (Ext.alloc wr (.cells (ic (List.replicate 16 0)) 29));go_wp2_with (first|(refine wpList_iindexa _ _ _ rfl rfl m.lv rfl k 4 16 _ rfl rfl _ _ Tryz.underlying30 Tryz.underlying29 rfl size_A16 hlt ?_)|(refine wpList_istore 29 _ _ rfl rfl ia 0 16 rfl _ rfl bk (by rw[Hbk.out]) size_A16 HB16.out (by simp) ?_;intro w5 i5 g5;refine Hid.out ?_))
   rw[spl_all (by rw[HB16.out];simp)]at i5;have R5:=R4.loc g5 hO hwB;have hg2r:g2<wr.heap.size:=by
    obtain⟨b8,o8,h8,c8⟩:=S3.out.int (show 0<64 by omega);simp only[Option.some.injEq,Addr.mk.injEq,and_true]at h8;rw[h8.1];exact World.block_lt_of_cell? _ _ c8
   have S5:=S4.grown g5 (fun z hz=>by cases hz;simp;omega);obtain⟨O,hOe⟩:∃ O,O=wr.heap.size:=⟨_,rfl⟩;rw[←hOe]at i5 g5 hO⊢;have HOe:=Lib.hid hOe;clear hOe ia R4 R3 g5 S3 S4;refine Lib.hid ?_;go_wp2_with fail
   refine(partAt_any k _ hlt).mono ?_
   rintro e w6 ⟨rfl,rfl⟩
   have ib:=IB.new w5 29 (List.replicate 16 0);have R6:=R5.ex (Ext.alloc w5 (.cells (ic (List.replicate 16 0)) 29));have i6:=i5.alloc (.cells (ic (List.replicate 16 0)) 29);have hO2:=i5.lt;have S6:=S5.ext (Ext.alloc w5 (.cells (ic (List.replicate 16 0)) 29));obtain⟨O2,hO2e⟩:∃ O,O=w5.heap.size:=⟨_,rfl⟩;rw[←hO2e]at ib hO2;have HO2:=Lib.hid hO2e;have hb0:=R6.b0;have hgB:=R6.gB;obtain⟨E,hE⟩:∃ E,E=edg ⟨W,H,Z⟩ (xi:Int) (yj:Int) top:=⟨_,rfl⟩;clear hE;obtain⟨PR,hPR⟩:∃ P,P=pof (blkL ref x y m.x m.y) (k%2*4) (k/2*4):=⟨_,rfl⟩;rw[←hPR]at HPK;rw[HPK.out]at Hst;have HPR:=Lib.hid hPR;clear hPR;have hPl:PR.length=16:=by rw[HPR.out,pof_len]
   have HPl:=Lib.hid hPl;have hPb:bdA 1099511627776 PR:=by rw[HPR.out];exact smp_bd (pof_smp (blkL_smp Hrv.out _ _ _ _) (blkL_len _ _ _ _ _) (by omega) (by omega))
   have HPb:=Lib.hid hPb;clear hPl hPb;go_wp2_with fail
   rw[←hO2e];clear hO2e;refine(partOf_any (blkL ref x y m.x m.y) (k%2*4) (k/2*4) (by omega) (by omega) (some ⟨g2,0,none⟩) c2 _ S6).mono ?_
   rintro e w7 ⟨rfl,e7⟩
   rw[←HPR.out];have R7:=R6.ex e7;have i7:=i6.ext e7;have ib7:=ib.ext e7;have S7:=S6.ext e7;have hg2l:g2<w5.heap.size:=by
    obtain⟨b8,o8,h8,c8⟩:=S5.int (show 0<64 by omega);simp only[Option.some.injEq,Addr.mk.injEq,and_true]at h8;rw[h8.1];exact World.block_lt_of_cell? _ _ c8
   rw[←HO2.out]at hg2l;clear R5 i5 R6 i6 ib S5 S6 e7;go_wp2_with (refine wpList_istore 29 _ _ rfl rfl ib7 0 16 rfl _ rfl PR rfl size_A16 HPl.out (by simp) ?_;intro w8 pM g8;refine Hid.out ?_)
   rw[spl_all (by rw[HPl.out];simp)]at pM;have RM:=R7.loc g8 (by omega) hwB;have bM:=i7.gr g8 (lv2' (by omega));have SM:=S7.grown g8 (fun z hz=>by cases hz;simp;omega);clear R7 i7 ib7 S7 g8;refine Lib.hid ?_;go_wp2_with fail
   obtain⟨D,hD⟩:∃ D,D=dec bk q:=⟨_,rfl⟩;rw[←hD]at Hst;have HD:=Lib.hid hD;have HDl:=Lib.hid (show D.length=16 by rw[hD,dec_len]);have HDb:=Lib.hid (show bdA 1099511627776 D by rw[hD];exact dec_bd _ _);clear hD;refine wp_region_invL (by kernel_rfl) [(66,0),(67,1),(68,2),(69,3),(70,4),(71,5),(72,6),(73,7),(74,8),(75,9),(76,10),(77,11)] [[],[],[],[1,2],[],[],[4,5],[],[],[],[8,9],[0,1,2,3,4,5,6,7,8,9,10]] (fun i own ys wx=>match i with|0=>own= .agg #[.int .i64 W,.int .i64 H,.slice (some ⟨g,0,none⟩) n c]|1=>own= .int .i64 (x:Nat)|2=>own= .int .i64 ((k:Int)%2*4)|3=>own= .int .i64 (xi:Nat)|4=>own= .int .i64 (y:Nat)|5=>own= .int .i64 ((k:Int)/2*4)|6=>own= .int .i64 (yj:Nat)|7=>own= .agg (ic PR)|8=>own= .agg (ic bk)|9=>own= .int .i64 (q:Nat)|10=>own= .agg (ic D)|11=>True|_=>True) (fun Lx wx=>RG w base g n c ra rn rc W H ref m B (if Lx 11=true then Z1 else Z) wx∧IB wx O 29 bk∧IB wx O2 29 PR∧Sl wx (some ⟨g2,0,none⟩) 64 ((blkL ref x y m.x m.y).map (Value.int .i64))) (by kernel_rfl) (by kernel_rfl) (by kernel_rfl) ?g0_r4 ?gop_r4 ?gend_r4
   case g0_r4=>exact⟨RM.drew,bM.drewN 1,pM.drewN 1,SM.drewN 1⟩
   case gop_r4 =>
    refine⟨?o0,?_,?_,?o3,?_,?_,?o6,?o7,?o8,?_,?o10,?o11,trivial⟩ <;> (intro Lx xs wx hG hl ha hb hD hI Qo Kx hK hQo;simp only[patchS,Nat.reduceAdd,Nat.reduceEqDiff,↓reduceIte]at hQo⊢)
    case o0 =>
     clear hl ha hb hD hI;obtain⟨-,k0,k1,k2,-⟩:=bx3 hG.1.b0;go_wp2;exact hK.out _ _ ⟨rfl,hG,kkp⟩
    case o3 =>
     clear hl ha hb;rw[ddq (hD 1 rfl),ddq (hD 2 rfl)]at hQo⊢;clear hD hI;go_wp2;exact hK.out _ _ ⟨by rw[←Hxi.out],hG,fun _ _ _ _ _ _ h=>h⟩
    case o6 =>
     clear hl ha hb;rw[ddq (hD 4 rfl),ddq (hD 5 rfl)]at hQo⊢;clear hD hI;go_wp2;exact hK.out _ _ ⟨by rw[←Hyj.out],hG,fun _ _ _ _ _ _ h=>h⟩
    case o7 =>
     clear hl ha hb hD hI;go_wp2_with (refine wpList_iload 29 _ rfl rfl hG.2.2.1 0 16 rfl _ Tryz.underlying29 rfl size_A16 (by rw[HPl.out];omega) _ (by rw[sub_all _ _ HPl.out]) ?_)
     exact hK.out _ _ ⟨rfl,hG,kkp⟩
    case o8 =>
     clear hl ha hb hD hI;go_wp2_with (refine wpList_iload 29 _ rfl rfl hG.2.1 0 16 rfl _ Tryz.underlying29 rfl size_A16 (by rw[HB16.out];omega) _ (by rw[sub_all _ _ HB16.out]) ?_)
     exact hK.out _ _ ⟨rfl,hG,kkp⟩
    case o10 =>
     clear hl ha hb;rw[ddq (hD 8 rfl),ddq (hD 9 rfl)]at hQo⊢;clear hD hI;have hTx:=tabq_gr HT.out hG.1.gr hgT;go_wp2_with fail
     refine(DecodeBlock_any bk q _ hTx HB16.out HBv.out hq).mono ?_
     rintro e w9 ⟨rfl,e9⟩
     rw[←HD.out];go_wp2;exact hK.out _ _ ⟨rfl,⟨hG.1.ex e9,hG.2.1.ext e9,hG.2.2.1.ext e9,hG.2.2.2.ext e9⟩,fun _ _ _ _ _ _ h=>h⟩
    case o11 =>
     have l11:Lx 11=false:=hl;clear hl ha hb;rw[ddq (hD 0 rfl),ddq (hD 3 rfl),ddq (hD 6 rfl),ddq (hD 7 rfl),ddq (hD 10 rfl)]at hQo⊢;clear hD hI;rw[l11,ifF]at hG;go_wp2_with fail
     refine(put_any W H xi yj base g n c Z PR D _ HPl.out HDl.out HPb.out HDb.out hW32 (by omega) (by omega) hI (by omega) hG.1.own).mono ?_
     rintro e w9 ⟨rfl,o9,g9⟩
     go_wp2;rw[←Hst.out]at o9;exact hK.out _ _ ⟨trivial,⟨hG.1.put g9 o9,hG.2.1.gr g9 (lv2 (by omega)),hG.2.2.1.gr g9 (lv2 (by omega)),hG.2.2.2.grown g9 (fun z hz=>by cases hz;simpa using hg2)⟩,fun _ _ _ _ _ _ h=>h⟩
    all_goals
     clear hl ha hb hD hI;go_wp2;exact hK.out _ _ ⟨rfl,hG,kkp⟩
   intro xs wx hV hG0;obtain⟨Lx,hL,hG⟩:=hG0;have l11:Lx 11=true:=hL 11 (by decide);clear hL hV;simp only[patchS,Nat.reduceAdd,Nat.reduceEqDiff,↓reduceIte];generalize xs 0=y0,xs 1=y1,xs 2=y2,xs 3=y3,xs 4=y4,xs 5=y5,xs 6=y6,xs 7=y7,xs 8=y8,xs 9=y9,xs 10=y10,xs 11=y11 at *
   replace hG:RG w base g n c ra rn rc W H ref m B (if Lx 11=true then Z1 else Z) wx∧IB wx O 29 bk∧IB wx O2 29 PR∧Sl wx (some ⟨g2,0,none⟩) 64 ((blkL ref x y m.x m.y).map (Value.int .i64)):=hG
   rw[l11,ifT]at hG;clear RM bM pM SM;have HG:=Lib.hid hG;clear hG;go_wp2;go_roundw
   case rel=>exact⟨k+1,by omega,by go_num,by rw[←HZ1.out];exact HG.out.1,Lib.hid HG.out.2.2.2⟩
   case measure=>simp[intOf];omega
  ·obtain rfl:k=4:=by omega
   have HR:=Lib.hid R3;clear R3;go_wp2;go_end0
   exact⟨rfl,HR.out.own,HR.out.gr⟩
structure RS (w : World) (base g n c : Nat) (ra : Option Addr) (rn rc W H : Nat) (ref : Pic) (m : Mac) (B : Nat) (Z : List Int) (wx : World) : Prop where
 gr:w.grownBy wx (some g)
 own:wx.ownsRow base 3 1 (.slice (some ⟨g,0,none⟩) n c) n (Z.map (Value.int .i64))
 b0:wx.heap[B+1]?=some (.cells #[.int .i64 W,.int .i64 H,.slice (some ⟨g,0,none⟩) n c] 25 (0,0))
 b1:wx.heap[B]?=some (.cells #[.int .i64 ref.w,.int .i64 ref.h,.slice ra rn rc] 25 (0,0))
 b2:IB wx (B+1+1) 32 m.zs
 gB:g<B
section
variable {w wx wy : World} {base g n c rn rc W H B : Nat} {ra : Option Addr} {ref : Pic} {m : Mac} {Z Z' : List Int}
theorem RS.ex (h:RS w base g n c ra rn rc W H ref m B Z wx) (e:Ext wx wy):RS w base g n c ra rn rc W H ref m B Z wy :=
 ⟨grown_ext h.gr e,owns_ext h.own e,e.blk h.b0,e.blk h.b1,h.b2.ext e,h.gB⟩
theorem RS.drew (h:RS w base g n c ra rn rc W H ref m B Z wx):RS w base g n c ra rn rc W H ref m B Z wx.drew:=h.ex (Ext.drewN _ 1)
theorem RS.put (h:RS w base g n c ra rn rc W H ref m B Z wx) (gr:wx.grownBy wy (some g)) (own:wy.ownsRow base 3 1 (.slice (some ⟨g,0,none⟩) n c) n (Z'.map (Value.int .i64))):RS w base g n c ra rn rc W H ref m B Z' wy:=by
 have:=h.gB;exact⟨grownBy_trans h.gr gr,own,blk_gr h.b0 gr (by simp;omega),blk_gr h.b1 gr (by simp;omega),h.b2.gr gr (by simp;omega),h.gB⟩
theorem RS.loc {b':Nat} (h:RS w base g n c ra rn rc W H ref m B Z wx) (gr:wx.grownBy wy (some b')) (hb:B+1+1<b') (hw:w.heap.size≤B):RS w base g n c ra rn rc W H ref m B Z wy:=by
 have:=h.gB;refine⟨⟨gr.os.trans h.gr.os,gr.tape.trans h.gr.tape,gr.output.trans h.gr.output,Nat.le_trans h.gr.size gr.size,fun k hk hne=>(gr.block k (Nat.lt_of_lt_of_le hk h.gr.size) (by simp;omega)).trans (h.gr.block k hk hne)⟩,h.own.kept gr (.inr (by simp[Value.ownBlock];omega)),blk_gr h.b0 gr (by simp;omega),blk_gr h.b1 gr (by simp;omega),h.b2.gr gr (by simp;omega),h.gB⟩
end
theorem l8Build_I (ref:Pic) (W H x y:Nat) (px:List Int) (m:Mac) (q:Nat) (top:Int) (ra:Option Addr) (rn rc base g n c:Nat) (w:World) (own:w.ownsRow base 3 1 (.slice (some ⟨g,0,none⟩) n c) n (px.map (Value.int .i64)))
 (hp:placeP ⟨W,H,px⟩ x y) (hm:m.ok) (hv:m.valid) (hq:q<16) (ht0:0≤top) (hk:m.kind=2) :
 Calls Tryz.prog 96 #[.agg #[.int .i64 ref.w,.int .i64 ref.h,.slice ra rn rc],.agg #[.int .i64 W,.int .i64 H,.slice (some ⟨g,0,none⟩) n c],.int .i64 (x:Nat),.int .i64 (y:Nat),.agg (ic m.zs),.int .i64 q,.int .i64 top] w fun e w'=>e= .returned (.tuple #[])∧w'.ownsRow base 3 1 (.slice (some ⟨g,0,none⟩) n c) n ((bldS ref ⟨W,H,px⟩ x y m q top 4).map (Value.int .i64))∧w.grownBy w' (some g):=by
 obtain⟨hpv,hx0,hx1,hx8,hy0,hy1,hy8⟩:=hp;have hxx:x+8≤W:=by have h1:=hpv.1.2.2;simp only at hx1 h1;omega
 have hyy:y+8≤H:=by have h1:=hpv.2.1.2.2;simp only at hy1 h1;omega
 have hW32:W≤32:=by have:=hpv.1.2.1;simp only at this;omega
 have hH32:H≤32:=by have:=hpv.2.1.2.1;simp only at this;omega
 have hpl:n=px.length:=by have:=own.1;simpa using this.symm
 have hnW:n=W*H:=by
  have h1:=hpv.2.2.1;simp only[←Int.natCast_mul]at h1;rw[hpl];exact Int.ofNat.inj h1
 have hn1k:n≤1024:=by rw[hnW];exact Nat.mul_le_mul hW32 hH32
 have inn:∀ u v:Nat,u+4≤H→v+4≤W→(u+3)*W+v+3<n:=fun u v h1 h2=>by
  have h3:=Nat.mul_le_mul_right W (show u+4≤H by omega);rw[Nat.add_mul,Nat.mul_comm H W,←hnW]at h3;rw[Nat.add_mul];omega
 have Inn:=Lib.hid inn;have HV:=Lib.hid (fun k=>bldS_valid hpv ref x y m q top k);have HL:=Lib.hid (fun k=>show n=(bldS ref ⟨W,H,px⟩ x y m q top k).length by rw[bldS_len,hpl]);have Hmv:=Lib.hid hv;have Hm:=Lib.hid hm;have Hl:=Lib.hid (Mac.zs_len hm);have HK:=Lib.hid hk;have hbg:base≤g:=(own.lt g rfl).1;have hgw:g<w.heap.size:=(own.lt g rfl).2;have R0:RS w base g n c ra rn rc W H ref m w.heap.size px (((((w.alloc (.cells #[.int .i64 ref.w,.int .i64 ref.h,.slice ra rn rc] 25)).alloc (.cells #[.int .i64 W,.int .i64 H,.slice (some ⟨g,0,none⟩) n c] 25)).alloc (.cells (ic m.zs) 32))).alloc (.cells #[] 3)):=by
  have a1:=Ext.alloc w (.cells #[.int .i64 ref.w,.int .i64 ref.h,.slice ra rn rc] 25);have a2:=Ext.alloc (w.alloc (.cells #[.int .i64 ref.w,.int .i64 ref.h,.slice ra rn rc] 25)) (.cells #[.int .i64 W,.int .i64 H,.slice (some ⟨g,0,none⟩) n c] 25);have a3:=Ext.alloc ((w.alloc (.cells #[.int .i64 ref.w,.int .i64 ref.h,.slice ra rn rc] 25)).alloc (.cells #[.int .i64 W,.int .i64 H,.slice (some ⟨g,0,none⟩) n c] 25)) (.cells (ic m.zs) 32);have a4:=Ext.alloc (((w.alloc (.cells #[.int .i64 ref.w,.int .i64 ref.h,.slice ra rn rc] 25)).alloc (.cells #[.int .i64 W,.int .i64 H,.slice (some ⟨g,0,none⟩) n c] 25)).alloc (.cells (ic m.zs) 32)) (.cells #[] 3);have q1:=a4.blk (a3.blk (blk_new (w.alloc (.cells #[.int .i64 ref.w,.int .i64 ref.h,.slice ra rn rc] 25)) (.cells #[.int .i64 W,.int .i64 H,.slice (some ⟨g,0,none⟩) n c] 25)));have q2:=(IB.new ((w.alloc (.cells #[.int .i64 ref.w,.int .i64 ref.h,.slice ra rn rc] 25)).alloc (.cells #[.int .i64 W,.int .i64 H,.slice (some ⟨g,0,none⟩) n c] 25)) 32 m.zs).ext a4;simp only[World.size_alloc]at q1 q2;exact⟨grown_ext (grown_refl _ _) (((a1.trans a2).trans a3).trans a4),owns_ext own (((a1.trans a2).trans a3).trans a4),q1,a4.blk (a3.blk (a2.blk (blk_new _ _))),q2,hgw⟩
 have hkd:(m.kind == 2)=true:=by simpa using hk
 have hkn:(m.kind != 2)=false:=by simpa using hk
 have k0':=R0.b2.cell (i:=0) (by rw[Hl.out];omega);rw[Mac.zs_kind]at k0';have r2:=R0.b2;clear hpv hpl hnW inn hv hm hk own hx8 hy8 hx0 hy0 hx1 hy1;go_enter Tryz.func96,Tryz.ntmps96
 go_wp2_with fail
 try simp only[World.size_alloc]
 obtain⟨B,hB⟩:∃ B,B=w.heap.size:=⟨_,rfl⟩;rw[←hB]at R0 r2 k0'⊢;have hwB:w.heap.size≤B:=by omega
 have HB:=Lib.hid hB;clear hB r2 k0' hkn;have R1:=R0;clear R0;go_loopw [15] (fun i wr=>∃ k:Nat,k≤4∧i= .int .i64 k∧RS w base g n c ra rn rc W H ref m B (bldS ref ⟨W,H,px⟩ x y m q top k) wr) (fun i _=>4-(intOf i).toNat)
 case atStart=>exact⟨0,by omega,rfl,R1⟩
 case round =>
  obtain⟨k,hk,rfl,R3⟩:=hrel;clear R1
  by_cases hlt:k<4
  ·have hd:decide ((k:Int)<4)=true:=by simp;omega
   have hZv:=HV.out k;have hZn:=HL.out k;have Hst:=Lib.hid (bld_step ref W H px x y m q top k);obtain⟨Z,hZ⟩:∃ Z,Z=bldS ref ⟨W,H,px⟩ x y m q top k:=⟨_,rfl⟩;obtain⟨Z1,hZ1⟩:∃ Z,Z=bldS ref ⟨W,H,px⟩ x y m q top (k+1):=⟨_,rfl⟩;rw[←hZ]at R3 hZv hZn Hst;rw[←hZ1]at Hst;have HZ1:=Lib.hid hZ1;have HZv:=Lib.hid hZv;have HZn:=Lib.hid hZn;obtain⟨xi,hxi⟩:∃ v,v=x+k%2*4:=⟨_,rfl⟩;obtain⟨yj,hyj⟩:∃ v,v=y+k/2*4:=⟨_,rfl⟩;have HPK:=Lib.hid (show prK ref W H Z x y m top k=prd (nth m.modes k).toNat (edg ⟨W,H,Z⟩ ((x+k%2*4:Nat):Int) ((y+k/2*4:Nat):Int) top)from if_pos HK.out);rw[←hxi,←hyj]at Hst HPK;have hxi4:xi+4≤W:=by omega
   have hyj4:yj+4≤H:=by omega
   have Hxi:=Lib.hid (show(x:Int)+(k:Int)%2*4=((xi:Nat):Int) by omega);have Hyj:=Lib.hid (show(y:Int)+(k:Int)/2*4=((yj:Nat):Int) by omega);have hI:=Inn.out yj xi hyj4 hxi4;have hB16:=sub16 Hm.out.lv hlt;have hBv:=lv_blk Hm.out Hmv.out hlt;obtain⟨bk,hbk⟩:∃ b,b=sub m.lv (k*16) 16:=⟨_,rfl⟩;have Hbk:=Lib.hid hbk;rw[←hbk]at hB16 hBv Hst;have HB16:=Lib.hid hB16;have HBv:=Lib.hid hBv;clear hZ hZ1 hxi hyj hbk hB16 hBv hZv hZn;have hcK:=R3.b2.cell (i:=0) (by rw[Hl.out];omega);rw[Mac.zs_kind]at hcK;have ib:=IB.new wr 29 (List.replicate 16 0);have R6:=R3.ex (Ext.alloc wr (.cells (ic (List.replicate 16 0)) 29));have hO2:=lt_of_block R3.b2;have hO3:=lt_of_block R3.b2;obtain⟨O2,hO2e⟩:∃ O,O=wr.heap.size:=⟨_,rfl⟩;rw[←hO2e]at ib hO2;have HO2:=Lib.hid hO2e;have hb0:=R6.b0;have hgB:=R6.gB;obtain⟨E,hE⟩:∃ E,E=edg ⟨W,H,Z⟩ (xi:Int) (yj:Int) top:=⟨_,rfl⟩;have hEok:=edg_ok HZv.out (xi:Int) (yj:Int) top;rw[←hE]at hEok HPK;have HE:=Lib.hid hE;have HEok:=Lib.hid hEok;have hmr:=Hmv.out.2.2.2.2.1 HK.out k hlt;obtain⟨md,hmd⟩:∃ v:Nat,nth m.modes k=(v:Int):=⟨(nth m.modes k).toNat,by omega⟩;rw[hmd]at hmr;rw[hmd,Int.toNat_natCast]at HPK;have Hmd:=Lib.hid hmd;obtain⟨PR,hPR⟩:∃ P,P=prd md E:=⟨_,rfl⟩;rw[←hPR]at HPK;rw[HPK.out]at Hst;have HPR:=Lib.hid hPR;clear hE hEok hmd hPR;have hPl:PR.length=16:=by rw[HPR.out,prd_len]
   have HPl:=Lib.hid hPl;have hPb:bdA 1099511627776 PR:=by rw[HPR.out];exact smp_bd (prd_smp _ HEok.out)
   have HPb:=Lib.hid hPb;clear hPl hPb;go_wp2_with fail
   rw[←hO2e];clear hO2e hcK hO3;have G7:RS w base g n c ra rn rc W H ref m B Z (wr.alloc (.cells (ic (List.replicate 16 0)) 29))∧IB (wr.alloc (.cells (ic (List.replicate 16 0)) 29)) O2 29 (List.replicate 16 0):=⟨R6,ib⟩;clear R3 R6 ib hb0;refine wp_region_invL (by kernel_rfl) [(47,0),(48,1),(49,2),(50,3),(51,4),(52,5),(53,6),(54,7),(55,8),(56,9)] [[],[],[0,1],[0,1,2],[],[],[],[],[4,5,6,7],[0,1,2,3,4,5,6,7,8],[0,1,2,3,4,5,6,7,8,9]] (fun i own ys wx=>match i with|0=>own= .int .i64 (k:Nat)|1=>own= .pointer (some ⟨B+1+1,3,none⟩)|2=>own= .pointer (some ⟨B+1+1,3+k,none⟩)|3=>own= .int .i64 (md:Nat)|4=>own= .agg #[.int .i64 W,.int .i64 H,.slice (some ⟨g,0,none⟩) n c]|5=>own= .int .i64 (xi:Nat)|6=>own= .int .i64 (yj:Nat)|7=>own= .int .i64 top|8=>own= .agg (edC E)|9=>own= .agg (ic PR)|10=>True|_=>True) (fun Lx wx=>RS w base g n c ra rn rc W H ref m B Z wx∧IB wx O2 29 (if Lx 10=true then PR else(List.replicate 16 0))) (by kernel_rfl) (by kernel_rfl) (by kernel_rfl) ?g0_r1 ?gop_r1 ?gend_r1
   case g0_r1=>exact⟨G7.1.drew,G7.2.drewN 1⟩
   case gop_r1 =>
    refine⟨?_,?_,?o2,?o3,?o4,?o5,?o6,?_,?o8,?o9,?o10,trivial⟩ <;> (intro Lx xs wx hG hl ha hb hD hI Qo Kx hK hQo;simp only[patchS,Nat.reduceAdd,Nat.reduceEqDiff,↓reduceIte]at hQo⊢)
    case o2 =>
     clear hl ha hb;rw[ddq (hD 0 rfl),ddq (hD 1 rfl)]at hQo⊢;clear hD hI;go_wp2;exact hK.out _ _ ⟨rfl,hG,kkp⟩
    case o3 =>
     clear hl ha hb;rw[ddq (hD 2 rfl)]at hQo⊢;clear hD hI;have cx:=hG.1.b2.cell (i:=3+k) (by rw[Hl.out];omega);rw[Mac.nth_mode Hm.out k hlt,Hmd.out]at cx;go_wp2;exact hK.out _ _ ⟨rfl,hG,kkp⟩
    case o4 =>
     clear hl ha hb hD hI;obtain⟨-,k0,k1,k2,-⟩:=bx3 hG.1.b0;go_wp2;exact hK.out _ _ ⟨rfl,hG,kkp⟩
    case o5 =>
     clear hl ha hb hD hI;go_wp2;exact hK.out _ _ ⟨by rw[←Hxi.out],hG,fun _ _ _ _ _ _ h=>h⟩
    case o6 =>
     clear hl ha hb hD hI;go_wp2;exact hK.out _ _ ⟨by rw[←Hyj.out],hG,fun _ _ _ _ _ _ h=>h⟩
    case o8 =>
     clear hl ha hb;rw[ddq (hD 4 rfl),ddq (hD 5 rfl),ddq (hD 6 rfl),ddq (hD 7 rfl)]at hQo⊢;clear hD hI;go_wp2_with fail
     refine(l6Edges_any ⟨W,H,Z⟩ xi yj W H top (some ⟨g,0,none⟩) c n _ HZv.out HZn.out (Sl.of_owns hG.1.own) rfl rfl (by omega) (by omega) ht0).mono ?_
     rintro e w9 ⟨rfl,e9⟩
     rw[←HE.out];go_wp2;exact hK.out _ _ ⟨rfl,⟨hG.1.ex e9,hG.2.ext e9⟩,fun _ _ _ _ _ _ h=>h⟩
    case o9 =>
     clear hl ha hb;rw[ddq (hD 3 rfl),ddq (hD 8 rfl)]at hQo⊢;clear hD hI;go_wp2_with fail
     refine(l6Predict_any E md _ HEok.out (by omega)).mono ?_
     rintro e w9 ⟨rfl,e9⟩
     rw[←HPR.out];go_wp2;exact hK.out _ _ ⟨rfl,⟨hG.1.ex e9,hG.2.ext e9⟩,fun _ _ _ _ _ _ h=>h⟩
    case o10 =>
     have l10:Lx 10=false:=hl;clear hl ha hb;rw[ddq (hD 9 rfl)]at hQo⊢;clear hD hI;rw[l10,ifF]at hG;refine wpList_istore 29 _ _ rfl rfl hG.2 0 16 rfl _ rfl PR rfl size_A16 HPl.out (by simp) ?_;intro w9 i9 g9;rw[spl_all (by rw[HPl.out];simp)]at i9;exact hQo undef _ (hK.out _ _ ⟨trivial,⟨hG.1.loc g9 (by omega) hwB,i9⟩,fun _ _ _ _ _ _ h=>h⟩)
    all_goals
     clear hl ha hb hD hI;go_wp2;exact hK.out _ _ ⟨rfl,hG,kkp⟩
   intro xs wx hV hG0;obtain⟨Lx,hL,hG⟩:=hG0;have l10:Lx 10=true:=hL 10 (by decide);clear hL hV;simp only[patchS,Nat.reduceAdd,Nat.reduceEqDiff,↓reduceIte];generalize xs 0=y0,xs 1=y1,xs 2=y2,xs 3=y3,xs 4=y4,xs 5=y5,xs 6=y6,xs 7=y7,xs 8=y8,xs 9=y9,xs 10=y10 at *
   replace hG:RS w base g n c ra rn rc W H ref m B Z wx∧IB wx O2 29 (if Lx 10=true then PR else(List.replicate 16 0)):=hG
   rw[l10,ifT]at hG;clear G7;obtain⟨RM,pM⟩:=hG;go_wp2_with fail
   obtain⟨D,hD⟩:∃ D,D=dec bk q:=⟨_,rfl⟩;rw[←hD]at Hst;have HD:=Lib.hid hD;have HDl:=Lib.hid (show D.length=16 by rw[hD,dec_len]);have HDb:=Lib.hid (show bdA 1099511627776 D by rw[hD];exact dec_bd _ _);clear hD;refine wp_region_invL (by kernel_rfl) [(60,0),(61,1),(62,2),(63,3),(64,4),(65,5),(66,6),(67,7),(68,8),(69,9),(70,10)] [[],[],[],[],[],[],[4,5],[4,5,6],[],[4,5,6,7,8],[0,1,2,3,4,5,6,7,8,9]] (fun i own ys wx=>match i with|0=>own= .agg #[.int .i64 W,.int .i64 H,.slice (some ⟨g,0,none⟩) n c]|1=>own= .int .i64 (xi:Nat)|2=>own= .int .i64 (yj:Nat)|3=>own= .agg (ic PR)|4=>own= .int .i64 (k:Nat)|5=>own= .pointer (some ⟨B+1+1,7,none⟩)|6=>own= .pointer (some ⟨B+1+1,7+k*16,none⟩)|7=>own= .agg (ic bk)|8=>own= .int .i64 (q:Nat)|9=>own= .agg (ic D)|10=>True|_=>True) (fun Lx wx=>RS w base g n c ra rn rc W H ref m B (if Lx 10=true then Z1 else Z) wx∧IB wx O2 29 PR) (by kernel_rfl) (by kernel_rfl) (by kernel_rfl) ?g0_r2 ?gop_r2 ?gend_r2
   case g0_r2=>exact⟨RM.drew,pM.drewN 1⟩
   case gop_r2 =>
    refine⟨?o0,?o1,?o2,?o3,?_,?_,?o6,?o7,?_,?o9,?o10,trivial⟩ <;> (intro Lx xs wx hG hl ha hb hD hI Qo Kx hK hQo;simp only[patchS,Nat.reduceAdd,Nat.reduceEqDiff,↓reduceIte]at hQo⊢)
    case o0 =>
     clear hl ha hb hD hI;obtain⟨-,k0,k1,k2,-⟩:=bx3 hG.1.b0;go_wp2;exact hK.out _ _ ⟨rfl,hG,kkp⟩
    case o1 =>
     clear hl ha hb hD hI;go_wp2;exact hK.out _ _ ⟨by rw[←Hxi.out],hG,fun _ _ _ _ _ _ h=>h⟩
    case o2 =>
     clear hl ha hb hD hI;go_wp2;exact hK.out _ _ ⟨by rw[←Hyj.out],hG,fun _ _ _ _ _ _ h=>h⟩
    case o3 =>
     clear hl ha hb hD hI;go_wp2_with (refine wpList_iload 29 _ rfl rfl hG.2 0 16 rfl _ Tryz.underlying29 rfl size_A16 (by rw[HPl.out];omega) _ (by rw[sub_all _ _ HPl.out]) ?_)
     exact hK.out _ _ ⟨rfl,hG,kkp⟩
    case o6 =>
     clear hl ha hb;rw[ddq (hD 4 rfl),ddq (hD 5 rfl)]at hQo⊢;clear hD hI;go_wp2;exact hK.out _ _ ⟨rfl,hG,kkp⟩
    case o7 =>
     clear hl ha hb;rw[ddq (hD 6 rfl)]at hQo⊢;clear hD hI;go_wp2_with (refine wpList_iload 29 _ rfl rfl hG.1.b2 (7+k*16) 16 rfl _ Tryz.underlying29 rfl size_A16 (by rw[Hl.out];omega) _ (by rw[Mac.zs_blk Hm.out k hlt,←Hbk.out]) ?_)
     exact hK.out _ _ ⟨rfl,hG,kkp⟩
    case o9 =>
     clear hl ha hb;rw[ddq (hD 7 rfl),ddq (hD 8 rfl)]at hQo⊢;clear hD hI;go_wp2_with fail
     refine(l4Decode_any bk q _ HB16.out HBv.out hq).mono ?_
     rintro e w9 ⟨rfl,e9⟩
     rw[←HD.out];go_wp2;exact hK.out _ _ ⟨rfl,⟨hG.1.ex e9,hG.2.ext e9⟩,fun _ _ _ _ _ _ h=>h⟩
    case o10 =>
     have l10:Lx 10=false:=hl;clear hl ha hb;rw[ddq (hD 0 rfl),ddq (hD 1 rfl),ddq (hD 2 rfl),ddq (hD 3 rfl),ddq (hD 9 rfl)]at hQo⊢;clear hD hI;rw[l10,ifF]at hG;go_wp2_with fail
     refine(l8Put_any W H xi yj base g n c Z PR D _ HPl.out HDl.out HPb.out HDb.out hW32 (by omega) (by omega) hI (by omega) hG.1.own).mono ?_
     rintro e w9 ⟨rfl,o9,g9⟩
     go_wp2;rw[←Hst.out]at o9;exact hK.out _ _ ⟨trivial,⟨hG.1.put g9 o9,hG.2.gr g9 (lv2 (by omega))⟩,fun _ _ _ _ _ _ h=>h⟩
    all_goals
     clear hl ha hb hD hI;go_wp2;exact hK.out _ _ ⟨rfl,hG,kkp⟩
   intro xs wx hV hG0;obtain⟨Lx,hL,hG⟩:=hG0;have l10:Lx 10=true:=hL 10 (by decide);clear hL hV;simp only[patchS,Nat.reduceAdd,Nat.reduceEqDiff,↓reduceIte];generalize xs 0=y0,xs 1=y1,xs 2=y2,xs 3=y3,xs 4=y4,xs 5=y5,xs 6=y6,xs 7=y7,xs 8=y8,xs 9=y9,xs 10=y10 at *
   replace hG:RS w base g n c ra rn rc W H ref m B (if Lx 10=true then Z1 else Z) wx∧IB wx O2 29 PR:=hG
   rw[l10,ifT]at hG;clear RM pM;have HG:=Lib.hid hG;clear hG;go_wp2;go_roundw
   case rel=>exact⟨k+1,by omega,by go_num,by rw[←HZ1.out];exact HG.out.1⟩
   case measure=>simp[intOf];omega
  ·obtain rfl:k=4:=by omega
   have HR:=Lib.hid R3;clear R3;go_wp2;go_end0
   exact⟨rfl,HR.out.own,HR.out.gr⟩
theorem l8Build_S (ref:Pic) (W H x y:Nat) (px:List Int) (m:Mac) (q:Nat) (top:Int) (ra:Option Addr) (rn rc base g n c:Nat) (w:World) (own:w.ownsRow base 3 1 (.slice (some ⟨g,0,none⟩) n c) n (px.map (Value.int .i64)))
 (hp:placeP ⟨W,H,px⟩ x y) (hm:m.ok) (hv:m.valid) (hq:q<16) (ht0:0≤top) (hk : ¬ m.kind=2) (hrv:ref.valid) (hrn:rn=ref.px.length) (hr:Sl w ra rn (ref.px.map (Value.int .i64))) (hrg:∀ z,ra=some z→z.block≠g) :
 Calls Tryz.prog 96 #[.agg #[.int .i64 ref.w,.int .i64 ref.h,.slice ra rn rc],.agg #[.int .i64 W,.int .i64 H,.slice (some ⟨g,0,none⟩) n c],.int .i64 (x:Nat),.int .i64 (y:Nat),.agg (ic m.zs),.int .i64 q,.int .i64 top] w fun e w'=>e= .returned (.tuple #[])∧w'.ownsRow base 3 1 (.slice (some ⟨g,0,none⟩) n c) n ((bldS ref ⟨W,H,px⟩ x y m q top 4).map (Value.int .i64))∧w.grownBy w' (some g):=by
 obtain⟨hpv,hx0,hx1,hx8,hy0,hy1,hy8⟩:=hp;have hxx:x+8≤W:=by have h1:=hpv.1.2.2;simp only at hx1 h1;omega
 have hyy:y+8≤H:=by have h1:=hpv.2.1.2.2;simp only at hy1 h1;omega
 have hW32:W≤32:=by have:=hpv.1.2.1;simp only at this;omega
 have hH32:H≤32:=by have:=hpv.2.1.2.1;simp only at this;omega
 have hpl:n=px.length:=by have:=own.1;simpa using this.symm
 have hnW:n=W*H:=by
  have h1:=hpv.2.2.1;simp only[←Int.natCast_mul]at h1;rw[hpl];exact Int.ofNat.inj h1
 have hn1k:n≤1024:=by rw[hnW];exact Nat.mul_le_mul hW32 hH32
 have inn:∀ u v:Nat,u+4≤H→v+4≤W→(u+3)*W+v+3<n:=fun u v h1 h2=>by
  have h3:=Nat.mul_le_mul_right W (show u+4≤H by omega);rw[Nat.add_mul,Nat.mul_comm H W,←hnW]at h3;rw[Nat.add_mul];omega
 have Inn:=Lib.hid inn;have HV:=Lib.hid (fun k=>bldS_valid hpv ref x y m q top k);have HL:=Lib.hid (fun k=>show n=(bldS ref ⟨W,H,px⟩ x y m q top k).length by rw[bldS_len,hpl]);have Hmv:=Lib.hid hv;have Hm:=Lib.hid hm;have Hl:=Lib.hid (Mac.zs_len hm);have HK:=Lib.hid hk;have hbg:base≤g:=(own.lt g rfl).1;have hgw:g<w.heap.size:=(own.lt g rfl).2;have R0:RS w base g n c ra rn rc W H ref m w.heap.size px (((((w.alloc (.cells #[.int .i64 ref.w,.int .i64 ref.h,.slice ra rn rc] 25)).alloc (.cells #[.int .i64 W,.int .i64 H,.slice (some ⟨g,0,none⟩) n c] 25)).alloc (.cells (ic m.zs) 32))).alloc (.cells #[] 3)):=by
  have a1:=Ext.alloc w (.cells #[.int .i64 ref.w,.int .i64 ref.h,.slice ra rn rc] 25);have a2:=Ext.alloc (w.alloc (.cells #[.int .i64 ref.w,.int .i64 ref.h,.slice ra rn rc] 25)) (.cells #[.int .i64 W,.int .i64 H,.slice (some ⟨g,0,none⟩) n c] 25);have a3:=Ext.alloc ((w.alloc (.cells #[.int .i64 ref.w,.int .i64 ref.h,.slice ra rn rc] 25)).alloc (.cells #[.int .i64 W,.int .i64 H,.slice (some ⟨g,0,none⟩) n c] 25)) (.cells (ic m.zs) 32);have a4:=Ext.alloc (((w.alloc (.cells #[.int .i64 ref.w,.int .i64 ref.h,.slice ra rn rc] 25)).alloc (.cells #[.int .i64 W,.int .i64 H,.slice (some ⟨g,0,none⟩) n c] 25)).alloc (.cells (ic m.zs) 32)) (.cells #[] 3);have q1:=a4.blk (a3.blk (blk_new (w.alloc (.cells #[.int .i64 ref.w,.int .i64 ref.h,.slice ra rn rc] 25)) (.cells #[.int .i64 W,.int .i64 H,.slice (some ⟨g,0,none⟩) n c] 25)));have q2:=(IB.new ((w.alloc (.cells #[.int .i64 ref.w,.int .i64 ref.h,.slice ra rn rc] 25)).alloc (.cells #[.int .i64 W,.int .i64 H,.slice (some ⟨g,0,none⟩) n c] 25)) 32 m.zs).ext a4;simp only[World.size_alloc]at q1 q2;exact⟨grown_ext (grown_refl _ _) (((a1.trans a2).trans a3).trans a4),owns_ext own (((a1.trans a2).trans a3).trans a4),q1,a4.blk (a3.blk (a2.blk (blk_new _ _))),q2,hgw⟩
 have hkd:(m.kind == 2)=false:=by simpa using hk
 have hkn:(m.kind != 2)=true:=by simpa using hk
 have k0':=R0.b2.cell (i:=0) (by rw[Hl.out];omega);rw[Mac.zs_kind]at k0';have r2:=R0.b2;clear hpv hpl hnW inn hv hm hk own hx8 hy8;have Hrv:=Lib.hid hrv;have Hrn:=Lib.hid hrn;have Hrg:=Lib.hid hrg;clear hrv hrn hrg hx0 hy0 hx1 hy1;go_enter Tryz.func96,Tryz.ntmps96
 obtain⟨-,k0,k1,k2,-⟩:=bx3 R0.b1;go_wp2_with (refine wpList_iload 27 _ rfl rfl r2 1 2 rfl _ Tryz.underlying27 rfl size_Vector (by rw[Hl.out];omega) _ Mac.zs_mv ?_)
 try simp only[World.size_alloc]
 obtain⟨B,hB⟩:∃ B,B=w.heap.size:=⟨_,rfl⟩;rw[←hB]at R0 r2 k0'⊢;have hwB:w.heap.size≤B:=by omega
 have HB:=Lib.hid hB;clear hB;have hrs:=hr.grown R0.gr (fun z hz=>by have:=Hrg.out z hz;simp;omega);have hvv:=Hmv.out.2.1;refine(l7Block_any ref x y m.x m.y ra rc rn _ Hrv.out Hrn.out hrs (by omega) (by omega) (by omega) (by omega) hvv.1 hvv.2.1 hvv.2.2.1 hvv.2.2.2).mono ?_
 rintro e w2 ⟨a2,c2,rfl,o2,e2⟩
 have R2:=R0.ex e2;have hs1:=R0.gr.size;have ha2:∃ g2,a2=some ⟨g2,0,none⟩∧g2≠g:=by
  rcases o2.2 with⟨-,h0⟩|⟨g2,cc,cur,hv2,hb2,-⟩
  ·omega
  ·simp only[Value.slice.injEq]at hv2;exact⟨g2,hv2.1,by omega⟩
 obtain⟨g2,rfl,hg2⟩:=ha2;have s2:=Sl.of_owns o2;have Hb:=Lib.hid (blkL_len ref x y m.x m.y);clear k0 k1 k2 r2 R0 e2 o2 hrs hr hvv k0' hkn;go_wp2_with fail
 go_loopw [15] (fun i wr=>∃ k:Nat,k≤4∧i= .int .i64 k∧RS w base g n c ra rn rc W H ref m B (bldS ref ⟨W,H,px⟩ x y m q top k) wr∧Hid (Sl wr (some ⟨g2,0,none⟩) 64 ((blkL ref x y m.x m.y).map (Value.int .i64)))) (fun i _=>4-(intOf i).toNat)
 case atStart=>exact⟨0,by omega,rfl,R2,Lib.hid s2⟩
 case round =>
  obtain⟨k,hk,rfl,R3,S3⟩:=hrel;clear R2 s2
  by_cases hlt:k<4
  ·have hd:decide ((k:Int)<4)=true:=by simp;omega
   have hZv:=HV.out k;have hZn:=HL.out k;have Hst:=Lib.hid (bld_step ref W H px x y m q top k);obtain⟨Z,hZ⟩:∃ Z,Z=bldS ref ⟨W,H,px⟩ x y m q top k:=⟨_,rfl⟩;obtain⟨Z1,hZ1⟩:∃ Z,Z=bldS ref ⟨W,H,px⟩ x y m q top (k+1):=⟨_,rfl⟩;rw[←hZ]at R3 hZv hZn Hst;rw[←hZ1]at Hst;have HZ1:=Lib.hid hZ1;have HZv:=Lib.hid hZv;have HZn:=Lib.hid hZn;obtain⟨xi,hxi⟩:∃ v,v=x+k%2*4:=⟨_,rfl⟩;obtain⟨yj,hyj⟩:∃ v,v=y+k/2*4:=⟨_,rfl⟩;have HPK:=Lib.hid (show prK ref W H Z x y m top k=pof (blkL ref x y m.x m.y) (k%2*4) (k/2*4)from if_neg HK.out);rw[←hxi,←hyj]at Hst;have hxi4:xi+4≤W:=by omega
   have hyj4:yj+4≤H:=by omega
   have Hxi:=Lib.hid (show(x:Int)+(k:Int)%2*4=((xi:Nat):Int) by omega);have Hyj:=Lib.hid (show(y:Int)+(k:Int)/2*4=((yj:Nat):Int) by omega);have hI:=Inn.out yj xi hyj4 hxi4;have hB16:=sub16 Hm.out.lv hlt;have hBv:=lv_blk Hm.out Hmv.out hlt;obtain⟨bk,hbk⟩:∃ b,b=sub m.lv (k*16) 16:=⟨_,rfl⟩;have Hbk:=Lib.hid hbk;rw[←hbk]at hB16 hBv Hst;have HB16:=Lib.hid hB16;have HBv:=Lib.hid hBv;clear hZ hZ1 hxi hyj hbk hB16 hBv hZv hZn;have hcK:=R3.b2.cell (i:=0) (by rw[Hl.out];omega);rw[Mac.zs_kind]at hcK;have ib:=IB.new wr 29 (List.replicate 16 0);have R6:=R3.ex (Ext.alloc wr (.cells (ic (List.replicate 16 0)) 29));have hO2:=lt_of_block R3.b2;have hO3:=lt_of_block R3.b2;have S6:=S3.out.ext (Ext.alloc wr (.cells (ic (List.replicate 16 0)) 29));obtain⟨O2,hO2e⟩:∃ O,O=wr.heap.size:=⟨_,rfl⟩;rw[←hO2e]at ib hO2;have HO2:=Lib.hid hO2e;have hb0:=R6.b0;have hgB:=R6.gB;obtain⟨E,hE⟩:∃ E,E=edg ⟨W,H,Z⟩ (xi:Int) (yj:Int) top:=⟨_,rfl⟩;clear hE;obtain⟨PR,hPR⟩:∃ P,P=pof (blkL ref x y m.x m.y) (k%2*4) (k/2*4):=⟨_,rfl⟩;rw[←hPR]at HPK;rw[HPK.out]at Hst;have HPR:=Lib.hid hPR;clear hPR;have hPl:PR.length=16:=by rw[HPR.out,pof_len]
   have HPl:=Lib.hid hPl;have hPb:bdA 1099511627776 PR:=by rw[HPR.out];exact smp_bd (pof_smp (blkL_smp Hrv.out _ _ _ _) (blkL_len _ _ _ _ _) (by omega) (by omega))
   have HPb:=Lib.hid hPb;clear hPl hPb;go_wp2_with fail
   rw[←hO2e];clear hO2e hcK hO3;refine(l8Part_any (blkL ref x y m.x m.y) k hlt (some ⟨g2,0,none⟩) c2 _ S6).mono ?_
   rintro e w7 ⟨rfl,e7⟩
   rw[←HPR.out];have R7:=R6.ex e7;have ib7:=ib.ext e7;have S7:=S6.ext e7;have hg2l:g2<wr.heap.size:=by
    obtain⟨b8,o8,h8,c8⟩:=S3.out.int (show 0<64 by omega);simp only[Option.some.injEq,Addr.mk.injEq,and_true]at h8;rw[h8.1];exact World.block_lt_of_cell? _ _ c8
   rw[←HO2.out]at hg2l;clear R3 R6 ib S3 S6 e7;go_wp2_with (refine wpList_istore 29 _ _ rfl rfl ib7 0 16 rfl _ rfl PR rfl size_A16 HPl.out (by simp) ?_;intro w8 pM g8;refine Hid.out ?_)
   rw[spl_all (by rw[HPl.out];simp)]at pM;have RM:=R7.loc g8 (by omega) hwB;have SM:=S7.grown g8 (fun z hz=>by cases hz;simp;omega);clear R7 ib7 S7 g8;refine Lib.hid ?_;go_wp2_with fail
   obtain⟨D,hD⟩:∃ D,D=dec bk q:=⟨_,rfl⟩;rw[←hD]at Hst;have HD:=Lib.hid hD;have HDl:=Lib.hid (show D.length=16 by rw[hD,dec_len]);have HDb:=Lib.hid (show bdA 1099511627776 D by rw[hD];exact dec_bd _ _);clear hD;refine wp_region_invL (by kernel_rfl) [(60,0),(61,1),(62,2),(63,3),(64,4),(65,5),(66,6),(67,7),(68,8),(69,9),(70,10)] [[],[],[],[],[],[],[4,5],[4,5,6],[],[4,5,6,7,8],[0,1,2,3,4,5,6,7,8,9]] (fun i own ys wx=>match i with|0=>own= .agg #[.int .i64 W,.int .i64 H,.slice (some ⟨g,0,none⟩) n c]|1=>own= .int .i64 (xi:Nat)|2=>own= .int .i64 (yj:Nat)|3=>own= .agg (ic PR)|4=>own= .int .i64 (k:Nat)|5=>own= .pointer (some ⟨B+1+1,7,none⟩)|6=>own= .pointer (some ⟨B+1+1,7+k*16,none⟩)|7=>own= .agg (ic bk)|8=>own= .int .i64 (q:Nat)|9=>own= .agg (ic D)|10=>True|_=>True) (fun Lx wx=>RS w base g n c ra rn rc W H ref m B (if Lx 10=true then Z1 else Z) wx∧IB wx O2 29 PR∧Sl wx (some ⟨g2,0,none⟩) 64 ((blkL ref x y m.x m.y).map (Value.int .i64))) (by kernel_rfl) (by kernel_rfl) (by kernel_rfl) ?g0_r3 ?gop_r3 ?gend_r3
   case g0_r3=>exact⟨RM.drew,pM.drewN 1,SM.drewN 1⟩
   case gop_r3 =>
    refine⟨?o0,?o1,?o2,?o3,?_,?_,?o6,?o7,?_,?o9,?o10,trivial⟩ <;> (intro Lx xs wx hG hl ha hb hD hI Qo Kx hK hQo;simp only[patchS,Nat.reduceAdd,Nat.reduceEqDiff,↓reduceIte]at hQo⊢)
    case o0 =>
     clear hl ha hb hD hI;obtain⟨-,k0,k1,k2,-⟩:=bx3 hG.1.b0;go_wp2;exact hK.out _ _ ⟨rfl,hG,kkp⟩
    case o1 =>
     clear hl ha hb hD hI;go_wp2;exact hK.out _ _ ⟨by rw[←Hxi.out],hG,fun _ _ _ _ _ _ h=>h⟩
    case o2 =>
     clear hl ha hb hD hI;go_wp2;exact hK.out _ _ ⟨by rw[←Hyj.out],hG,fun _ _ _ _ _ _ h=>h⟩
    case o3 =>
     clear hl ha hb hD hI;go_wp2_with (refine wpList_iload 29 _ rfl rfl hG.2.1 0 16 rfl _ Tryz.underlying29 rfl size_A16 (by rw[HPl.out];omega) _ (by rw[sub_all _ _ HPl.out]) ?_)
     exact hK.out _ _ ⟨rfl,hG,kkp⟩
    case o6 =>
     clear hl ha hb;rw[ddq (hD 4 rfl),ddq (hD 5 rfl)]at hQo⊢;clear hD hI;go_wp2;exact hK.out _ _ ⟨rfl,hG,kkp⟩
    case o7 =>
     clear hl ha hb;rw[ddq (hD 6 rfl)]at hQo⊢;clear hD hI;go_wp2_with (refine wpList_iload 29 _ rfl rfl hG.1.b2 (7+k*16) 16 rfl _ Tryz.underlying29 rfl size_A16 (by rw[Hl.out];omega) _ (by rw[Mac.zs_blk Hm.out k hlt,←Hbk.out]) ?_)
     exact hK.out _ _ ⟨rfl,hG,kkp⟩
    case o9 =>
     clear hl ha hb;rw[ddq (hD 7 rfl),ddq (hD 8 rfl)]at hQo⊢;clear hD hI;go_wp2_with fail
     refine(l4Decode_any bk q _ HB16.out HBv.out hq).mono ?_
     rintro e w9 ⟨rfl,e9⟩
     rw[←HD.out];go_wp2;exact hK.out _ _ ⟨rfl,⟨hG.1.ex e9,hG.2.1.ext e9,hG.2.2.ext e9⟩,fun _ _ _ _ _ _ h=>h⟩
    case o10 =>
     have l10:Lx 10=false:=hl;clear hl ha hb;rw[ddq (hD 0 rfl),ddq (hD 1 rfl),ddq (hD 2 rfl),ddq (hD 3 rfl),ddq (hD 9 rfl)]at hQo⊢;clear hD hI;rw[l10,ifF]at hG;go_wp2_with fail
     refine(l8Put_any W H xi yj base g n c Z PR D _ HPl.out HDl.out HPb.out HDb.out hW32 (by omega) (by omega) hI (by omega) hG.1.own).mono ?_
     rintro e w9 ⟨rfl,o9,g9⟩
     go_wp2;rw[←Hst.out]at o9;exact hK.out _ _ ⟨trivial,⟨hG.1.put g9 o9,hG.2.1.gr g9 (lv2 (by omega)),hG.2.2.grown g9 (fun z hz=>by cases hz;simpa using hg2)⟩,fun _ _ _ _ _ _ h=>h⟩
    all_goals
     clear hl ha hb hD hI;go_wp2;exact hK.out _ _ ⟨rfl,hG,kkp⟩
   intro xs wx hV hG0;obtain⟨Lx,hL,hG⟩:=hG0;have l10:Lx 10=true:=hL 10 (by decide);clear hL hV;simp only[patchS,Nat.reduceAdd,Nat.reduceEqDiff,↓reduceIte];generalize xs 0=y0,xs 1=y1,xs 2=y2,xs 3=y3,xs 4=y4,xs 5=y5,xs 6=y6,xs 7=y7,xs 8=y8,xs 9=y9,xs 10=y10 at *
   replace hG:RS w base g n c ra rn rc W H ref m B (if Lx 10=true then Z1 else Z) wx∧IB wx O2 29 PR∧Sl wx (some ⟨g2,0,none⟩) 64 ((blkL ref x y m.x m.y).map (Value.int .i64)):=hG
   rw[l10,ifT]at hG;clear RM pM SM;have HG:=Lib.hid hG;clear hG;go_wp2;go_roundw
   case rel=>exact⟨k+1,by omega,by go_num,by rw[←HZ1.out];exact HG.out.1,Lib.hid HG.out.2.2⟩
   case measure=>simp[intOf];omega
  ·obtain rfl:k=4:=by omega
   have HR:=Lib.hid R3;clear R3;go_wp2;go_end0
   exact⟨rfl,HR.out.own,HR.out.gr⟩
end Go.Proofs.YtbnhaegidfbgbaaGreatDoor
namespace Go.Proofs.YtbnhaegidfbgbaaGreatDoor
open Go.RowKit
/-- The reconstructed picture. -/
noncomputable def recP (ref p : Pic) (x y : Int) (m : Mac) (q top : Int) : Pic := if okR ref p x y m q top then ⟨p.w, p.h, bldS ref p x.toNat y.toNat m q.toNat top 4⟩ else pic0
theorem kind3 {m:Mac} (hv:m.valid) (h : ¬ m.kind=2):m.kind=0∨m.kind=1:=by have:=hv.1;omega
theorem okR_ref {ref p:Pic} {x y:Int} {m:Mac} {q top:Int} (h:okR ref p x y m q top) (hk : ¬ m.kind=2):ref.valid:=(h.2.2.2.2.resolve_left hk).1
theorem rebuild_any (ref:Pic) (W H x y:Nat) (px:List Int) (m:Mac) (q:Nat) (top:Int) (ra:Option Addr) (rn rc base g n c:Nat) (w:World) (hT:TabQ w) (hbT:0<base) (own:w.ownsRow base 3 1 (.slice (some ⟨g,0,none⟩) n c) n (px.map (Value.int .i64)))
 (hp:placeP ⟨W,H,px⟩ x y) (hm:m.ok) (hv:m.valid) (hq:q<16) (hrv : ¬ m.kind=2→ref.valid) (hrn:rn=ref.px.length) (hr:Sl w ra rn (ref.px.map (Value.int .i64))) (hrg : ¬ m.kind=2→∀ z,ra=some z→z.block≠g) :
 Calls Tryz.prog 46 #[.agg #[.int .i64 W,.int .i64 H,.slice (some ⟨g,0,none⟩) n c],.agg #[.int .i64 ref.w,.int .i64 ref.h,.slice ra rn rc],.int .i64 (x:Nat),.int .i64 (y:Nat),.agg (ic m.zs),.int .i64 q,.int .i64 top] w fun e w'=>e= .returned (.tuple #[])∧w'.ownsRow base 3 1 (.slice (some ⟨g,0,none⟩) n c) n ((bldS ref ⟨W,H,px⟩ x y m q top 4).map (Value.int .i64))∧w.grownBy w' (some g):=by
 by_cases hk:m.kind=2
 ·exact rebuild_I ref W H x y px m q top ra rn rc base g n c w hT hbT own hp hm hv hq hk
 ·rcases kind3 hv hk with h|h
  ·exact rebuild_S ref W H x y px m q top ra rn rc base g n c w hT hbT own hp hm hv hq h (hrv hk) hrn hr (hrg hk)
  ·exact rebuild_P ref W H x y px m q top ra rn rc base g n c w hT hbT own hp hm hv hq h (hrv hk) hrn hr (hrg hk)
theorem l8Build_any (ref:Pic) (W H x y:Nat) (px:List Int) (m:Mac) (q:Nat) (top:Int) (ra:Option Addr) (rn rc base g n c:Nat) (w:World) (own:w.ownsRow base 3 1 (.slice (some ⟨g,0,none⟩) n c) n (px.map (Value.int .i64)))
 (hp:placeP ⟨W,H,px⟩ x y) (hm:m.ok) (hv:m.valid) (hq:q<16) (ht0:0≤top) (hrv : ¬ m.kind=2→ref.valid) (hrn:rn=ref.px.length) (hr:Sl w ra rn (ref.px.map (Value.int .i64))) (hrg : ¬ m.kind=2→∀ z,ra=some z→z.block≠g) :
 Calls Tryz.prog 96 #[.agg #[.int .i64 ref.w,.int .i64 ref.h,.slice ra rn rc],.agg #[.int .i64 W,.int .i64 H,.slice (some ⟨g,0,none⟩) n c],.int .i64 (x:Nat),.int .i64 (y:Nat),.agg (ic m.zs),.int .i64 q,.int .i64 top] w fun e w'=>e= .returned (.tuple #[])∧w'.ownsRow base 3 1 (.slice (some ⟨g,0,none⟩) n c) n ((bldS ref ⟨W,H,px⟩ x y m q top 4).map (Value.int .i64))∧w.grownBy w' (some g):=by
 by_cases hk:m.kind=2
 ·exact l8Build_I ref W H x y px m q top ra rn rc base g n c w own hp hm hv hq ht0 hk
 ·exact l8Build_S ref W H x y px m q top ra rn rc base g n c w own hp hm hv hq ht0 hk (hrv hk) hrn hr (hrg hk)
/-- The row of the j-th number of diagonal d. -/
def scRow (d j:Nat):Nat:=if d%2=0 then d-j else j
def scStep (d j:Nat) (s:Nat×List Int):Nat×List Int:=if scRow d j<4∧d-scRow d j<4 then(s.1+1,s.2.set s.1 (4*(scRow d j:Int)+((d-scRow d j:Nat):Int)))else(s.1,s.2)
def scIn (d:Nat) (s:Nat×List Int):Nat→Nat×List Int
 | 0=>s
 | j+1=>scStep d j (scIn d s j)
def scOut : Nat→Nat×List Int
 | 0=>(0,zl 16)
 | d+1=>scIn d (scOut d) (d+1)
/-- The order. -/
def scanL : List Int := [0,1,4,8,5,2,3,6,9,12,13,10,7,11,14,15]
theorem scOut_all : scOut 7=(16,scanL):=by decide
theorem sc_len : ∀ d,d<7→∀ j,j≤d+1→(scIn d (scOut d) j).2.length=16∧(scIn d (scOut d) j).1≤16∧(j<d+1→scRow d j<4∧d-scRow d j<4→(scIn d (scOut d) j).1<16):=by decide
theorem zero_A16s : (Tryz.prog.info? 29).map (·.zero)=some (some (.agg (ic (zl 16)))):=by kernel_rfl
theorem size_A16s : (Tryz.prog.info? 29).map (·.size)=some 16:=by kernel_rfl
theorem scanOrder_any (w:World) :
 Calls Tryz.prog 149 #[] w fun e w'=>e= .returned (.agg (ic scanL))∧Ext w w':=by
 go_enter Tryz.func149,Tryz.ntmps149
 have r0:=(IB.new w 29 (zl 16)).alloc (.cells (ic (zl 16)) 29);have p0:=IB.new (w.alloc (.cells (ic (zl 16)) 29)) 29 (zl 16);have E0:=(Ext.alloc w (.cells (ic (zl 16)) 29)).trans (Ext.alloc _ (.cells (ic (zl 16)) 29));simp only[World.size_alloc]at p0;go_wp2_with (refine wpList_iallocz 29 rfl rfl 16 zero_A16s ?_;(try simp only[World.size_alloc]))
 go_loopw [2,7] (fun n i wr=>∃ d:Nat,d≤7∧i= .int .i64 d∧n= .int .i64 ((scOut d).1:Nat)∧Ext w wr∧IB wr w.heap.size 29 (zl 16)∧IB wr (w.heap.size+1) 29 (scOut d).2) (fun _ i _=>7-(intOf i).toNat)
 case atStart=>exact⟨0,by omega,rfl,rfl,E0,r0,p0⟩
 case round =>
  obtain⟨d,hd,rfl,rfl,E1,r1,p1⟩:=hrel;clear E0 r0 p0
  by_cases hlt:d<7
  ·have hd7:decide ((d:Int)<7)=true:=by simp;omega
   go_wp2_with fail
   go_loopw [2,12] (fun n i wr=>∃ j:Nat,j≤d+1∧i= .int .i64 j∧n= .int .i64 ((scIn d (scOut d) j).1:Nat)∧Ext w wr∧IB wr w.heap.size 29 (zl 16)∧IB wr (w.heap.size+1) 29 (scIn d (scOut d) j).2) (fun _ i _=>d+1-(intOf i).toNat)
   case atStart=>exact⟨0,by omega,rfl,rfl,E1,r1,p1⟩
   case round =>
    obtain⟨j,hj,rfl,rfl,E2,r2,p2⟩:=hrel;clear E1 r1 p1
    by_cases hlt2:j<d+1
    ·have hdj:decide ((j:Int)<(d:Int)+1)=true:=by simp;omega
     obtain⟨l1,l2,l3⟩:=sc_len d hlt j hj;have hst:scIn d (scOut d) (j+1)=scStep d j (scIn d (scOut d) j):=rfl;unfold scStep at hst;obtain⟨n,hn⟩:∃ n,n=(scIn d (scOut d) j).1:=⟨_,rfl⟩;obtain⟨zs,hzs⟩:∃ zs,zs=(scIn d (scOut d) j).2:=⟨_,rfl⟩;rw[←hn,←hzs]at hst;rw[←hn]at l2 l3⊢;rw[←hzs]at l1 p2;have Hst:=Lib.hid hst;have L1:=Lib.hid l1;have L3:=Lib.hid (l3 hlt2);clear hst hn hzs l1 l3;obtain⟨rw',hrw⟩:∃ r,r=scRow d j:=⟨_,rfl⟩;rw[←hrw]at Hst L3;have hrle:rw'≤d:=by rw[hrw];unfold scRow;split <;> omega
     have hfr:=p2.frozen n
     by_cases hev:d%2=0
     ·have he:rw'=d-j:=by rw[hrw];unfold scRow;rw[if_pos hev]
      have hm:((d:Int)%2 == 0)=true:=by simp;omega
      have hev2:=Lib.hid hev;clear hev hrw
      by_cases h1:rw'<4
      ·have d1:decide (((d:Int)-(j:Int))<4)=true:=by simp;omega
       by_cases h2:d-rw'<4
       ·have d2:decide (((d:Int)-((d:Int)-(j:Int)))<4)=true:=by simp;omega
        have hn16:=L3.out ⟨h1,h2⟩;have hc:=p2.cell (i:=n) (by rw[L1.out];exact hn16);have hst:=Hst.out;rw[if_pos ⟨h1,h2⟩]at hst;have hv:4*((d:Int)-(j:Int))+((d:Int)-((d:Int)-(j:Int)))=4*(rw':Int)+((d-rw':Nat):Int):=by omega
        have Hv:=Lib.hid hv;have HS:=Lib.hid hst;clear hst hv Hst L3;go_wp2;go_roundw
        case rel=>exact⟨j+1,by omega,by go_num,by rw[HS.out];simp,Ext.grown E2 (gr_set _ _ _ _) (fun q hq=>by cases hq;omega),r2.set_other (by omega),by rw[HS.out,←Hv.out];exact p2.set n _⟩
        case measure=>simp[intOf];omega
       ·have d2:decide (((d:Int)-((d:Int)-(j:Int)))<4)=false:=by simp;omega
        have hst:=Hst.out;rw[if_neg (fun h=>h2 h.2)]at hst;have HS:=Lib.hid hst;clear hst Hst L3;go_wp2;go_roundw
        case rel=>exact⟨j+1,by omega,by go_num,by rw[HS.out],E2,r2,by rw[HS.out];exact p2⟩
        case measure=>simp[intOf];omega
      ·have d1:decide (((d:Int)-(j:Int))<4)=false:=by simp;omega
       have hst:=Hst.out;rw[if_neg (fun h=>h1 h.1)]at hst;have HS:=Lib.hid hst;clear hst Hst L3;go_wp2;go_roundw
       case rel=>exact⟨j+1,by omega,by go_num,by rw[HS.out],E2,r2,by rw[HS.out];exact p2⟩
       case measure=>simp[intOf];omega
     ·have he:rw'=j:=by rw[hrw];unfold scRow;rw[if_neg hev]
      have hm:((d:Int)%2 == 0)=false:=by simp;omega
      have hev2:=Lib.hid hev;clear hev hrw
      by_cases h1:rw'<4
      ·have d1:decide ((j:Int)<4)=true:=by simp;omega
       by_cases h2:d-rw'<4
       ·have d2:decide (((d:Int)-(j:Int))<4)=true:=by simp;omega
        have hn16:=L3.out ⟨h1,h2⟩;have hc:=p2.cell (i:=n) (by rw[L1.out];exact hn16);have hst:=Hst.out;rw[if_pos ⟨h1,h2⟩]at hst;have hv:4*(j:Int)+((d:Int)-(j:Int))=4*(rw':Int)+((d-rw':Nat):Int):=by omega
        have Hv:=Lib.hid hv;have HS:=Lib.hid hst;clear hst hv Hst L3;go_wp2;go_roundw
        case rel=>exact⟨j+1,by omega,by go_num,by rw[HS.out];simp,Ext.grown E2 (gr_set _ _ _ _) (fun q hq=>by cases hq;omega),r2.set_other (by omega),by rw[HS.out,←Hv.out];exact p2.set n _⟩
        case measure=>simp[intOf];omega
       ·have d2:decide (((d:Int)-(j:Int))<4)=false:=by simp;omega
        have hst:=Hst.out;rw[if_neg (fun h=>h2 h.2)]at hst;have HS:=Lib.hid hst;clear hst Hst L3;go_wp2;go_roundw
        case rel=>exact⟨j+1,by omega,by go_num,by rw[HS.out],E2,r2,by rw[HS.out];exact p2⟩
        case measure=>simp[intOf];omega
      ·have d1:decide ((j:Int)<4)=false:=by simp;omega
       have hst:=Hst.out;rw[if_neg (fun h=>h1 h.1)]at hst;have HS:=Lib.hid hst;clear hst Hst L3;go_wp2;go_roundw
       case rel=>exact⟨j+1,by omega,by go_num,by rw[HS.out],E2,r2,by rw[HS.out];exact p2⟩
       case measure=>simp[intOf];omega
    ·obtain rfl:j=d+1:=by omega
     have hdj:decide (((d+1:Nat):Int)<(d:Int)+1)=false:=by simp
     go_wp2;go_roundw
     case rel=>exact⟨d+1,by omega,by go_num,rfl,E2,r2,p2⟩
     case measure=>simp[intOf];omega
  ·obtain rfl:d=7:=by omega
   rw[scOut_all]at p1
   replace p1:IB wr (w.heap.size+1) 29 scanL:=p1
   go_wp2_with (first|(refine wpList_iload 29 _ rfl rfl p1 0 16 rfl _ Tryz.underlying29 rfl size_A16s (by simp[scanL]) _ (by rw[sub_all scanL 16 rfl]) ?_)|(refine wpList_istore 29 _ _ rfl rfl r1 0 16 rfl _ rfl scanL rfl size_A16s rfl (by simp[zl]) ?_;intro wf pf gf;refine Hid.out ?_))
   rw[spl_all (by simp[zl,scanL])]at pf;have Ef:Ext w wf:=Ext.grown E1 gf (fun q hq=>by cases hq;omega);refine Lib.hid ?_;go_wp2;exact bodyPost_ret (v := .agg (ic scanL)) (results_cell_row rfl _ _ w.heap.size 29 (ic scanL) (0,0) _ rfl pf Tryz.underlying29 rfl (by rw[ic_size];exact size_A16s)) rfl ⟨rfl,Ef⟩
/-- Not a block of type T. -/
def notT (T:TypeId) (o:Obj):Prop:=∀ cs fr,o ≠ .cells cs T fr
/-- Nothing below B changed, and of the rest only rows of type T. -/
structure FR (B T : Nat) (w w' : World) : Prop where
 lo:Below B w w'
 ot:∀(i:Nat) (o:Obj),w.heap[i]?=some o→notT T o→w'.heap[i]?=some o
theorem FR.refl (B T:Nat) (w:World):FR B T w w:=⟨Below.refl _ _,fun _ _ h _=>h⟩
theorem FR.trans {B T:Nat} {a b c:World} (h:FR B T a b) (k:FR B T b c):FR B T a c:=⟨h.lo.trans k.lo,fun i o h1 h2=>k.ot i o (h.ot i o h1 h2) h2⟩
theorem FR.of_ext {B T:Nat} {w w':World} (h:Ext w w') (hB:B≤w.heap.size):FR B T w w':=⟨h.mono hB,fun _ _ h1 _=>h.blk h1⟩
theorem FR.of_row {B T s n:Nat} {v:Value} {xs:List Value} {w w':World} (o:w.ownsRow B T s v n xs) (g:w.grownBy w' v.ownBlock) (hB:B≤w.heap.size):FR B T w w':=by
 have hge:=owns_ge o;refine⟨⟨g.os,g.tape,g.output,g.size,fun k hk=>g.block k (by omega) (fun e=>by have:=hge k e.symm;omega)⟩,fun i ob h1 h2 => ?_⟩;refine(g.block i (lt_of_block h1) (fun e => ?_)).trans h1;rcases o.2 with⟨rfl,-⟩|⟨b,cap,cur,rfl,-,hb,-⟩
 ·cases e
 ·cases e;rw[hb]at h1;cases h1;exact h2 _ _ rfl
theorem FR.size {B T:Nat} {w w':World} (h:FR B T w w'):w.heap.size≤w'.heap.size:=h.lo.size
theorem FR.ext {B T:Nat} {a w w':World} (h:Ext a w) (f:FR B T w w') (hB:a.heap.size≤B):Ext a w':=Below.trans h (f.lo.mono hB)
theorem FR.ib {B T U b:Nat} {zs:List Int} {w w':World} (f:FR B T w w') (h:IB w b U zs) (hne:U≠T):IB w' b U zs:=f.ot b _ h (fun cs fr e=>by cases e;exact hne rfl)
theorem FR.blk {B T U b:Nat} {cs:Array Value} {fr:Nat×Nat} {w w':World} (f:FR B T w w') (h:w.heap[b]?=some (.cells cs U fr)) (hne:U≠T):w'.heap[b]?=some (.cells cs U fr):=f.ot b _ h (fun cs fr e=>by cases e;exact hne rfl)
theorem FR.keeps {B T:Nat} {w w':World} (f:FR B T w w'):KeepsOthers w w':=⟨f.size,fun k o h1 h2=>f.ot k o h1 (fun cs fr e=>by subst e;cases h2)⟩
theorem FR.low {B T b:Nat} {o:Obj} {w w':World} (f:FR B T w w') (h:w.heap[b]?=some o) (hb:b<B):w'.heap[b]?=some o:=(f.lo.block b hb).trans h
theorem len64_in (x:Int) (w:World) (h0:0≤x) (h1:x<65536) :
 Calls Tryz.prog 168 #[.int .u64 x] w fun e w'=>e= .returned (.int .i64 (Lib.bitLen x.toNat))∧w'=w:=by
 by_cases hc:x<256
 ·have h2:x≤255:=by omega
  have l:=Lib.bitLen_le8' x h0 h2;have e8:=Lib.len8_of x h0 h2;go_enter Tryz.func168,Tryz.ntmps168
  go_wp2;go_ret
  refine⟨congrArg Ending.returned (congrArg (Value.int IntKind.i64) ?_),rfl⟩;first|rfl|(unfold wrap64;omega)
 ·have h2:0≤x/256:=by omega
  have h3:x/256≤255:=by omega
  have l:=Lib.bitLen_le8' (x/256) h2 h3;have e8:=Lib.len8_of (x/256) h2 h3;have s:=Lib.bitLen_shift8 x.toNat (by omega) (by omega);have e:(x/256).toNat=x.toNat/256:=by omega
  rw[e]at l e8;go_enter Tryz.func168,Tryz.ntmps168
  go_wp2;go_ret
  refine⟨congrArg Ending.returned (congrArg (Value.int IntKind.i64) ?_),rfl⟩;first|rfl|(unfold wrap64;omega)
theorem len_in (x:Int) (w:World) (h0:0≤x) (h1:x<65536) :
 Calls Tryz.prog 147 #[.int .u64 x] w fun e w'=>e= .returned (.int .i64 (Lib.bitLen x.toNat))∧w=w':=by
 have hw:IntKind.u64.wrap x=x:=by rw[IntKind.wrap_u64];omega
 go_enter Tryz.func147,Tryz.ntmps147
 go_wp2_with fail
 refine(len64_in x _ h0 h1).mono ?_
 rintro e w1 ⟨rfl,rfl⟩
 go_wp2;go_ret
 exact⟨rfl,rfl⟩
theorem bitLen_of {x k:Nat} (h1:2^k≤x) (h2:x<2^(k+1)) (h3:x<2^64):Lib.bitLen x=k+1:=by
 rw[Lib.bitLen_shift k x h1 h3];have hp:0<2^k:=Nat.pow_pos (by decide);have e:x/2^k=1:=by
  rw[Nat.pow_succ]at h2;exact(Nat.div_eq_iff hp).2 ⟨by omega,by omega⟩
 rw[e];rfl
/-- One less than the number of binary digits of n + 1. -/
def kOf (n:Nat):Nat:=Nat.log2 (n+1)
theorem kOf_lo (n:Nat):2^kOf n≤n+1:=Nat.log2_self_le (by omega)
theorem kOf_hi (n:Nat):n+1<2^(kOf n+1):=Nat.lt_log2_self
theorem kOf_le {n:Nat} (h:n<32768):kOf n≤15:=by
 have h1:=kOf_lo n;refine Classical.byContradiction fun hk => ?_
 have h2:=Nat.pow_le_pow_right (show 0<2 by decide) (show 16≤kOf n by omega);have:(2:Nat)^16=65536:=by decide
 omega
/-- The first i decisions: k times 1, and 0. -/
def upL (b k:Nat):Nat→List Int
 | 0 => []
 | i+1=>upL b k i ++ [((b+min i 5:Nat):Int),if i=k then 0 else 1]
/-- The k digits behind the first one, down to digit j. -/
def dnL (m b k:Nat):Nat→List Int
 | 0 => []
 | j+1=>dnL m b k j ++ [((b+6:Nat):Int),((m/2^(k-1-j)%2:Nat):Int)]
def numL (n b:Nat):List Int:=upL b (kOf n) (kOf n+1)++dnL (n+1) b (kOf n) (kOf n)
/-- How many decisions there are. -/
def numN (n:Nat):Nat:=2*kOf n+1
theorem numN_le {n:Nat} (h:n<32768):numN n≤31:=by have:=kOf_le h;unfold numN;omega
def sidx (v:Int):Int:=if 0<v then 2*v-1 else -2*v
theorem sidx_rng {v B:Int} (h1 : -B≤v) (h2:v≤B):0≤sidx v∧sidx v≤2*B:=by unfold sidx;split <;> omega
theorem impl_SignedIndex_in (v:Int) (w:World) (h1 : -32767≤v) (h2:v≤32767) :
 Calls Tryz.prog 107 #[.int .i64 v] w fun e w'=>e= .returned (.int .i64 (sidx v))∧w=w':=by
 unfold sidx;go_enter Tryz.func107,Tryz.ntmps107
 by_cases hc:0<v
 ·rw[if_pos hc];go_wp2;go_ret
  first|exact⟨rfl,rfl⟩|exact⟨by simp;omega,rfl⟩
 ·rw[if_neg hc];go_wp2;go_ret
  first|exact⟨rfl,rfl⟩|exact⟨by simp;omega,rfl⟩
theorem spec_SignedIndex_in (v:Int) (w:World) (h1 : -32767≤v) (h2:v≤32767) :
 Calls Tryz.prog 145 #[.int .i64 v] w fun e w'=>e= .returned (.int .i64 (sidx v))∧w=w':=by
 unfold sidx;go_enter Tryz.func145,Tryz.ntmps145
 by_cases hc:0<v
 ·rw[if_pos hc];go_wp2_with fail
  refine(l1In_yes v (-32767) 32767 _ h1 h2).mono ?_
  rintro e w1 ⟨rfl,rfl⟩
  go_wp2;go_ret
  first|exact⟨rfl,rfl⟩|exact⟨by simp;omega,rfl⟩
 ·rw[if_neg hc];go_wp2_with fail
  refine(l1In_yes v (-32767) 32767 _ h1 h2).mono ?_
  rintro e w1 ⟨rfl,rfl⟩
  go_wp2;go_ret
  first|exact⟨rfl,rfl⟩|exact⟨by simp;omega,rfl⟩
end Go.Proofs.YtbnhaegidfbgbaaGreatDoor
