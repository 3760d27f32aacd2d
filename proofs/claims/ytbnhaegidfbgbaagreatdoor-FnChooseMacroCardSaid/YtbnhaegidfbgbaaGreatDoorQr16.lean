/- The intra macroblock: the program's. | Plain: a rebuilt picture inside and outside the macroblock; fine intra coding is lossless. | Plain: fine inter coding is lossless. | Plain: what the laws of macroblocks say of the coder. | The intra macroblock: the reference's; both sides for all arguments. -/
import Derived.Test.YtbnhaegidfbgbaaGreatDoorQr15
set_option linter.unusedVariables false
set_option linter.unusedSimpArgs false
set_option maxRecDepth 100000
set_option maxHeartbeats 4000000
namespace Go.Proofs.YtbnhaegidfbgbaaGreatDoor
open Go.RowKit
theorem sub_spl {zs ys:List Int} {i n:Nat} (h:i+ys.length≤zs.length) (hn:ys.length=n):sub (spl zs i ys) i n=ys:=by
 subst hn;unfold sub spl;rw[List.append_assoc,List.drop_append_of_le_length (by simp;omega),List.drop_of_length_le (by simp;omega),List.nil_append,List.take_left]
theorem impl_IntraMacro_no_0 (t p:Pic) (x y q top:Int) (a b:Option Addr) (c d n l:Nat) (w:World) (hn:n=t.px.length) (hl:l=p.px.length) (nc:n≤9223372036854775807) (lc:l≤9223372036854775807) (s:Sl w a n (t.px.map (Value.int .i64))) (u:Sl w b l (p.px.map (Value.int .i64)))  (h0 : ¬ (alikeP t p)) :
 Calls Tryz.prog 24 #[.agg #[.int .i64 t.w,.int .i64 t.h,.slice a n c],.agg #[.int .i64 p.w,.int .i64 p.h,.slice b l d],.int .i64 x,.int .i64 y,.int .i64 q,.int .i64 top] w fun e w'=>e= .returned (.agg (ic (zl 71)))∧Ext w w':=by
 have HN:=Lib.hid hn;have HL:=Lib.hid hl;clear hn hl;have D0:=Lib.hid (show decide (alikeP t p)=false from decide_eq_false h0);have a0_1:=Ext.alloc (w.alloc (.cells #[.int .i64 t.w,.int .i64 t.h,.slice a n c] 25)) (.cells #[.int .i64 p.w,.int .i64 p.h,.slice b l d] 25);have a0_2:=Ext.alloc ((w.alloc (.cells #[.int .i64 t.w,.int .i64 t.h,.slice a n c] 25)).alloc (.cells #[.int .i64 p.w,.int .i64 p.h,.slice b l d] 25)) (.cells (ic (zl 71)) 32);have X0_0:=a0_2.blk (a0_1.blk (blk_new w (.cells #[.int .i64 t.w,.int .i64 t.h,.slice a n c] 25)));have a1_2:=Ext.alloc ((w.alloc (.cells #[.int .i64 t.w,.int .i64 t.h,.slice a n c] 25)).alloc (.cells #[.int .i64 p.w,.int .i64 p.h,.slice b l d] 25)) (.cells (ic (zl 71)) 32);have X1_0:=a1_2.blk (blk_new (w.alloc (.cells #[.int .i64 t.w,.int .i64 t.h,.slice a n c] 25)) (.cells #[.int .i64 p.w,.int .i64 p.h,.slice b l d] 25));have X2_0:=IB.new ((w.alloc (.cells #[.int .i64 t.w,.int .i64 t.h,.slice a n c] 25)).alloc (.cells #[.int .i64 p.w,.int .i64 p.h,.slice b l d] 25)) 32 (zl 71);have E_0:=((Ext.alloc w (.cells #[.int .i64 t.w,.int .i64 t.h,.slice a n c] 25)).trans (Ext.alloc (w.alloc (.cells #[.int .i64 t.w,.int .i64 t.h,.slice a n c] 25)) (.cells #[.int .i64 p.w,.int .i64 p.h,.slice b l d] 25))).trans (Ext.alloc ((w.alloc (.cells #[.int .i64 t.w,.int .i64 t.h,.slice a n c] 25)).alloc (.cells #[.int .i64 p.w,.int .i64 p.h,.slice b l d] 25)) (.cells (ic (zl 71)) 32));simp only[World.size_alloc]at X1_0 X2_0;clear a0_1 a0_2 a1_2 h0;obtain⟨-,k0_0,k0_1,k0_2,-⟩:=bx3 X0_0;obtain⟨-,k1_0,k1_1,k1_2,-⟩:=bx3 X1_0;go_enter Tryz.func24,Tryz.ntmps24
 go_wp2_with (refine wpList_iallocz 32 rfl rfl 71 zeroq_M ?_;(try simp only[World.size_alloc]))
 refine(alike_at t p a b c d n l _ HN.out HL.out nc lc (s.ext E_0) (u.ext E_0)).mono ?_;rw[D0.out]
 rintro e w_1 ⟨rfl,e_1⟩
 have X0_1:=e_1.blk X0_0;have X1_1:=e_1.blk X1_0;have X2_1:=X2_0.ext e_1;have E_1:=E_0.trans e_1;clear k0_0 k0_1 k0_2 X0_0 k1_0 k1_1 k1_2 X1_0 X2_0 E_0 e_1;obtain⟨-,k0_0,k0_1,k0_2,-⟩:=bx3 X0_1;obtain⟨-,k1_0,k1_1,k1_2,-⟩:=bx3 X1_1;have hbz:=X2_1.lt;go_wp2_with (refine wpList_istore 32 _ _ rfl rfl X2_1 0 71 rfl _ rfl (zl 71) zeroc_M size_Macro (zl_len 71) (by simp[zl]) ?_;intro wf pf gf;refine Hid.out ?_)
 rw[spl_all (by rw[zl_len])]at pf;have Ef:Ext w wf:=Ext.grown E_1 gf (fun q hq=>by cases hq;omega);refine Lib.hid ?_;go_wp2;exact bodyPost_ret (v := .agg (ic (zl 71))) (results_cell_row rfl _ _ (w.heap.size+1+1) 32 (ic (zl 71)) (0,0) _ rfl pf Tryz.underlying32 rfl (by rw[ic_size,zl_len];exact size_Macro)) rfl ⟨rfl,Ef⟩
theorem impl_IntraMacro_no_1 (t p:Pic) (x y q top:Int) (a b:Option Addr) (c d n l:Nat) (w:World) (hn:n=t.px.length) (hl:l=p.px.length) (nc:n≤9223372036854775807) (lc:l≤9223372036854775807) (s:Sl w a n (t.px.map (Value.int .i64))) (u:Sl w b l (p.px.map (Value.int .i64))) (h0:alikeP t p) (h1 : ¬ ((0≤x)∧(x<t.w)∧(x%8=0)∧(0≤y)∧(y<t.h)∧(y%8=0))) :
 Calls Tryz.prog 24 #[.agg #[.int .i64 t.w,.int .i64 t.h,.slice a n c],.agg #[.int .i64 p.w,.int .i64 p.h,.slice b l d],.int .i64 x,.int .i64 y,.int .i64 q,.int .i64 top] w fun e w'=>e= .returned (.agg (ic (zl 71)))∧Ext w w':=by
 have HN:=Lib.hid hn;have HL:=Lib.hid hl;clear hn hl;have D0:=Lib.hid (show decide (alikeP t p)=true from decide_eq_true h0);have D1:=Lib.hid (show decide ((0≤x)∧(x<t.w)∧(x%8=0)∧(0≤y)∧(y<t.h)∧(y%8=0))=false from decide_eq_false h1);have a0_1:=Ext.alloc (w.alloc (.cells #[.int .i64 t.w,.int .i64 t.h,.slice a n c] 25)) (.cells #[.int .i64 p.w,.int .i64 p.h,.slice b l d] 25);have a0_2:=Ext.alloc ((w.alloc (.cells #[.int .i64 t.w,.int .i64 t.h,.slice a n c] 25)).alloc (.cells #[.int .i64 p.w,.int .i64 p.h,.slice b l d] 25)) (.cells (ic (zl 71)) 32);have X0_0:=a0_2.blk (a0_1.blk (blk_new w (.cells #[.int .i64 t.w,.int .i64 t.h,.slice a n c] 25)));have a1_2:=Ext.alloc ((w.alloc (.cells #[.int .i64 t.w,.int .i64 t.h,.slice a n c] 25)).alloc (.cells #[.int .i64 p.w,.int .i64 p.h,.slice b l d] 25)) (.cells (ic (zl 71)) 32);have X1_0:=a1_2.blk (blk_new (w.alloc (.cells #[.int .i64 t.w,.int .i64 t.h,.slice a n c] 25)) (.cells #[.int .i64 p.w,.int .i64 p.h,.slice b l d] 25));have X2_0:=IB.new ((w.alloc (.cells #[.int .i64 t.w,.int .i64 t.h,.slice a n c] 25)).alloc (.cells #[.int .i64 p.w,.int .i64 p.h,.slice b l d] 25)) 32 (zl 71);have E_0:=((Ext.alloc w (.cells #[.int .i64 t.w,.int .i64 t.h,.slice a n c] 25)).trans (Ext.alloc (w.alloc (.cells #[.int .i64 t.w,.int .i64 t.h,.slice a n c] 25)) (.cells #[.int .i64 p.w,.int .i64 p.h,.slice b l d] 25))).trans (Ext.alloc ((w.alloc (.cells #[.int .i64 t.w,.int .i64 t.h,.slice a n c] 25)).alloc (.cells #[.int .i64 p.w,.int .i64 p.h,.slice b l d] 25)) (.cells (ic (zl 71)) 32));simp only[World.size_alloc]at X1_0 X2_0;clear a0_1 a0_2 a1_2 h0 h1;obtain⟨-,k0_0,k0_1,k0_2,-⟩:=bx3 X0_0;obtain⟨-,k1_0,k1_1,k1_2,-⟩:=bx3 X1_0;go_enter Tryz.func24,Tryz.ntmps24
 go_wp2_with (refine wpList_iallocz 32 rfl rfl 71 zeroq_M ?_;(try simp only[World.size_alloc]))
 refine(alike_at t p a b c d n l _ HN.out HL.out nc lc (s.ext E_0) (u.ext E_0)).mono ?_;rw[D0.out]
 rintro e w_1 ⟨rfl,e_1⟩
 have X0_1:=e_1.blk X0_0;have X1_1:=e_1.blk X1_0;have X2_1:=X2_0.ext e_1;have E_1:=E_0.trans e_1;clear k0_0 k0_1 k0_2 X0_0 k1_0 k1_1 k1_2 X1_0 X2_0 E_0 e_1;obtain⟨-,k0_0,k0_1,k0_2,-⟩:=bx3 X0_1;obtain⟨-,k1_0,k1_1,k1_2,-⟩:=bx3 X1_1;go_wp2_with fail
 refine(begins_any t x y a c n _).mono ?_;rw[D1.out]
 rintro e w_2 ⟨rfl,e_2⟩
 have X0_2:=e_2.blk X0_1;have X1_2:=e_2.blk X1_1;have X2_2:=X2_1.ext e_2;have E_2:=E_1.trans e_2;clear k0_0 k0_1 k0_2 X0_1 k1_0 k1_1 k1_2 X1_1 X2_1 E_1 e_2;obtain⟨-,k0_0,k0_1,k0_2,-⟩:=bx3 X0_2;obtain⟨-,k1_0,k1_1,k1_2,-⟩:=bx3 X1_2;have hbz:=X2_2.lt;go_wp2_with (refine wpList_istore 32 _ _ rfl rfl X2_2 0 71 rfl _ rfl (zl 71) zeroc_M size_Macro (zl_len 71) (by simp[zl]) ?_;intro wf pf gf;refine Hid.out ?_)
 rw[spl_all (by rw[zl_len])]at pf;have Ef:Ext w wf:=Ext.grown E_2 gf (fun q hq=>by cases hq;omega);refine Lib.hid ?_;go_wp2;exact bodyPost_ret (v := .agg (ic (zl 71))) (results_cell_row rfl _ _ (w.heap.size+1+1) 32 (ic (zl 71)) (0,0) _ rfl pf Tryz.underlying32 rfl (by rw[ic_size,zl_len];exact size_Macro)) rfl ⟨rfl,Ef⟩
theorem impl_IntraMacro_no_2 (t p:Pic) (x y q top:Int) (a b:Option Addr) (c d n l:Nat) (w:World) (hn:n=t.px.length) (hl:l=p.px.length) (nc:n≤9223372036854775807) (lc:l≤9223372036854775807) (s:Sl w a n (t.px.map (Value.int .i64))) (u:Sl w b l (p.px.map (Value.int .i64))) (h0:alikeP t p) (h1:(0≤x)∧(x<t.w)∧(x%8=0)∧(0≤y)∧(y<t.h)∧(y%8=0)) (h2 : ¬ (0≤q∧q≤15)) :
 Calls Tryz.prog 24 #[.agg #[.int .i64 t.w,.int .i64 t.h,.slice a n c],.agg #[.int .i64 p.w,.int .i64 p.h,.slice b l d],.int .i64 x,.int .i64 y,.int .i64 q,.int .i64 top] w fun e w'=>e= .returned (.agg (ic (zl 71)))∧Ext w w':=by
 have HN:=Lib.hid hn;have HL:=Lib.hid hl;clear hn hl;have D0:=Lib.hid (show decide (alikeP t p)=true from decide_eq_true h0);have D1:=Lib.hid (show decide ((0≤x)∧(x<t.w)∧(x%8=0)∧(0≤y)∧(y<t.h)∧(y%8=0))=true from decide_eq_true h1);have Q2:=Lib.hid h2;have a0_1:=Ext.alloc (w.alloc (.cells #[.int .i64 t.w,.int .i64 t.h,.slice a n c] 25)) (.cells #[.int .i64 p.w,.int .i64 p.h,.slice b l d] 25);have a0_2:=Ext.alloc ((w.alloc (.cells #[.int .i64 t.w,.int .i64 t.h,.slice a n c] 25)).alloc (.cells #[.int .i64 p.w,.int .i64 p.h,.slice b l d] 25)) (.cells (ic (zl 71)) 32);have X0_0:=a0_2.blk (a0_1.blk (blk_new w (.cells #[.int .i64 t.w,.int .i64 t.h,.slice a n c] 25)));have a1_2:=Ext.alloc ((w.alloc (.cells #[.int .i64 t.w,.int .i64 t.h,.slice a n c] 25)).alloc (.cells #[.int .i64 p.w,.int .i64 p.h,.slice b l d] 25)) (.cells (ic (zl 71)) 32);have X1_0:=a1_2.blk (blk_new (w.alloc (.cells #[.int .i64 t.w,.int .i64 t.h,.slice a n c] 25)) (.cells #[.int .i64 p.w,.int .i64 p.h,.slice b l d] 25));have X2_0:=IB.new ((w.alloc (.cells #[.int .i64 t.w,.int .i64 t.h,.slice a n c] 25)).alloc (.cells #[.int .i64 p.w,.int .i64 p.h,.slice b l d] 25)) 32 (zl 71);have E_0:=((Ext.alloc w (.cells #[.int .i64 t.w,.int .i64 t.h,.slice a n c] 25)).trans (Ext.alloc (w.alloc (.cells #[.int .i64 t.w,.int .i64 t.h,.slice a n c] 25)) (.cells #[.int .i64 p.w,.int .i64 p.h,.slice b l d] 25))).trans (Ext.alloc ((w.alloc (.cells #[.int .i64 t.w,.int .i64 t.h,.slice a n c] 25)).alloc (.cells #[.int .i64 p.w,.int .i64 p.h,.slice b l d] 25)) (.cells (ic (zl 71)) 32));simp only[World.size_alloc]at X1_0 X2_0;clear a0_1 a0_2 a1_2 h0 h1 h2;obtain⟨-,k0_0,k0_1,k0_2,-⟩:=bx3 X0_0;obtain⟨-,k1_0,k1_1,k1_2,-⟩:=bx3 X1_0;go_enter Tryz.func24,Tryz.ntmps24
 go_wp2_with (refine wpList_iallocz 32 rfl rfl 71 zeroq_M ?_;(try simp only[World.size_alloc]))
 refine(alike_at t p a b c d n l _ HN.out HL.out nc lc (s.ext E_0) (u.ext E_0)).mono ?_;rw[D0.out]
 rintro e w_1 ⟨rfl,e_1⟩
 have X0_1:=e_1.blk X0_0;have X1_1:=e_1.blk X1_0;have X2_1:=X2_0.ext e_1;have E_1:=E_0.trans e_1;clear k0_0 k0_1 k0_2 X0_0 k1_0 k1_1 k1_2 X1_0 X2_0 E_0 e_1;obtain⟨-,k0_0,k0_1,k0_2,-⟩:=bx3 X0_1;obtain⟨-,k1_0,k1_1,k1_2,-⟩:=bx3 X1_1;go_wp2_with fail
 refine(begins_any t x y a c n _).mono ?_;rw[D1.out]
 rintro e w_2 ⟨rfl,e_2⟩
 have X0_2:=e_2.blk X0_1;have X1_2:=e_2.blk X1_1;have X2_2:=X2_1.ext e_2;have E_2:=E_1.trans e_2;clear k0_0 k0_1 k0_2 X0_1 k1_0 k1_1 k1_2 X1_1 X2_1 E_1 e_2;obtain⟨-,k0_0,k0_1,k0_2,-⟩:=bx3 X0_2;obtain⟨-,k1_0,k1_1,k1_2,-⟩:=bx3 X1_2;go_wp2_with fail
 refine(qV_out q _ Q2.out).mono ?_
 rintro e w_s2 ⟨rfl,rfl⟩
 have hbz:=X2_2.lt;go_wp2_with (refine wpList_istore 32 _ _ rfl rfl X2_2 0 71 rfl _ rfl (zl 71) zeroc_M size_Macro (zl_len 71) (by simp[zl]) ?_;intro wf pf gf;refine Hid.out ?_)
 rw[spl_all (by rw[zl_len])]at pf;have Ef:Ext w wf:=Ext.grown E_2 gf (fun q hq=>by cases hq;omega);refine Lib.hid ?_;go_wp2;exact bodyPost_ret (v := .agg (ic (zl 71))) (results_cell_row rfl _ _ (w.heap.size+1+1) 32 (ic (zl 71)) (0,0) _ rfl pf Tryz.underlying32 rfl (by rw[ic_size,zl_len];exact size_Macro)) rfl ⟨rfl,Ef⟩
theorem impl_IntraMacro_no_3 (t p:Pic) (x y q top:Int) (a b:Option Addr) (c d n l:Nat) (w:World) (hn:n=t.px.length) (hl:l=p.px.length) (nc:n≤9223372036854775807) (lc:l≤9223372036854775807) (s:Sl w a n (t.px.map (Value.int .i64))) (u:Sl w b l (p.px.map (Value.int .i64))) (h0:alikeP t p) (h1:(0≤x)∧(x<t.w)∧(x%8=0)∧(0≤y)∧(y<t.h)∧(y%8=0)) (h2:0≤q∧q≤15) (h3 : ¬ (0≤top)) :
 Calls Tryz.prog 24 #[.agg #[.int .i64 t.w,.int .i64 t.h,.slice a n c],.agg #[.int .i64 p.w,.int .i64 p.h,.slice b l d],.int .i64 x,.int .i64 y,.int .i64 q,.int .i64 top] w fun e w'=>e= .returned (.agg (ic (zl 71)))∧Ext w w':=by
 have HN:=Lib.hid hn;have HL:=Lib.hid hl;clear hn hl;have D0:=Lib.hid (show decide (alikeP t p)=true from decide_eq_true h0);have D1:=Lib.hid (show decide ((0≤x)∧(x<t.w)∧(x%8=0)∧(0≤y)∧(y<t.h)∧(y%8=0))=true from decide_eq_true h1);have Q2:=Lib.hid h2;have f3:decide (top<0)=true:=by simpa using h3
 have a0_1:=Ext.alloc (w.alloc (.cells #[.int .i64 t.w,.int .i64 t.h,.slice a n c] 25)) (.cells #[.int .i64 p.w,.int .i64 p.h,.slice b l d] 25);have a0_2:=Ext.alloc ((w.alloc (.cells #[.int .i64 t.w,.int .i64 t.h,.slice a n c] 25)).alloc (.cells #[.int .i64 p.w,.int .i64 p.h,.slice b l d] 25)) (.cells (ic (zl 71)) 32);have X0_0:=a0_2.blk (a0_1.blk (blk_new w (.cells #[.int .i64 t.w,.int .i64 t.h,.slice a n c] 25)));have a1_2:=Ext.alloc ((w.alloc (.cells #[.int .i64 t.w,.int .i64 t.h,.slice a n c] 25)).alloc (.cells #[.int .i64 p.w,.int .i64 p.h,.slice b l d] 25)) (.cells (ic (zl 71)) 32);have X1_0:=a1_2.blk (blk_new (w.alloc (.cells #[.int .i64 t.w,.int .i64 t.h,.slice a n c] 25)) (.cells #[.int .i64 p.w,.int .i64 p.h,.slice b l d] 25));have X2_0:=IB.new ((w.alloc (.cells #[.int .i64 t.w,.int .i64 t.h,.slice a n c] 25)).alloc (.cells #[.int .i64 p.w,.int .i64 p.h,.slice b l d] 25)) 32 (zl 71);have E_0:=((Ext.alloc w (.cells #[.int .i64 t.w,.int .i64 t.h,.slice a n c] 25)).trans (Ext.alloc (w.alloc (.cells #[.int .i64 t.w,.int .i64 t.h,.slice a n c] 25)) (.cells #[.int .i64 p.w,.int .i64 p.h,.slice b l d] 25))).trans (Ext.alloc ((w.alloc (.cells #[.int .i64 t.w,.int .i64 t.h,.slice a n c] 25)).alloc (.cells #[.int .i64 p.w,.int .i64 p.h,.slice b l d] 25)) (.cells (ic (zl 71)) 32));simp only[World.size_alloc]at X1_0 X2_0;clear a0_1 a0_2 a1_2 h0 h1 h2 h3;obtain⟨-,k0_0,k0_1,k0_2,-⟩:=bx3 X0_0;obtain⟨-,k1_0,k1_1,k1_2,-⟩:=bx3 X1_0;go_enter Tryz.func24,Tryz.ntmps24
 go_wp2_with (refine wpList_iallocz 32 rfl rfl 71 zeroq_M ?_;(try simp only[World.size_alloc]))
 refine(alike_at t p a b c d n l _ HN.out HL.out nc lc (s.ext E_0) (u.ext E_0)).mono ?_;rw[D0.out]
 rintro e w_1 ⟨rfl,e_1⟩
 have X0_1:=e_1.blk X0_0;have X1_1:=e_1.blk X1_0;have X2_1:=X2_0.ext e_1;have E_1:=E_0.trans e_1;clear k0_0 k0_1 k0_2 X0_0 k1_0 k1_1 k1_2 X1_0 X2_0 E_0 e_1;obtain⟨-,k0_0,k0_1,k0_2,-⟩:=bx3 X0_1;obtain⟨-,k1_0,k1_1,k1_2,-⟩:=bx3 X1_1;go_wp2_with fail
 refine(begins_any t x y a c n _).mono ?_;rw[D1.out]
 rintro e w_2 ⟨rfl,e_2⟩
 have X0_2:=e_2.blk X0_1;have X1_2:=e_2.blk X1_1;have X2_2:=X2_1.ext e_2;have E_2:=E_1.trans e_2;clear k0_0 k0_1 k0_2 X0_1 k1_0 k1_1 k1_2 X1_1 X2_1 E_1 e_2;obtain⟨-,k0_0,k0_1,k0_2,-⟩:=bx3 X0_2;obtain⟨-,k1_0,k1_1,k1_2,-⟩:=bx3 X1_2;go_wp2_with fail
 refine(qV_in q _ Q2.out).mono ?_
 rintro e w_s2 ⟨rfl,rfl⟩
 have hbz:=X2_2.lt;go_wp2_with (refine wpList_istore 32 _ _ rfl rfl X2_2 0 71 rfl _ rfl (zl 71) zeroc_M size_Macro (zl_len 71) (by simp[zl]) ?_;intro wf pf gf;refine Hid.out ?_)
 rw[spl_all (by rw[zl_len])]at pf;have Ef:Ext w wf:=Ext.grown E_2 gf (fun q hq=>by cases hq;omega);refine Lib.hid ?_;go_wp2;exact bodyPost_ret (v := .agg (ic (zl 71))) (results_cell_row rfl _ _ (w.heap.size+1+1) 32 (ic (zl 71)) (0,0) _ rfl pf Tryz.underlying32 rfl (by rw[ic_size,zl_len];exact size_Macro)) rfl ⟨rfl,Ef⟩
theorem impl_IntraMacro_no_4 (t p:Pic) (x y q top:Int) (a b:Option Addr) (c d n l:Nat) (w:World) (hn:n=t.px.length) (hl:l=p.px.length) (nc:n≤9223372036854775807) (lc:l≤9223372036854775807) (s:Sl w a n (t.px.map (Value.int .i64))) (u:Sl w b l (p.px.map (Value.int .i64))) (h0:alikeP t p) (h1:(0≤x)∧(x<t.w)∧(x%8=0)∧(0≤y)∧(y<t.h)∧(y%8=0)) (h2:0≤q∧q≤15) (h3:0≤top) (h4 : ¬ (top≤y)) :
 Calls Tryz.prog 24 #[.agg #[.int .i64 t.w,.int .i64 t.h,.slice a n c],.agg #[.int .i64 p.w,.int .i64 p.h,.slice b l d],.int .i64 x,.int .i64 y,.int .i64 q,.int .i64 top] w fun e w'=>e= .returned (.agg (ic (zl 71)))∧Ext w w':=by
 have HN:=Lib.hid hn;have HL:=Lib.hid hl;clear hn hl;have D0:=Lib.hid (show decide (alikeP t p)=true from decide_eq_true h0);have D1:=Lib.hid (show decide ((0≤x)∧(x<t.w)∧(x%8=0)∧(0≤y)∧(y<t.h)∧(y%8=0))=true from decide_eq_true h1);have Q2:=Lib.hid h2;have f3:decide (top<0)=false:=by simpa using h3
 have f4:decide (y<top)=true:=by simpa using h4
 have a0_1:=Ext.alloc (w.alloc (.cells #[.int .i64 t.w,.int .i64 t.h,.slice a n c] 25)) (.cells #[.int .i64 p.w,.int .i64 p.h,.slice b l d] 25);have a0_2:=Ext.alloc ((w.alloc (.cells #[.int .i64 t.w,.int .i64 t.h,.slice a n c] 25)).alloc (.cells #[.int .i64 p.w,.int .i64 p.h,.slice b l d] 25)) (.cells (ic (zl 71)) 32);have X0_0:=a0_2.blk (a0_1.blk (blk_new w (.cells #[.int .i64 t.w,.int .i64 t.h,.slice a n c] 25)));have a1_2:=Ext.alloc ((w.alloc (.cells #[.int .i64 t.w,.int .i64 t.h,.slice a n c] 25)).alloc (.cells #[.int .i64 p.w,.int .i64 p.h,.slice b l d] 25)) (.cells (ic (zl 71)) 32);have X1_0:=a1_2.blk (blk_new (w.alloc (.cells #[.int .i64 t.w,.int .i64 t.h,.slice a n c] 25)) (.cells #[.int .i64 p.w,.int .i64 p.h,.slice b l d] 25));have X2_0:=IB.new ((w.alloc (.cells #[.int .i64 t.w,.int .i64 t.h,.slice a n c] 25)).alloc (.cells #[.int .i64 p.w,.int .i64 p.h,.slice b l d] 25)) 32 (zl 71);have E_0:=((Ext.alloc w (.cells #[.int .i64 t.w,.int .i64 t.h,.slice a n c] 25)).trans (Ext.alloc (w.alloc (.cells #[.int .i64 t.w,.int .i64 t.h,.slice a n c] 25)) (.cells #[.int .i64 p.w,.int .i64 p.h,.slice b l d] 25))).trans (Ext.alloc ((w.alloc (.cells #[.int .i64 t.w,.int .i64 t.h,.slice a n c] 25)).alloc (.cells #[.int .i64 p.w,.int .i64 p.h,.slice b l d] 25)) (.cells (ic (zl 71)) 32));simp only[World.size_alloc]at X1_0 X2_0;clear a0_1 a0_2 a1_2 h0 h1 h2 h3 h4;obtain⟨-,k0_0,k0_1,k0_2,-⟩:=bx3 X0_0;obtain⟨-,k1_0,k1_1,k1_2,-⟩:=bx3 X1_0;go_enter Tryz.func24,Tryz.ntmps24
 go_wp2_with (refine wpList_iallocz 32 rfl rfl 71 zeroq_M ?_;(try simp only[World.size_alloc]))
 refine(alike_at t p a b c d n l _ HN.out HL.out nc lc (s.ext E_0) (u.ext E_0)).mono ?_;rw[D0.out]
 rintro e w_1 ⟨rfl,e_1⟩
 have X0_1:=e_1.blk X0_0;have X1_1:=e_1.blk X1_0;have X2_1:=X2_0.ext e_1;have E_1:=E_0.trans e_1;clear k0_0 k0_1 k0_2 X0_0 k1_0 k1_1 k1_2 X1_0 X2_0 E_0 e_1;obtain⟨-,k0_0,k0_1,k0_2,-⟩:=bx3 X0_1;obtain⟨-,k1_0,k1_1,k1_2,-⟩:=bx3 X1_1;go_wp2_with fail
 refine(begins_any t x y a c n _).mono ?_;rw[D1.out]
 rintro e w_2 ⟨rfl,e_2⟩
 have X0_2:=e_2.blk X0_1;have X1_2:=e_2.blk X1_1;have X2_2:=X2_1.ext e_2;have E_2:=E_1.trans e_2;clear k0_0 k0_1 k0_2 X0_1 k1_0 k1_1 k1_2 X1_1 X2_1 E_1 e_2;obtain⟨-,k0_0,k0_1,k0_2,-⟩:=bx3 X0_2;obtain⟨-,k1_0,k1_1,k1_2,-⟩:=bx3 X1_2;go_wp2_with fail
 refine(qV_in q _ Q2.out).mono ?_
 rintro e w_s2 ⟨rfl,rfl⟩
 have hbz:=X2_2.lt;go_wp2_with (refine wpList_istore 32 _ _ rfl rfl X2_2 0 71 rfl _ rfl (zl 71) zeroc_M size_Macro (zl_len 71) (by simp[zl]) ?_;intro wf pf gf;refine Hid.out ?_)
 rw[spl_all (by rw[zl_len])]at pf;have Ef:Ext w wf:=Ext.grown E_2 gf (fun q hq=>by cases hq;omega);refine Lib.hid ?_;go_wp2;exact bodyPost_ret (v := .agg (ic (zl 71))) (results_cell_row rfl _ _ (w.heap.size+1+1) 32 (ic (zl 71)) (0,0) _ rfl pf Tryz.underlying32 rfl (by rw[ic_size,zl_len];exact size_Macro)) rfl ⟨rfl,Ef⟩
theorem impl_IntraMacro_yes_5 (t:Pic) (W H x y:Nat) (px:List Int) (q:Nat) (top:Int) (a b:Option Addr) (c d n l:Nat) (w:World) (hT:TabQ w) (hn:n=t.px.length) (hl:l=px.length) (nc:n≤9223372036854775807) (lc:l≤9223372036854775807) (s:Sl w a n (t.px.map (Value.int .i64))) (u:Sl w b l (px.map (Value.int .i64))) (htv:t.valid) (hpv:Pic.valid ⟨W,H,px⟩) (hx8:x+8≤W) (hy8:y+8≤H) (hW32:W≤32) (hH32:H≤32) (hq:q<16) (ht0:0≤top) (h0:alikeP t ⟨W,H,px⟩) (h1:(0≤(x:Int))∧((x:Int)<t.w)∧((x:Int)%8=0)∧(0≤(y:Int))∧((y:Int)<t.h)∧((y:Int)%8=0)) (h2:0≤(q:Int)∧(q:Int)≤15) (h3:0≤top) (h4:top≤(y:Int)) :
 Calls Tryz.prog 24 #[.agg #[.int .i64 t.w,.int .i64 t.h,.slice a n c],.agg #[.int .i64 W,.int .i64 H,.slice b l d],.int .i64 (x:Nat),.int .i64 (y:Nat),.int .i64 (q:Nat),.int .i64 top] w fun e w'=>e= .returned (.agg (ic (inMac t ⟨W,H,px⟩ x y q top 4).zs))∧Ext w w':=by
 have HN:=Lib.hid hn;have HL0:=Lib.hid hl;have hnW:l=W*H:=by
  have h1:=hpv.2.2.1;simp only[←Int.natCast_mul]at h1;rw[hl];exact Int.ofNat.inj h1
 have hn1k:l≤1024:=by rw[hnW];exact Nat.mul_le_mul hW32 hH32
 have inn:∀ u v:Nat,u+4≤H→v+4≤W→(u+3)*W+v+3<l:=fun u v h1 h2=>by
  have h3:=Nat.mul_le_mul_right W (show u+4≤H by omega);rw[Nat.add_mul,Nat.mul_comm H W,←hnW]at h3;rw[Nat.add_mul];omega
 have hl0:0<l:=by have:=inn 0 0 (by omega) (by omega);omega
 have Inn:=Lib.hid inn;have HV:=Lib.hid (fun k=>inS_valid t hpv x y q top k);have HLn:=Lib.hid (fun k=>show l=(inS t ⟨W,H,px⟩ x y q top k).1.length by rw[inS_len,hl]);have HMl:=Lib.hid (fun k (hk:k≤4)=>Mac.zs_len (inMac_ok t ⟨W,H,px⟩ x y q top hk));have HL:=Lib.hid (show l=(Pic.mk W H px).px.length from hl);clear hn hl hpv hnW inn;have D0:=Lib.hid (show decide (alikeP t ⟨W,H,px⟩)=true from decide_eq_true h0);have D1:=Lib.hid (show decide ((0≤(x:Int))∧((x:Int)<t.w)∧((x:Int)%8=0)∧(0≤(y:Int))∧((y:Int)<t.h)∧((y:Int)%8=0))=true from decide_eq_true h1);have Q2:=Lib.hid h2;have f3:decide (top<0)=false:=by simpa using h3
 have f4:decide ((y:Int)<top)=false:=by simpa using h4
 have a0_1:=Ext.alloc (w.alloc (.cells #[.int .i64 t.w,.int .i64 t.h,.slice a n c] 25)) (.cells #[.int .i64 W,.int .i64 H,.slice b l d] 25);have a0_2:=Ext.alloc ((w.alloc (.cells #[.int .i64 t.w,.int .i64 t.h,.slice a n c] 25)).alloc (.cells #[.int .i64 W,.int .i64 H,.slice b l d] 25)) (.cells (ic (zl 71)) 32);have X0_0:=a0_2.blk (a0_1.blk (blk_new w (.cells #[.int .i64 t.w,.int .i64 t.h,.slice a n c] 25)));have a1_2:=Ext.alloc ((w.alloc (.cells #[.int .i64 t.w,.int .i64 t.h,.slice a n c] 25)).alloc (.cells #[.int .i64 W,.int .i64 H,.slice b l d] 25)) (.cells (ic (zl 71)) 32);have X1_0:=a1_2.blk (blk_new (w.alloc (.cells #[.int .i64 t.w,.int .i64 t.h,.slice a n c] 25)) (.cells #[.int .i64 W,.int .i64 H,.slice b l d] 25));have X2_0:=IB.new ((w.alloc (.cells #[.int .i64 t.w,.int .i64 t.h,.slice a n c] 25)).alloc (.cells #[.int .i64 W,.int .i64 H,.slice b l d] 25)) 32 (zl 71);have E_0:=((Ext.alloc w (.cells #[.int .i64 t.w,.int .i64 t.h,.slice a n c] 25)).trans (Ext.alloc (w.alloc (.cells #[.int .i64 t.w,.int .i64 t.h,.slice a n c] 25)) (.cells #[.int .i64 W,.int .i64 H,.slice b l d] 25))).trans (Ext.alloc ((w.alloc (.cells #[.int .i64 t.w,.int .i64 t.h,.slice a n c] 25)).alloc (.cells #[.int .i64 W,.int .i64 H,.slice b l d] 25)) (.cells (ic (zl 71)) 32));simp only[World.size_alloc]at X1_0 X2_0;clear a0_1 a0_2 a1_2 h0 h1 h2 h3 h4;obtain⟨-,k0_0,k0_1,k0_2,-⟩:=bx3 X0_0;obtain⟨-,k1_0,k1_1,k1_2,-⟩:=bx3 X1_0;go_enter Tryz.func24,Tryz.ntmps24
 go_wp2_with (refine wpList_iallocz 32 rfl rfl 71 zeroq_M ?_;(try simp only[World.size_alloc]))
 refine(alike_at t ⟨W,H,px⟩ a b c d n l _ HN.out HL.out nc lc (s.ext E_0) (u.ext E_0)).mono ?_;rw[D0.out]
 rintro e w_1 ⟨rfl,e_1⟩
 have X0_1:=e_1.blk X0_0;have X1_1:=e_1.blk X1_0;have X2_1:=X2_0.ext e_1;have E_1:=E_0.trans e_1;clear k0_0 k0_1 k0_2 X0_0 k1_0 k1_1 k1_2 X1_0 X2_0 E_0 e_1;obtain⟨-,k0_0,k0_1,k0_2,-⟩:=bx3 X0_1;obtain⟨-,k1_0,k1_1,k1_2,-⟩:=bx3 X1_1;go_wp2_with fail
 refine(begins_any t x y a c n _).mono ?_;rw[D1.out]
 rintro e w_2 ⟨rfl,e_2⟩
 have X0_2:=e_2.blk X0_1;have X1_2:=e_2.blk X1_1;have X2_2:=X2_1.ext e_2;have E_2:=E_1.trans e_2;clear k0_0 k0_1 k0_2 X0_1 k1_0 k1_1 k1_2 X1_1 X2_1 E_1 e_2;obtain⟨-,k0_0,k0_1,k0_2,-⟩:=bx3 X0_2;obtain⟨-,k1_0,k1_1,k1_2,-⟩:=bx3 X1_2;go_wp2_with fail
 refine(qV_in q _ Q2.out).mono ?_
 rintro e w_s2 ⟨rfl,rfl⟩
 have hlo:=X2_2.lt;obtain⟨B,hB⟩:∃ B,B=w.heap.size:=⟨_,rfl⟩;rw[←hB]at X0_2 X1_2 X2_2 hlo⊢;have hwB:w.heap.size≤B:=by omega
 have HB:=Lib.hid hB;clear hB k0_0 k0_1 k0_2 k1_0 k1_1 k1_2;obtain⟨-,k1_0,k1_1,k1_2,-⟩:=bx3 X1_2;go_wp2_with fail
 refine(clone_any W H b d l px _ (by omega) (u.ext E_2)).mono ?_
 rintro e wa ⟨a1,c1,rfl,own1,e2⟩
 have hgo:∃ g,a1=some ⟨g,0,none⟩∧g<wa.heap.size∧w_2.heap.size≤g:=by
  rcases own1.2 with⟨-,h0⟩|⟨g,cc,cur,hv,hb,hb2,-⟩
  ·omega
  ·simp only[Value.slice.injEq]at hv;exact⟨g,hv.1,lt_of_block hb2,hb⟩
 obtain⟨g,rfl,hg1,hg2⟩:=hgo;have r0:=e2.blk X0_2;have r2:=X2_2.ext e2;have E2:=E_2.trans e2;have own0:=owns_mono own1 E_2.size;clear X0_2 X1_2 X2_2 E_2 e2 k1_0 k1_1 k1_2 own1;have a5:=Ext.alloc wa (.cells #[.int .i64 W,.int .i64 H,.slice (some ⟨g,0,none⟩) l c1] 25);have z0:=a5.blk r0;have z2:=r2.ext a5;have z4:=blk_new wa (.cells #[.int .i64 W,.int .i64 H,.slice (some ⟨g,0,none⟩) l c1] 25);have own2:=owns_ext own0 a5;have E3:=E2.trans a5;have hO1:=r2.lt;obtain⟨O,hOe⟩:∃ O,O=wa.heap.size:=⟨_,rfl⟩;rw[←hOe]at z4 hg1 hO1;have HO2:=Lib.hid hOe;clear r0 r2 own0 E2 a5;have hOl:=lt_of_block z4;go_upto_region 4 with fail
 rw[←hOe];clear hOe;generalize wa.alloc (.cells #[.int .i64 W,.int .i64 H,.slice (some ⟨g,0,none⟩) l c1] 25)=w2 at *;have ia:=IB.new w2 32 (zl 71);have ea:=Ext.alloc w2 (.cells (ic (zl 71)) 32);have Y0:=ea.blk z0;have Y2:=z2.ext ea;have Y4:=ea.blk z4;have own3:=owns_ext own2 ea;have F0:=E3.trans ea;obtain⟨M,hM⟩:∃ M,M=w2.heap.size:=⟨_,rfl⟩;go_wp2_with (first|(refine wpList_iallocz 32 rfl rfl 71 zeroq_M ?_;(try simp only[World.size_alloc]))|(refine wpList_istore 32 _ _ rfl rfl ia 0 71 rfl _ rfl (Mac.zs ⟨2,0,0,zero4,zl 64⟩) (by exact inMac_build) size_Macro (Mac.zs_len ⟨rfl,zl_len 64⟩) (by simp[zl]) ?_;intro w5 i5 g5;refine Hid.out ?_))
 rw[spl_all (by rw[Mac.zs_len ⟨rfl,zl_len 64⟩,zl_len])]at i5;rw[←hM]at i5 g5 hOl⊢;have HM:=Lib.hid hM;clear hM ia z0 z2 z4 own2 E3 ea;have NN:NS w g l c1 t.w t.h a n c W H B O M px (Mac.zs ⟨2,0,0,zero4,zl 64⟩) w5 :=
  ⟨Ext.grown F0 g5 (fun k e=>by cases e;omega),own3.kept g5 (.inr (by simp[Value.ownBlock];omega)),blk_gr Y0 g5 (by simp;omega),blk_gr Y4 g5 (by simp;omega),Y2.gr g5 (by simp;omega),i5,⟨hwB,by omega,by omega,by omega⟩,⟨by omega,by omega,by omega,by omega,by omega,by omega,by omega⟩⟩
 clear Y0 Y2 Y4 own3 F0 i5 g5;refine Lib.hid ?_;go_wp2_with fail
 go_loopw [50] (fun i wr=>∃ k:Nat,k≤4∧i= .int .i64 k∧NS w g l c1 t.w t.h a n c W H B O M (inS t ⟨W,H,px⟩ x y q top k).1 (inMac t ⟨W,H,px⟩ x y q top k).zs wr) (fun i _=>4-(intOf i).toNat)
 case atStart=>exact⟨0,by omega,rfl,NN⟩
 case round =>
  obtain⟨k,hk,rfl,N0⟩:=hrel;clear NN
  by_cases hlt:k<4
  ·have hd:decide ((k:Int)<4)=true:=by simp;omega
   have hZv:=HV.out k;have hZn:=HLn.out k;have hms:=HMl.out k (by omega);have hst1:=inMac_md t ⟨W,H,px⟩ x y q top hlt;have hst2:=inMac_lv t ⟨W,H,px⟩ x y q top hlt;have hst3:=show putS (inS t ⟨W,H,px⟩ x y q top k).1 W (x+k%2*4) (y+k/2*4) (inP t ⟨W,H,px⟩ x y top (inS t ⟨W,H,px⟩ x y q top k).1 k) (dec (inL t ⟨W,H,px⟩ x y q top (inS t ⟨W,H,px⟩ x y q top k).1 k) q) 16=(inS t ⟨W,H,px⟩ x y q top (k+1)).1 from rfl;rw[←hst1]at hst2;clear hst1;unfold inL inP inM inE inU at hst2 hst3;simp only at hst2 hst3;obtain⟨Z,hZ⟩:∃ Z,Z=(inS t ⟨W,H,px⟩ x y q top k).1:=⟨_,rfl⟩;obtain⟨Z1,hZ1⟩:∃ Z,Z=(inS t ⟨W,H,px⟩ x y q top (k+1)).1:=⟨_,rfl⟩;obtain⟨ms,hms0⟩:∃ m,m=(inMac t ⟨W,H,px⟩ x y q top k).zs:=⟨_,rfl⟩;obtain⟨ms2,hms2⟩:∃ m,m=(inMac t ⟨W,H,px⟩ x y q top (k+1)).zs:=⟨_,rfl⟩;rw[←hZ]at N0 hZv hZn hst2 hst3;rw[←hms0]at N0 hms hst2;rw[←hZ1]at hst3;rw[←hms2]at hst2;have HZ1:=Lib.hid hZ1;have HM2:=Lib.hid hms2;have HZv:=Lib.hid hZv;have HZn:=Lib.hid hZn;have Hms:=Lib.hid hms;obtain⟨xi,hxi⟩:∃ v,v=x+k%2*4:=⟨_,rfl⟩;obtain⟨yj,hyj⟩:∃ v,v=y+k/2*4:=⟨_,rfl⟩;rw[←hxi,←hyj]at hst2 hst3;have hxi4:xi+4≤W:=by omega
   have hyj4:yj+4≤H:=by omega
   have Hxi:=Lib.hid (show(x:Int)+(k:Int)%2*4=((xi:Nat):Int) by omega);have Hyj:=Lib.hid (show(y:Int)+(k:Int)/2*4=((yj:Nat):Int) by omega);have hI:=Inn.out yj xi hyj4 hxi4;have hEok:=edg_ok hZv (xi:Int) (yj:Int) top;have hUs:=prt_smp htv (xi:Int) (yj:Int);have hUl:=prt_len t (xi:Int) (yj:Int);obtain⟨U,hU⟩:∃ U,U=prt t (xi:Int) (yj:Int):=⟨_,rfl⟩;obtain⟨E,hE⟩:∃ E,E=edg ⟨W,H,Z⟩ (xi:Int) (yj:Int) top:=⟨_,rfl⟩;rw[←hU]at hst2 hst3 hUs hUl;rw[←hE]at hst2 hst3 hEok;have hmd4:=bst_le U E;obtain⟨md,hmd⟩:∃ m,m=bst U E:=⟨_,rfl⟩;rw[←hmd]at hst2 hst3 hmd4;have hPs:=prd_smp md hEok;have hPl:=prd_len md E;obtain⟨PR,hPR⟩:∃ P,P=prd md E:=⟨_,rfl⟩;rw[←hPR]at hst2 hst3 hPs hPl;have hdr:=dif_rng hUs hPs hUl hPl;have hLl:=cod_len (dif U PR) q;have hLb:=cod_rng (dif_len U PR) hdr hq;obtain⟨L,hL⟩:∃ L,L=cod (dif U PR) q:=⟨_,rfl⟩;rw[←hL]at hst2 hst3 hLl hLb;obtain⟨D,hD⟩:∃ D,D=dec L q:=⟨_,rfl⟩;rw[←hD]at hst3;have HDl:=Lib.hid (show D.length=16 by rw[hD,dec_len]);have HDb:=Lib.hid (show bdA 1099511627776 D by rw[hD];exact dec_bd _ _);have HPb:=Lib.hid (smp_bd hPs);have HUb:=Lib.hid (smp_bd hUs);have Hst2:=Lib.hid hst2;have Hst3:=Lib.hid hst3;have HEok:=Lib.hid hEok;have HUs:=Lib.hid hUs;have HUl:=Lib.hid hUl;have HPs:=Lib.hid hPs;have HPl:=Lib.hid hPl;have Hdr:=Lib.hid hdr;have HLl:=Lib.hid hLl;have HLb:=Lib.hid hLb;have HU:=Lib.hid hU;have HE:=Lib.hid hE;have HMd:=Lib.hid hmd;have HPR:=Lib.hid hPR;have HL:=Lib.hid hL;have HD:=Lib.hid hD;have Hms1:=Lib.hid (show(ms.set (3+k) (md:Int)).length=71 by rw[List.length_set,hms]);have Hmn:=Lib.hid (show nth (ms.set (3+k) (md:Int)) (3+k)=(md:Int) by simp[nth,hms,show 3+k<71 by omega]);have Hsl:=Lib.hid (show sub ms2 (7+k*16) 16=L by rw[←hst2];exact sub_spl (by rw[List.length_set,hms,hLl];omega) hLl);have Hm2l:=Lib.hid (show ms2.length=71 by rw[←hst2,spl_len (by rw[List.length_set,hms,hLl];omega),List.length_set,hms]);clear hZ hZ1 hms0 hms2 hxi hyj hU hE hmd hPR hL hD hst2 hst3 hEok hUs hUl hPs hPl hdr hLl hLb hZv hZn hms;obtain⟨K,hK0⟩:∃ K,K=wr.heap.size:=⟨_,rfl⟩;have hlt1:=N0.lt;rw[←hK0]at hlt1;have hes:=N0.ex.size;rw[←hK0]at hes;have LT:=Lib.hid (show w.heap.size≤K∧B<K∧g<K∧O<K∧M<K∧B+1+1<K from ⟨hes,hlt1.1,hlt1.2.1,hlt1.2.2.1,hlt1.2.2.2.1,hlt1.2.2.2.2⟩);have HK:=Lib.hid hK0;clear hK0 hlt1 hes;go_wp2_with fail
   refine(partAt_any k _ hlt).mono ?_
   rintro e wx1 ⟨rfl,rfl⟩
   go_wp2_with fail
   have hext:Stab (fun wa wb=>Ext wa wb) (fun i own ys wx=>match i with|0=>own= .agg #[.int .i64 t.w,.int .i64 t.h,.slice a n c]|1=>own= .int .i64 (x:Nat)|2=>own= .int .i64 ((k:Int)%2*4)|3=>own= .int .i64 (xi:Nat)|4=>own= .int .i64 (y:Nat)|5=>own= .int .i64 ((k:Int)/2*4)|6=>own= .int .i64 (yj:Nat)|7=>own= .agg (ic U)|8=>own= .agg #[.int .i64 W,.int .i64 H,.slice (some ⟨g,0,none⟩) l c1]|9=>own= .int .i64 (x:Nat)|10=>own= .int .i64 ((k:Int)%2*4)|11=>own= .int .i64 (xi:Nat)|12=>own= .int .i64 (y:Nat)|13=>own= .int .i64 ((k:Int)/2*4)|14=>own= .int .i64 (yj:Nat)|15=>own= .int .i64 top|16=>own= .agg (edC E)|17=>IA wx K own|18=>EA wx K own|19=>IS wx K (ys 17) U|20=>ES wx K (ys 18) E|_=>True):=by
    intro i own ys wa wb e h
    match i,h with
    | 0,h|1,h|2,h|3,h|4,h|5,h|6,h|7,h|8,h|9,h|10,h|11,h|12,h|13,h|14,h|15,h|16,h=>exact h
    | 17,h|18,h|19,h|20,h=>exact h.ext e
    | _+21,_=>trivial
   have Hext:=Lib.hid hext;clear hext;refine wp_region_inv2 (by kernel_rfl) [(18,17),(19,18),(58,0),(59,1),(60,2),(61,3),(62,4),(63,5),(64,6),(65,7),(66,8),(67,9),(68,10),(69,11),(70,12),(71,13),(72,14),(73,15),(74,16)] [[],[],[],[1,2],[],[],[4,5],[0,1,2,3,4,5,6],[],[],[],[9,10],[],[],[12,13],[],[0,1,2,3,4,5,6,7,8,9,10,11,12,13,14,15],[],[],[0,1,2,3,4,5,6,7,8,9,10,11,12,13,14,15,16,17,18],[0,1,2,3,4,5,6,7,8,9,10,11,12,13,14,15,16,17,18,19]] (fun i own ys wx=>match i with|0=>own= .agg #[.int .i64 t.w,.int .i64 t.h,.slice a n c]|1=>own= .int .i64 (x:Nat)|2=>own= .int .i64 ((k:Int)%2*4)|3=>own= .int .i64 (xi:Nat)|4=>own= .int .i64 (y:Nat)|5=>own= .int .i64 ((k:Int)/2*4)|6=>own= .int .i64 (yj:Nat)|7=>own= .agg (ic U)|8=>own= .agg #[.int .i64 W,.int .i64 H,.slice (some ⟨g,0,none⟩) l c1]|9=>own= .int .i64 (x:Nat)|10=>own= .int .i64 ((k:Int)%2*4)|11=>own= .int .i64 (xi:Nat)|12=>own= .int .i64 (y:Nat)|13=>own= .int .i64 ((k:Int)/2*4)|14=>own= .int .i64 (yj:Nat)|15=>own= .int .i64 top|16=>own= .agg (edC E)|17=>IA wx K own|18=>EA wx K own|19=>IS wx K (ys 17) U|20=>ES wx K (ys 18) E|_=>True) (fun kx wx=>NS w g l c1 t.w t.h a n c W H B O M Z ms wx∧K≤wx.heap.size) (by kernel_rfl) (by kernel_rfl) (by kernel_rfl) ?g0_r1 ?gop_r1 ?gend_r1
   case g0_r1=>exact⟨N0.e (Ext.drewN _ 1),by rw[HK.out];exact Nat.le_refl _⟩
   case gop_r1 =>
    refine⟨?o0,?_,?_,?o3,?_,?_,?o6,?o7,?o8,?_,?_,?o11,?_,?_,?o14,?_,?o16,?o17,?o18,?o19,?o20,trivial⟩ <;> (intro kx xs wx hk hG hD hI Qo Kx hK hQo;simp only[patchS,Nat.reduceAdd,Nat.reduceEqDiff,↓reduceIte]at hQo⊢)
    case o0 =>
     clear hD hI;obtain⟨-,k0,k1,k2,-⟩:=bx3 hG.1.bt;go_wp2;exact hK.out _ _ ⟨rfl,hG,kkp⟩
    case o3 =>
     rw[ddq (hD 1 rfl),ddq (hD 2 rfl)]at hQo⊢;clear hD hI;go_wp2;exact hK.out _ _ ⟨by rw[←Hxi.out],hG,fun _ _ _ _ _ _ h=>h⟩
    case o6 =>
     rw[ddq (hD 4 rfl),ddq (hD 5 rfl)]at hQo⊢;clear hD hI;go_wp2;exact hK.out _ _ ⟨by rw[←Hyj.out],hG,fun _ _ _ _ _ _ h=>h⟩
    case o7 =>
     rw[ddq (hD 0 rfl),ddq (hD 3 rfl),ddq (hD 6 rfl)]at hQo⊢;clear hD hI;go_wp2_with fail
     refine(part_any t (xi:Int) (yj:Int) a c n _ htv HN.out (s.ext hG.1.ex) (by omega) (by omega) (by omega) (by omega)).mono ?_
     rintro e w9 ⟨rfl,e9⟩
     rw[←HU.out];go_wp2;exact hK.out _ _ ⟨rfl,⟨hG.1.e e9,Nat.le_trans hG.2 e9.size⟩,fun i _ _ _ own ys h=>Hext.out i own ys _ _ e9 h⟩
    case o8 =>
     clear hD hI;obtain⟨-,k0,k1,k2,-⟩:=bx3 hG.1.br;go_wp2;exact hK.out _ _ ⟨rfl,hG,kkp⟩
    case o11 =>
     rw[ddq (hD 9 rfl),ddq (hD 10 rfl)]at hQo⊢;clear hD hI;go_wp2;exact hK.out _ _ ⟨by rw[←Hxi.out],hG,fun _ _ _ _ _ _ h=>h⟩
    case o14 =>
     rw[ddq (hD 12 rfl),ddq (hD 13 rfl)]at hQo⊢;clear hD hI;go_wp2;exact hK.out _ _ ⟨by rw[←Hyj.out],hG,fun _ _ _ _ _ _ h=>h⟩
    case o16 =>
     rw[ddq (hD 8 rfl),ddq (hD 11 rfl),ddq (hD 14 rfl),ddq (hD 15 rfl)]at hQo⊢;clear hD hI;go_wp2_with fail
     refine(edges_any ⟨W,H,Z⟩ (xi:Int) (yj:Int) top (some ⟨g,0,none⟩) c1 l _ HZv.out HZn.out (Sl.of_owns hG.1.own) (by omega) (by omega) (by omega) (by omega)).mono ?_
     rintro e w9 ⟨rfl,e9⟩
     rw[←HE.out];go_wp2;exact hK.out _ _ ⟨rfl,⟨hG.1.e e9,Nat.le_trans hG.2 e9.size⟩,fun i _ _ _ own ys h=>Hext.out i own ys _ _ e9 h⟩
    case o17 =>
     clear hD hI;have ea:=Ext.alloc wx (.cells (ic (List.replicate 16 0)) 29);go_wp2;exact hK.out _ _ ⟨⟨_,_,rfl,hG.2,IB.new _ _ (List.replicate 16 0),by simp⟩,⟨hG.1.e ea,Nat.le_trans hG.2 ea.size⟩,fun i _ _ _ own ys h=>Hext.out i own ys _ _ ea h⟩
    case o18 =>
     clear hD hI;have ea:=Ext.alloc wx (.cells (edC ed0) 106);go_wp2;exact hK.out _ _ ⟨⟨_,_,rfl,hG.2,EB.new _ ed0,ed0_ln⟩,⟨hG.1.e ea,Nat.le_trans hG.2 ea.size⟩,fun i _ _ _ own ys h=>Hext.out i own ys _ _ ea h⟩
    case o19 =>
     have d17:IA wx K (xs 17):=hD 17 rfl;have d7:_=_:=hD 7 rfl;clear hD hI;generalize hx17:xs 17=y17 at *;have Hx17:=Lib.hid hx17;clear hx17;generalize xs 7=y7 at *;obtain⟨b17,us17,rfl,hb17,z17,l17⟩:=d17;subst d7;refine wpList_istore 29 _ _ rfl rfl z17 0 16 rfl _ rfl U rfl size_A16 HUl.out (by rw[l17];omega) ?_;intro w9 i9 g9;rw[spl_all (by rw[HUl.out,l17])]at i9;have hst:∀(wy:World),StI wx wy→Stbn 21 19 [[],[],[],[1,2],[],[],[4,5],[0,1,2,3,4,5,6],[],[],[],[9,10],[],[],[12,13],[],[0,1,2,3,4,5,6,7,8,9,10,11,12,13,14,15],[],[],[0,1,2,3,4,5,6,7,8,9,10,11,12,13,14,15,16,17,18],[0,1,2,3,4,5,6,7,8,9,10,11,12,13,14,15,16,17,18,19]] (fun i own ys wx=>match i with|0=>own= .agg #[.int .i64 t.w,.int .i64 t.h,.slice a n c]|1=>own= .int .i64 (x:Nat)|2=>own= .int .i64 ((k:Int)%2*4)|3=>own= .int .i64 (xi:Nat)|4=>own= .int .i64 (y:Nat)|5=>own= .int .i64 ((k:Int)/2*4)|6=>own= .int .i64 (yj:Nat)|7=>own= .agg (ic U)|8=>own= .agg #[.int .i64 W,.int .i64 H,.slice (some ⟨g,0,none⟩) l c1]|9=>own= .int .i64 (x:Nat)|10=>own= .int .i64 ((k:Int)%2*4)|11=>own= .int .i64 (xi:Nat)|12=>own= .int .i64 (y:Nat)|13=>own= .int .i64 ((k:Int)/2*4)|14=>own= .int .i64 (yj:Nat)|15=>own= .int .i64 top|16=>own= .agg (edC E)|17=>IA wx K own|18=>EA wx K own|19=>IS wx K (ys 17) U|20=>ES wx K (ys 18) E|_=>True) wx wy:=by
      intro wy hy ii hii hne hc own ys h
      match ii,h with
      | 0,h|1,h|2,h|3,h|4,h|5,h|6,h|7,h|8,h|9,h|10,h|11,h|12,h|13,h|14,h|15,h|16,h=>exact h
      | 17,h|18,h=>exact h.stI hy
      | 19,h=>exact absurd rfl hne
      | 20,h=>exact absurd hc (by decide)
      | _+21,_=>trivial
     exact hQo undef _ (hK.out _ _ ⟨⟨b17,Hx17.out,hb17,i9⟩,⟨hG.1.loc g9 hb17 LT.out,Nat.le_trans hG.2 g9.size⟩,hst _ ⟨b17,_,_,g9,z17,i9,HUl.out⟩⟩)
    case o20 =>
     have d18:EA wx K (xs 18):=hD 18 rfl;have d16:_=_:=hD 16 rfl;clear hD hI;generalize hx18:xs 18=y18 at *;have Hx18:=Lib.hid hx18;clear hx18;generalize xs 16=y16 at *;obtain⟨b18,us18,rfl,hb18,z18,l18⟩:=d18;subst d16;refine wpList_cstore 106 _ _ rfl rfl z18 rfl _ rfl (edC_one E) 11 size_Edges (edC_size HEok.out.ln) (edC_size l18) ?_;intro w9 i9 g9;have hst:∀(wy:World),StE wx wy→Stbn 21 20 [[],[],[],[1,2],[],[],[4,5],[0,1,2,3,4,5,6],[],[],[],[9,10],[],[],[12,13],[],[0,1,2,3,4,5,6,7,8,9,10,11,12,13,14,15],[],[],[0,1,2,3,4,5,6,7,8,9,10,11,12,13,14,15,16,17,18],[0,1,2,3,4,5,6,7,8,9,10,11,12,13,14,15,16,17,18,19]] (fun i own ys wx=>match i with|0=>own= .agg #[.int .i64 t.w,.int .i64 t.h,.slice a n c]|1=>own= .int .i64 (x:Nat)|2=>own= .int .i64 ((k:Int)%2*4)|3=>own= .int .i64 (xi:Nat)|4=>own= .int .i64 (y:Nat)|5=>own= .int .i64 ((k:Int)/2*4)|6=>own= .int .i64 (yj:Nat)|7=>own= .agg (ic U)|8=>own= .agg #[.int .i64 W,.int .i64 H,.slice (some ⟨g,0,none⟩) l c1]|9=>own= .int .i64 (x:Nat)|10=>own= .int .i64 ((k:Int)%2*4)|11=>own= .int .i64 (xi:Nat)|12=>own= .int .i64 (y:Nat)|13=>own= .int .i64 ((k:Int)/2*4)|14=>own= .int .i64 (yj:Nat)|15=>own= .int .i64 top|16=>own= .agg (edC E)|17=>IA wx K own|18=>EA wx K own|19=>IS wx K (ys 17) U|20=>ES wx K (ys 18) E|_=>True) wx wy:=by
      intro wy hy ii hii hne hc own ys h
      match ii,h with
      | 0,h|1,h|2,h|3,h|4,h|5,h|6,h|7,h|8,h|9,h|10,h|11,h|12,h|13,h|14,h|15,h|16,h=>exact h
      | 17,h|18,h|19,h=>exact h.stE hy
      | 20,h=>exact absurd rfl hne
      | _+21,_=>trivial
     exact hQo undef _ (hK.out _ _ ⟨⟨b18,Hx18.out,hb18,i9⟩,⟨hG.1.loc g9 hb18 LT.out,Nat.le_trans hG.2 g9.size⟩,hst _ ⟨b18,_,E,g9,z18,i9,HEok.out.ln⟩⟩)
    all_goals
     clear hD hI;go_wp2;exact hK.out _ _ ⟨rfl,hG,kkp⟩
   clear Hext;intro xs wx hV hG;have d19:IS wx K ((xs 17)) U:=hV 19 (by decide);have d20:ES wx K ((xs 18)) E:=hV 20 (by decide);clear hV;simp only[patchS,Nat.reduceAdd,Nat.reduceEqDiff,↓reduceIte];generalize xs 0=y0,xs 1=y1,xs 2=y2,xs 3=y3,xs 4=y4,xs 5=y5,xs 6=y6,xs 7=y7,xs 8=y8,xs 9=y9,xs 10=y10,xs 11=y11,xs 12=y12,xs 13=y13,xs 14=y14,xs 15=y15,xs 16=y16,xs 17=y17,xs 18=y18,xs 19=y19,xs 20=y20 at *
   replace hG:NS w g l c1 t.w t.h a n c W H B O M Z ms wx∧K≤wx.heap.size:=hG
   obtain⟨bI,rfl,hbI,iI⟩:=d19;obtain⟨bE,rfl,hbE,iE⟩:=d20;obtain⟨N1,hK1⟩:=hG;clear N0 hK1;have hMK:=LT.out.2.2.2.2.1;go_wp2_with (first|(refine wpList_iload 29 _ rfl rfl iI 0 16 rfl _ Tryz.underlying29 rfl size_A16 (by rw[HUl.out];omega) _ (by rw[sub_all _ _ (HUl.out)]) ?_)|(refine wpList_cload 106 _ rfl rfl iE rfl _ Tryz.underlying106 rfl 11 size_Edges (edC_size HEok.out.ln) ?_))
   refine(impl_BestIntra_any U E _ HUl.out HUs.out HEok.out).mono ?_
   rintro e w10 ⟨rfl,e10⟩
   rw[←HMd.out];have N2:=N1.e e10;have iI2:=iI.ext e10;have iE2:=EB.ext iE e10;clear N1 iI iE e10;have cm:=N2.bm.cell (i:=3+k) (by rw[Hms.out];omega);have fm:=N2.bm.frozen (3+k);have N3:=N2.mac (gr_set w10 M (3+k) (.int .i64 (md:Nat))) (N2.bm.set (3+k) (md:Int));have iI3:=iI2.set_other (c:=M) (i:=3+k) (v := .int .i64 (md:Nat)) (by omega);have iE3:=EB.set_other iE2 (c:=M) (i:=3+k) (v := .int .i64 (md:Nat)) (by omega);clear N2 iI2 iE2;go_wp2_with fail
   clear cm fm;generalize w10.setCell ⟨M,3+k,none⟩ (.int .i64 (md:Nat))=w11 at *;obtain⟨K2,hK2⟩:∃ K,K=w11.heap.size:=⟨_,rfl⟩;have hlt1:=N3.lt;have hlI:=iI3.lt;have hlE:=EB.lt iE3;rw[←hK2]at hlt1 hlI hlE;have hes:=N3.ex.size;rw[←hK2]at hes;have LT2:=Lib.hid (show w.heap.size≤K2∧B<K2∧g<K2∧O<K2∧M<K2∧B+1+1<K2 from ⟨hes,hlt1.1,hlt1.2.1,hlt1.2.2.1,hlt1.2.2.2.1,hlt1.2.2.2.2⟩);have HK2:=Lib.hid hK2;clear hK2 hlt1 hes;have hext:Stab (fun wa wb=>Ext wa wb) (fun i own ys wx=>match i with|0=>own= .agg (edC E)|1=>own= .int .i64 (k:Nat)|2=>own= .pointer (some ⟨M,3,none⟩)|3=>own= .pointer (some ⟨M,3+k,none⟩)|4=>own= .int .i64 (md:Nat)|5=>own= .agg (ic PR)|6=>IA wx K2 own|7=>IS wx K2 (ys 6) PR|_=>True):=by
    intro i own ys wa wb e h
    match i,h with
    | 0,h|1,h|2,h|3,h|4,h|5,h=>exact h
    | 6,h|7,h=>exact h.ext e
    | _+8,_=>trivial
   have Hext:=Lib.hid hext;clear hext;refine wp_region_inv2 (by kernel_rfl) [(20,6),(81,0),(82,1),(83,2),(84,3),(85,4),(86,5)] [[],[],[],[1,2],[1,2,3],[0,1,2,3,4],[],[0,1,2,3,4,5,6]] (fun i own ys wx=>match i with|0=>own= .agg (edC E)|1=>own= .int .i64 (k:Nat)|2=>own= .pointer (some ⟨M,3,none⟩)|3=>own= .pointer (some ⟨M,3+k,none⟩)|4=>own= .int .i64 (md:Nat)|5=>own= .agg (ic PR)|6=>IA wx K2 own|7=>IS wx K2 (ys 6) PR|_=>True) (fun kx wx=>NS w g l c1 t.w t.h a n c W H B O M Z (ms.set (3+k) (md:Int)) wx∧K2≤wx.heap.size∧IB wx bI 29 U∧EB wx bE E) (by kernel_rfl) (by kernel_rfl) (by kernel_rfl) ?g0_r2 ?gop_r2 ?gend_r2
   case g0_r2=>exact⟨N3.e (Ext.drewN _ 1),by rw[HK2.out];exact Nat.le_refl _,iI3.drewN 1,EB.ext iE3 (Ext.drewN _ 1)⟩
   case gop_r2 =>
    refine⟨?o0,?_,?_,?o3,?o4,?o5,?o6,?o7,trivial⟩ <;> (intro kx xs wx hk hG hD hI Qo Kx hK hQo;simp only[patchS,Nat.reduceAdd,Nat.reduceEqDiff,↓reduceIte]at hQo⊢)
    case o0 =>
     clear hD hI;go_wp2_with (refine wpList_cload 106 _ rfl rfl hG.2.2.2 rfl _ Tryz.underlying106 rfl 11 size_Edges (edC_size HEok.out.ln) ?_)
     exact hK.out _ _ ⟨rfl,hG,kkp⟩
    case o3 =>
     rw[ddq (hD 1 rfl),ddq (hD 2 rfl)]at hQo⊢;clear hD hI;go_wp2;exact hK.out _ _ ⟨rfl,hG,kkp⟩
    case o4 =>
     rw[ddq (hD 3 rfl)]at hQo⊢;clear hD hI;have cx:=hG.1.bm.cell (i:=3+k) (by rw[Hms1.out];omega);rw[Hmn.out]at cx;go_wp2;exact hK.out _ _ ⟨rfl,hG,kkp⟩
    case o5 =>
     rw[ddq (hD 0 rfl),ddq (hD 4 rfl)]at hQo⊢;clear hD hI;go_wp2_with fail
     refine(predict_any E md _ HEok.out (by omega)).mono ?_
     rintro e w9 ⟨rfl,e9⟩
     rw[←HPR.out];go_wp2;exact hK.out _ _ ⟨rfl,⟨hG.1.e e9,Nat.le_trans hG.2.1 e9.size,hG.2.2.1.ext e9,EB.ext hG.2.2.2 e9⟩,fun i _ _ _ own ys h=>Hext.out i own ys _ _ e9 h⟩
    case o6 =>
     clear hD hI;have ea:=Ext.alloc wx (.cells (ic (List.replicate 16 0)) 29);go_wp2;exact hK.out _ _ ⟨⟨_,_,rfl,hG.2.1,IB.new _ _ (List.replicate 16 0),by simp⟩,⟨hG.1.e ea,Nat.le_trans hG.2.1 ea.size,hG.2.2.1.ext ea,EB.ext hG.2.2.2 ea⟩,fun i _ _ _ own ys h=>Hext.out i own ys _ _ ea h⟩
    case o7 =>
     have d6:IA wx K2 (xs 6):=hD 6 rfl;have d5:_=_:=hD 5 rfl;clear hD hI;generalize hx6:xs 6=y6 at *;have Hx6:=Lib.hid hx6;clear hx6;generalize xs 5=y5 at *;obtain⟨b6,us6,rfl,hb6,z6,l6⟩:=d6;subst d5;refine wpList_istore 29 _ _ rfl rfl z6 0 16 rfl _ rfl PR rfl size_A16 HPl.out (by rw[l6];omega) ?_;intro w9 i9 g9;rw[spl_all (by rw[HPl.out,l6])]at i9;have hst:∀(wy:World),StI wx wy→Stbn 8 7 [[],[],[],[1,2],[1,2,3],[0,1,2,3,4],[],[0,1,2,3,4,5,6]] (fun i own ys wx=>match i with|0=>own= .agg (edC E)|1=>own= .int .i64 (k:Nat)|2=>own= .pointer (some ⟨M,3,none⟩)|3=>own= .pointer (some ⟨M,3+k,none⟩)|4=>own= .int .i64 (md:Nat)|5=>own= .agg (ic PR)|6=>IA wx K2 own|7=>IS wx K2 (ys 6) PR|_=>True) wx wy:=by
      intro wy hy ii hii hne hc own ys h
      match ii,h with
      | 0,h|1,h|2,h|3,h|4,h|5,h=>exact h
      | 6,h=>exact h.stI hy
      | 7,h=>exact absurd rfl hne
      | _+8,_=>trivial
     exact hQo undef _ (hK.out _ _ ⟨⟨b6,Hx6.out,hb6,i9⟩,⟨hG.1.loc g9 hb6 LT2.out,Nat.le_trans hG.2.1 g9.size,hG.2.2.1.gr g9 (by simp;omega),EB.gr hG.2.2.2 g9 (by simp;omega)⟩,hst _ ⟨b6,_,_,g9,z6,i9,HPl.out⟩⟩)
    all_goals
     clear hD hI;go_wp2;exact hK.out _ _ ⟨rfl,hG,kkp⟩
   clear Hext;intro xs wx hV hG;have d7:IS wx K2 ((xs 6)) PR:=hV 7 (by decide);clear hV;simp only[patchS,Nat.reduceAdd,Nat.reduceEqDiff,↓reduceIte];generalize xs 0=y0,xs 1=y1,xs 2=y2,xs 3=y3,xs 4=y4,xs 5=y5,xs 6=y6,xs 7=y7 at *
   replace hG:NS w g l c1 t.w t.h a n c W H B O M Z (ms.set (3+k) (md:Int)) wx∧K2≤wx.heap.size∧IB wx bI 29 U∧EB wx bE E:=hG
   obtain⟨bP,rfl,hbP,iP⟩:=d7;obtain⟨N4,hK4,iI4,iE4⟩:=hG;clear N3 iI3 iE3 hK4 iE4;have hMK2:=LT2.out.2.2.2.2.1;go_wp2_with (first|(refine wpList_iload 29 _ rfl rfl iI4 0 16 rfl _ Tryz.underlying29 rfl size_A16 (by rw[HUl.out];omega) _ (by rw[sub_all _ _ (HUl.out)]) ?_)|(refine wpList_iload 29 _ rfl rfl iP 0 16 rfl _ Tryz.underlying29 rfl size_A16 (by rw[HPl.out];omega) _ (by rw[sub_all _ _ (HPl.out)]) ?_))
   refine(difference_any U PR _ HUl.out HPl.out HUb.out HPb.out).mono ?_
   rintro e w12 ⟨rfl,e12⟩
   have N5:=N4.e e12;have iP5:=iP.ext e12;clear N4 iI4 iP e12;go_wp2_with fail
   refine(impl_CodeBlock_any (dif U PR) q _ (hT.ext N5.ex) (dif_len _ _) Hdr.out hq).mono ?_
   rintro e w13 ⟨rfl,e13⟩
   rw[←HL.out];have N6:=N5.e e13;have iP6:=iP5.ext e13;have ib6:=N6.bm;clear N5 iP5 e13;go_wp2_with (refine wpList_istore 29 _ _ rfl rfl ib6 (7+k*16) 16 rfl _ rfl L rfl size_A16 HLl.out (by rw[Hms1.out];omega) ?_;intro w14 i14 g14;refine Hid.out ?_)
   rw[Hst2.out]at i14;have N7:=N6.mac g14 i14;have iP7:=iP6.gr g14 (by simp;omega);clear N6 iP6 ib6 i14 g14;refine Lib.hid ?_;go_wp2_with fail
   refine wp_region_invL (by kernel_rfl) [(95,0),(96,1),(97,2),(98,3),(99,4),(100,5),(101,6),(102,7),(103,8),(104,9),(105,10),(106,11),(107,12),(108,13),(109,14)] [[],[],[],[1,2],[],[],[4,5],[],[],[],[8,9],[8,9,10],[],[8,9,10,11,12],[0,1,2,3,4,5,6,7,8,9,10,11,12,13]] (fun i own ys wx=>match i with|0=>own= .agg #[.int .i64 W,.int .i64 H,.slice (some ⟨g,0,none⟩) l c1]|1=>own= .int .i64 (x:Nat)|2=>own= .int .i64 ((k:Int)%2*4)|3=>own= .int .i64 (xi:Nat)|4=>own= .int .i64 (y:Nat)|5=>own= .int .i64 ((k:Int)/2*4)|6=>own= .int .i64 (yj:Nat)|7=>own= .agg (ic PR)|8=>own= .int .i64 (k:Nat)|9=>own= .pointer (some ⟨M,7,none⟩)|10=>own= .pointer (some ⟨M,7+k*16,none⟩)|11=>own= .agg (ic L)|12=>own= .int .i64 (q:Nat)|13=>own= .agg (ic D)|14=>True|_=>True) (fun Lx wx=>NS w g l c1 t.w t.h a n c W H B O M (if Lx 14=true then Z1 else Z) ms2 wx∧IB wx bP 29 PR) (by kernel_rfl) (by kernel_rfl) (by kernel_rfl) ?g0_r3 ?gop_r3 ?gend_r3
   case g0_r3=>exact⟨N7.e (Ext.drewN _ 1),iP7.drewN 1⟩
   case gop_r3 =>
    refine⟨?o0,?_,?_,?o3,?_,?_,?o6,?o7,?_,?_,?o10,?o11,?_,?o13,?o14,trivial⟩ <;> (intro Lx xs wx hG hl ha hb hD hI Qo Kx hK hQo;simp only[patchS,Nat.reduceAdd,Nat.reduceEqDiff,↓reduceIte]at hQo⊢)
    case o0 =>
     clear hl ha hb hD hI;obtain⟨-,k0,k1,k2,-⟩:=bx3 hG.1.br;go_wp2;exact hK.out _ _ ⟨rfl,hG,kkp⟩
    case o3 =>
     clear hl ha hb;rw[ddq (hD 1 rfl),ddq (hD 2 rfl)]at hQo⊢;clear hD hI;go_wp2;exact hK.out _ _ ⟨by rw[←Hxi.out],hG,fun _ _ _ _ _ _ h=>h⟩
    case o6 =>
     clear hl ha hb;rw[ddq (hD 4 rfl),ddq (hD 5 rfl)]at hQo⊢;clear hD hI;go_wp2;exact hK.out _ _ ⟨by rw[←Hyj.out],hG,fun _ _ _ _ _ _ h=>h⟩
    case o7 =>
     clear hl ha hb hD hI;go_wp2_with (refine wpList_iload 29 _ rfl rfl hG.2 0 16 rfl _ Tryz.underlying29 rfl size_A16 (by rw[HPl.out];omega) _ (by rw[sub_all _ _ (HPl.out)]) ?_)
     exact hK.out _ _ ⟨rfl,hG,kkp⟩
    case o10 =>
     clear hl ha hb;rw[ddq (hD 8 rfl),ddq (hD 9 rfl)]at hQo⊢;clear hD hI;go_wp2;exact hK.out _ _ ⟨rfl,hG,kkp⟩
    case o11 =>
     clear hl ha hb;rw[ddq (hD 10 rfl)]at hQo⊢;clear hD hI;go_wp2_with (refine wpList_iload 29 _ rfl rfl hG.1.bm (7+k*16) 16 rfl _ Tryz.underlying29 rfl size_A16 (by rw[Hm2l.out];omega) _ (by rw[Hsl.out]) ?_)
     exact hK.out _ _ ⟨rfl,hG,kkp⟩
    case o13 =>
     clear hl ha hb;rw[ddq (hD 11 rfl),ddq (hD 12 rfl)]at hQo⊢;clear hD hI;go_wp2_with fail
     refine(DecodeBlock_any L q _ (hT.ext hG.1.ex) HLl.out HLb.out hq).mono ?_
     rintro e w9 ⟨rfl,e9⟩
     rw[←HD.out];go_wp2;exact hK.out _ _ ⟨rfl,⟨hG.1.e e9,hG.2.ext e9⟩,fun _ _ _ _ _ _ h=>h⟩
    case o14 =>
     have l14:Lx 14=false:=hl;clear hl ha hb;rw[ddq (hD 0 rfl),ddq (hD 3 rfl),ddq (hD 6 rfl),ddq (hD 7 rfl),ddq (hD 13 rfl)]at hQo⊢;clear hD hI;rw[l14,ifF]at hG;go_wp2_with fail
     refine(put_any W H xi yj w.heap.size g l c1 Z PR D _ HPl.out HDl.out HPb.out HDb.out hW32 (by omega) (by omega) hI (by omega) hG.1.own).mono ?_
     rintro e w9 ⟨rfl,o9,g9⟩
     go_wp2;rw[Hst3.out]at o9;exact hK.out _ _ ⟨trivial,⟨hG.1.put g9 o9,hG.2.gr g9 (by have:=LT2.out.2.2.1;simp;omega)⟩,fun _ _ _ _ _ _ h=>h⟩
    all_goals
     clear hl ha hb hD hI;go_wp2;exact hK.out _ _ ⟨rfl,hG,kkp⟩
   intro xs wx hV hG0;obtain⟨Lx,hL,hG⟩:=hG0;have l14:Lx 14=true:=hL 14 (by decide);clear hL hV;simp only[patchS,Nat.reduceAdd,Nat.reduceEqDiff,↓reduceIte];generalize xs 0=y0,xs 1=y1,xs 2=y2,xs 3=y3,xs 4=y4,xs 5=y5,xs 6=y6,xs 7=y7,xs 8=y8,xs 9=y9,xs 10=y10,xs 11=y11,xs 12=y12,xs 13=y13,xs 14=y14 at *
   replace hG:NS w g l c1 t.w t.h a n c W H B O M (if Lx 14=true then Z1 else Z) ms2 wx∧IB wx bP 29 PR:=hG
   rw[l14,ifT]at hG;clear N7 iP7;have HG:=Lib.hid hG;clear hG;go_wp2;go_roundw
   case rel=>exact⟨k+1,by omega,by go_num,by rw[←HZ1.out,←HM2.out];exact HG.out.1⟩
   case measure=>simp[intOf];omega
  ·obtain rfl:k=4:=by omega
   have Hzl:=Lib.hid (HMl.out 4 (by omega));have hbM:=N0.bm;have hbz:=N0.bz;have hex:=N0.ex;have hh1:=N0.h1;clear N0;go_wp2_with (first|(refine wpList_iload 32 _ rfl rfl hbM 0 71 rfl _ Tryz.underlying32 rfl size_Macro (by rw[Hzl.out];omega) _ (by rw[sub_all _ _ (Hzl.out)]) ?_)|(refine wpList_istore 32 _ _ rfl rfl hbz 0 71 rfl _ rfl (inMac t ⟨W,H,px⟩ x y q top 4).zs rfl size_Macro (Hzl.out) (by simp[zl]) ?_;intro w6 p6 g6;refine Hid.out ?_))
   rw[spl_all (by rw[Hzl.out,zl_len])]at p6;have E6:Ext w w6:=Ext.grown hex g6 (fun q hq=>by cases hq;omega);refine Lib.hid ?_;go_wp2;exact bodyPost_ret (v := .agg (ic (inMac t ⟨W,H,px⟩ x y q top 4).zs)) (results_cell_row rfl _ _ (B+1+1) 32 (ic (inMac t ⟨W,H,px⟩ x y q top 4).zs) (0,0) _ rfl p6 Tryz.underlying32 rfl (by rw[ic_size,Hzl.out];exact size_Macro)) rfl ⟨rfl,E6⟩
theorem nth_subZ (zs:List Int) (i n t:Nat) (h:t<n):nth (sub zs i n) t=nth zs (i+t):=by
 simp[nth,sub,List.getD,List.getElem?_take,h]
theorem nth_splL (zs ys:List Int) {j t:Nat} (h:t<j) (hj:j≤zs.length):nth (spl zs j ys) t=nth zs t:=by
 simp only[nth,spl,List.getD];rw[List.append_assoc,List.getElem?_append_left (by simp;omega),List.getElem?_take,if_pos h]
theorem sub_spl_lt {zs ys:List Int} {i j n:Nat} (h:i+n≤j) (hj:j+ys.length≤zs.length):sub (spl zs j ys) i n=sub zs i n:=by
 have l1:(sub (spl zs j ys) i n).length=n:=by simp[sub,spl_len hj];omega
 have l2:(sub zs i n).length=n:=by simp[sub];omega
 refine ext_nth (by rw[l1,l2]) fun t ht => ?_
 rw[l1]at ht;rw[nth_subZ _ _ _ _ ht,nth_subZ _ _ _ _ ht,nth_splL _ _ (by omega) (by omega)]
theorem inS_md (t p:Pic) (x y q:Nat) (top:Int) {k:Nat} : ∀ n:Nat,k<n→n≤4→nth (inS t p x y q top n).2.1 k=(inM t p x y top (inS t p x y q top k).1 k:Nat)
 | 0,h,_=>by omega
 | n+1,h,h4=>by
  show nth (List.set _ _ _) k=_
  by_cases e:k=n
  ·subst e;rw[nth_set_same _ _ _ (by rw[inS_modes];omega)]
  ·rw[nth_set_ne _ _ _ _ (by omega),inS_md t p x y q top n (by omega) (by omega)]
theorem inL_len (t p:Pic) (x y q:Nat) (top:Int) (Z:List Int) (k:Nat):(inL t p x y q top Z k).length=16:=cod_len _ _
theorem inS_lvs (t p:Pic) (x y q:Nat) (top:Int) {k:Nat} : ∀ n:Nat,k<n→n≤4→sub (inS t p x y q top n).2.2 (k*16) 16=inL t p x y q top (inS t p x y q top k).1 k
 | 0,h,_=>by omega
 | n+1,h,h4=>by
  have hl:=inS_lv t p x y q top n (by omega);have h16:=inL_len t p x y q top (inS t p x y q top n).1 n;show sub (spl _ _ _) _ _=_
  by_cases e:k=n
  ·subst e;exact sub_spl (by rw[hl,h16];omega) h16
  ·rw[sub_spl_lt (by omega) (by rw[hl,h16];omega),inS_lvs t p x y q top n (by omega) (by omega)]
theorem intL_sub (t r:Pic) (x y:Nat) (vx vy:Int) (q:Nat) {k:Nat} : ∀ n:Nat,k<n→n≤4→sub (intL t r x y vx vy q n) (k*16) 16=cod (dif (prt t ((x+k%2*4:Nat):Int) ((y+k/2*4:Nat):Int)) (pof (blkL r x y vx vy) (k%2*4) (k/2*4))) q
 | 0,h,_=>by omega
 | n+1,h,h4=>by
  have hl:=intL_len t r x y vx vy q (k:=n) (by omega);show sub (spl _ _ _) _ _=_
  by_cases e:k=n
  ·subst e;exact sub_spl (by rw[hl,cod_len];omega) (cod_len _ _)
  ·rw[sub_spl_lt (by omega) (by rw[hl,cod_len];omega),intL_sub t r x y vx vy q n (by omega) (by omega)]
theorem nthN_mode (t p:Pic) (x y q:Nat) (top:Int) {j:Nat} (hj:j<4):0≤nth (inS t p x y q top 4).2.1 j∧nth (inS t p x y q top 4).2.1 j≤4:=by
 rw[inS_md t p x y q top 4 hj (Nat.le_refl _)];have h:=bst_le (inU t x y j) (inE p x y top (inS t p x y q top j).1 j);unfold inM;omega
theorem inMac_valid {t p:Pic} (ht:t.valid) (hp:p.valid) (x y q:Nat) (hq:q<16) (top:Int):(inMac t p x y q top 4).valid:=by
 refine⟨⟨by show(0:Int)≤2;decide,by show(2:Int)≤2;decide⟩,⟨by show(-16:Int)≤0;decide,by show(0:Int)≤16;decide,by show(-16:Int)≤0;decide,by show(0:Int)≤16;decide⟩,fun _=>⟨rfl,rfl⟩,fun h=>absurd rfl h,fun _ j hj=>nthN_mode t p x y q top hj,fun h => ?_,?_⟩
 ·exact absurd (show(2:Int)=0 from h) (by decide)
 ·refine(inB_blocks (zs:=(inS t p x y q top 4).2.2) (inS_lv t p x y q top 4 (Nat.le_refl _))).2 ?_;intro k hk;show inB 4080 (sub (inS t p x y q top 4).2.2 (k*16) 16)=true;rw[inS_lvs t p x y q top 4 hk (Nat.le_refl _)];have hE:=edg_ok (inS_valid t hp x y q top k) ((x+k%2*4:Nat):Int) ((y+k/2*4:Nat):Int) top;have hP:smp (inP t p x y top (inS t p x y q top k).1 k):=prd_smp _ hE;exact cod_rng (dif_len _ _) (dif_rng (prt_smp ht _ _) hP (prt_len _ _ _) (prd_len _ _)) hq
theorem side_fit {W x:Nat} {w:Int} (hw:side w) (hW:w=W) (hx:(x:Int)<w) (hx8:(x:Int)%8=0):x+8≤W:=by
 have:=hw.2.2;omega
theorem macI_valid {t r:Pic} (ht:t.valid) (hr:r.valid) (x y:Nat) {vx vy:Int} (hv:vv vx vy) {q:Nat} (hq:q<16):(macI vx vy (intL t r x y vx vy q 4)).valid:=by
 refine⟨⟨by show(0:Int)≤1;decide,by show(1:Int)≤2;decide⟩,hv,fun h=>absurd rfl h,fun _=>rfl,fun h=>absurd (show(1:Int)=2 from h) (by decide),fun h=>absurd (show(1:Int)=0 from h) (by decide),?_⟩;refine(inB_blocks (zs:=intL t r x y vx vy q 4) (intL_len _ _ _ _ _ _ _ (Nat.le_refl _))).2 ?_;intro k hk;show inB 4080 (sub (intL t r x y vx vy q 4) (k*16) 16)=true;rw[intL_sub t r x y vx vy q 4 hk (Nat.le_refl _)];have hB:=blkL_smp hr x y vx vy;exact cod_rng (dif_len _ _) (dif_rng (prt_smp ht _ _) (pof_smp hB (blkL_len _ _ _ _ _) (by omega) (by omega)) (prt_len _ _ _) (pof_len _ _ _)) hq
theorem impl_IntraMacro_any (t p:Pic) (x y q top:Int) (a b:Option Addr) (c d n l:Nat) (w:World) (hT:TabQ w) (hn:n=t.px.length) (hl:l=p.px.length) (nc:n≤9223372036854775807) (lc:l≤9223372036854775807) (s:Sl w a n (t.px.map (Value.int .i64))) (u:Sl w b l (p.px.map (Value.int .i64))) :
 Calls Tryz.prog 24 #[.agg #[.int .i64 t.w,.int .i64 t.h,.slice a n c],.agg #[.int .i64 p.w,.int .i64 p.h,.slice b l d],.int .i64 x,.int .i64 y,.int .i64 q,.int .i64 top] w fun e w'=>e= .returned (.agg (ic (intraP t p x y q top).zs))∧Ext w w':=by
 by_cases ho:okN t p x y q top
 ·rw[intraP_yes ho];obtain⟨h0,h1,h2,h3⟩:=ho;have hx:=h1.2;have hw:=h0.1.1;have hh:=h0.1.2.1;have hpw:=h0.2.1.1;have hph:=h0.2.1.2.1;have hsm:=h0.2.2;obtain⟨pw,ph,px⟩:=p;simp only at hpw hph hsm hl u;obtain⟨W,rfl⟩:∃ v:Nat,pw=(v:Int):=⟨pw.toNat,by have:=hpw.1;omega⟩;obtain⟨H,rfl⟩:∃ v:Nat,ph=(v:Int):=⟨ph.toNat,by have:=hph.1;omega⟩;have h:=impl_IntraMacro_yes_5 t W H x.toNat y.toNat px q.toNat top a b c d n l w hT hn hl nc lc s u h0.1 h0.2.1 (by have:=hw.2.2;have:=hpw.2.2;omega) (by have:=hh.2.2;have:=hph.2.2;omega) (by have:=hpw.2.1;omega) (by have:=hph.2.1;omega) (by omega) h3.1 h0 (by rw[show((x.toNat:Nat):Int)=x by omega,show((y.toNat:Nat):Int)=y by omega];exact hx) (by omega) h3.1 (by omega);rw[show((x.toNat:Nat):Int)=x by omega,show((y.toNat:Nat):Int)=y by omega,show((q.toNat:Nat):Int)=q by omega]at h;exact h
 ·rw[intraP_no ho,mac0_zz]
  by_cases h0:alikeP t p
  ·by_cases h1:(0≤x)∧(x<t.w)∧(x%8=0)∧(0≤y)∧(y<t.h)∧(y%8=0)
   ·by_cases h2:0≤q∧q≤15
    ·by_cases h3:0≤top
     ·by_cases h4:top≤y
      ·exact absurd ⟨h0,⟨h0.1,h1⟩,h2,h3,h4⟩ ho
      ·exact impl_IntraMacro_no_4 t p x y q top a b c d n l w hn hl nc lc s u h0 h1 h2 h3 h4
     ·exact impl_IntraMacro_no_3 t p x y q top a b c d n l w hn hl nc lc s u h0 h1 h2 h3
    ·exact impl_IntraMacro_no_2 t p x y q top a b c d n l w hn hl nc lc s u h0 h1 h2
   ·exact impl_IntraMacro_no_1 t p x y q top a b c d n l w hn hl nc lc s u h0 h1
  ·exact impl_IntraMacro_no_0 t p x y q top a b c d n l w hn hl nc lc s u h0
theorem l8Intra_yes (t:Pic) (W H x y:Nat) (px:List Int) (q:Nat) (top:Int) (a b:Option Addr) (c d n l:Nat) (w:World) (hn:n=t.px.length) (hl:l=px.length) (nc:n≤9223372036854775807) (lc:l≤9223372036854775807) (s:Sl w a n (t.px.map (Value.int .i64))) (u:Sl w b l (px.map (Value.int .i64))) (htv:t.valid) (hpv:Pic.valid ⟨W,H,px⟩) (hx8:x+8≤W) (hy8:y+8≤H) (hW32:W≤32) (hH32:H≤32) (hq:q<16) (ht0:0≤top) :
 Calls Tryz.prog 112 #[.agg #[.int .i64 t.w,.int .i64 t.h,.slice a n c],.agg #[.int .i64 W,.int .i64 H,.slice b l d],.int .i64 (x:Nat),.int .i64 (y:Nat),.int .i64 (q:Nat),.int .i64 top] w fun e w'=>e= .returned (.agg (ic (inMac t ⟨W,H,px⟩ x y q top 4).zs))∧Ext w w':=by
 have HN:=Lib.hid hn;have HL0:=Lib.hid hl;have hnW:l=W*H:=by
  have h1:=hpv.2.2.1;simp only[←Int.natCast_mul]at h1;rw[hl];exact Int.ofNat.inj h1
 have hn1k:l≤1024:=by rw[hnW];exact Nat.mul_le_mul hW32 hH32
 have inn:∀ u v:Nat,u+4≤H→v+4≤W→(u+3)*W+v+3<l:=fun u v h1 h2=>by
  have h3:=Nat.mul_le_mul_right W (show u+4≤H by omega);rw[Nat.add_mul,Nat.mul_comm H W,←hnW]at h3;rw[Nat.add_mul];omega
 have hl0:0<l:=by have:=inn 0 0 (by omega) (by omega);omega
 have Inn:=Lib.hid inn;have HV:=Lib.hid (fun k=>inS_valid t hpv x y q top k);have HLn:=Lib.hid (fun k=>show l=(inS t ⟨W,H,px⟩ x y q top k).1.length by rw[inS_len,hl]);have HMl:=Lib.hid (fun k (hk:k≤4)=>Mac.zs_len (inMac_ok t ⟨W,H,px⟩ x y q top hk));have HL:=Lib.hid (show l=(Pic.mk W H px).px.length from hl);clear hn hl hpv hnW inn;have a0_1:=Ext.alloc (w.alloc (.cells #[.int .i64 t.w,.int .i64 t.h,.slice a n c] 25)) (.cells #[.int .i64 W,.int .i64 H,.slice b l d] 25);have a0_2:=Ext.alloc ((w.alloc (.cells #[.int .i64 t.w,.int .i64 t.h,.slice a n c] 25)).alloc (.cells #[.int .i64 W,.int .i64 H,.slice b l d] 25)) (.cells (ic (zl 71)) 32);have X0_0:=a0_2.blk (a0_1.blk (blk_new w (.cells #[.int .i64 t.w,.int .i64 t.h,.slice a n c] 25)));have a1_2:=Ext.alloc ((w.alloc (.cells #[.int .i64 t.w,.int .i64 t.h,.slice a n c] 25)).alloc (.cells #[.int .i64 W,.int .i64 H,.slice b l d] 25)) (.cells (ic (zl 71)) 32);have X1_0:=a1_2.blk (blk_new (w.alloc (.cells #[.int .i64 t.w,.int .i64 t.h,.slice a n c] 25)) (.cells #[.int .i64 W,.int .i64 H,.slice b l d] 25));have X2_0:=IB.new ((w.alloc (.cells #[.int .i64 t.w,.int .i64 t.h,.slice a n c] 25)).alloc (.cells #[.int .i64 W,.int .i64 H,.slice b l d] 25)) 32 (zl 71);have E_0:=((Ext.alloc w (.cells #[.int .i64 t.w,.int .i64 t.h,.slice a n c] 25)).trans (Ext.alloc (w.alloc (.cells #[.int .i64 t.w,.int .i64 t.h,.slice a n c] 25)) (.cells #[.int .i64 W,.int .i64 H,.slice b l d] 25))).trans (Ext.alloc ((w.alloc (.cells #[.int .i64 t.w,.int .i64 t.h,.slice a n c] 25)).alloc (.cells #[.int .i64 W,.int .i64 H,.slice b l d] 25)) (.cells (ic (zl 71)) 32));simp only[World.size_alloc]at X1_0 X2_0;clear a0_1 a0_2 a1_2;obtain⟨B,hB⟩:∃ B,B=w.heap.size:=⟨_,rfl⟩;have ia:=IB.new (((w.alloc (.cells #[.int .i64 t.w,.int .i64 t.h,.slice a n c] 25)).alloc (.cells #[.int .i64 W,.int .i64 H,.slice b l d] 25)).alloc (.cells (ic (zl 71)) 32)) 32 (zl 71);have ea:=Ext.alloc (((w.alloc (.cells #[.int .i64 t.w,.int .i64 t.h,.slice a n c] 25)).alloc (.cells #[.int .i64 W,.int .i64 H,.slice b l d] 25)).alloc (.cells (ic (zl 71)) 32)) (.cells (ic (zl 71)) 32);have Y0:=ea.blk X0_0;have Y1:=ea.blk X1_0;have Y3:=X2_0.ext ea;have F0:=E_0.trans ea;simp only[World.size_alloc]at ia;clear X0_0 X1_0 X2_0 E_0 ea;go_enter Tryz.func112,Tryz.ntmps112
 go_wp2_with (first|(refine wpList_iallocz 32 rfl rfl 71 zeroq_M ?_;(try simp only[World.size_alloc]))|(refine wpList_istore 32 _ _ rfl rfl ia 0 71 rfl _ rfl (Mac.zs ⟨2,0,0,zero4,zl 64⟩) (by exact inMac_build) size_Macro (Mac.zs_len ⟨rfl,zl_len 64⟩) (by simp[zl]) ?_;intro w5 i5 g5;refine Hid.out ?_))
 rw[spl_all (by rw[Mac.zs_len ⟨rfl,zl_len 64⟩,zl_len])]at i5;try simp only[World.size_alloc]
 rw[←hB]at i5 g5 Y0 Y1 Y3⊢;have hwB:w.heap.size≤B:=by omega
 have HB:=Lib.hid hB;clear hB ia;obtain⟨M,hM⟩:∃ M,M=B+1+1+1:=⟨_,rfl⟩;rw[←hM]at i5 g5⊢;have hBM:B+1+1<M:=by omega
 have HM:=Lib.hid hM;clear hM;have Z0:=blk_gr Y0 g5 (by simp;omega);have Z1:=blk_gr Y1 g5 (by simp;omega);have Z3:=Y3.gr g5 (by simp;omega);have F1:Ext w w5:=Ext.grown F0 g5 (fun k e=>by cases e;omega);clear Y0 Y1 Y3 F0 g5;refine Lib.hid ?_;obtain⟨-,k1,k2,k3,-⟩:=bx3 Z0;go_wp2_with fail
 refine(l7Block_any t x y 0 0 a c n _ htv HN.out (s.ext F1) (by omega) (by omega) (by omega) (by omega) (by omega) (by omega) (by omega) (by omega)).mono ?_
 rintro e w4 ⟨a4,c4,rfl,o4,e4⟩
 have hM5:=i5.lt;have S4b:∀ z,a4=some z→M<z.block∧z.block<w4.heap.size:=fun z hz=>by
  have:=o4.lt z.block (by rw[hz];rfl);omega
 have S4:=Sl.of_owns o4;have G0:=e4.blk Z0;have G1:=e4.blk Z1;have G3:=Z3.ext e4;have j5:=i5.ext e4;have F2:=F1.trans e4;clear Z0 Z1 Z3 F1 i5 e4 o4 k1 k2 k3;obtain⟨-,k1,k2,k3,-⟩:=bx3 G1;go_wp2_with fail
 refine(l8Copy_any W H b d l px _ (by omega) hl0 (u.ext F2)).mono ?_
 rintro e wa ⟨a1,c1,rfl,own1,e2⟩
 have hgo:∃ g,a1=some ⟨g,0,none⟩∧g<wa.heap.size∧w4.heap.size≤g:=by
  rcases own1.2 with⟨-,h0⟩|⟨g,cc,cur,hv,hb,hb2,-⟩
  ·omega
  ·simp only[Value.slice.injEq]at hv;exact⟨g,hv.1,lt_of_block hb2,hb⟩
 obtain⟨g,rfl,hg1,hg2⟩:=hgo;have hMs:=j5.lt;have r0:=e2.blk G0;have r2:=G3.ext e2;have r5:=j5.ext e2;have S5:=S4.ext e2;have E2:=F2.trans e2;have own0:=owns_mono own1 F2.size;clear G0 G1 G3 j5 F2 e2 own1 k1 k2 k3 S4;have a5:=Ext.alloc wa (.cells #[.int .i64 W,.int .i64 H,.slice (some ⟨g,0,none⟩) l c1] 25);have z0:=a5.blk r0;have z2:=r2.ext a5;have z5:=r5.ext a5;have S6:=S5.ext a5;have z4:=blk_new wa (.cells #[.int .i64 W,.int .i64 H,.slice (some ⟨g,0,none⟩) l c1] 25);have own2:=owns_ext own0 a5;have E3:=E2.trans a5;have hO1:=r5.lt;obtain⟨O,hOe⟩:∃ O,O=wa.heap.size:=⟨_,rfl⟩;rw[←hOe]at z4 hg1 hO1;have HO2:=Lib.hid hOe;clear r0 r2 r5 own0 E2 a5 S5;go_upto_region 4 with fail
 rw[←hOe];clear hOe;generalize wa.alloc (.cells #[.int .i64 W,.int .i64 H,.slice (some ⟨g,0,none⟩) l c1] 25)=w2 at *;have NN:NS w g l c1 t.w t.h a n c W H B O M px (Mac.zs ⟨2,0,0,zero4,zl 64⟩) w2 :=
  ⟨E3,own2,z0,z4,z2,z5,⟨hwB,by omega,by omega,by omega⟩,⟨by omega,by omega,by omega,by omega,by omega,by omega,by omega⟩⟩
 have SB:=Lib.hid (show ∀ z,a4=some z→z.block≠M∧z.block≠g from fun z hz=>by have:=S4b z hz;omega);clear z0 z2 z4 z5 own2 E3 S4b;go_wp2_with fail
 go_loopw [16] (fun i wr=>∃ k:Nat,k≤4∧i= .int .i64 k∧NS w g l c1 t.w t.h a n c W H B O M (inS t ⟨W,H,px⟩ x y q top k).1 (inMac t ⟨W,H,px⟩ x y q top k).zs wr∧Hid (Sl wr a4 64 ((blkL t x y 0 0).map (Value.int .i64)))) (fun i _=>4-(intOf i).toNat)
 case atStart=>exact⟨0,by omega,rfl,NN,Lib.hid S6⟩
 case round =>
  obtain⟨k,hk,rfl,N0,S0⟩:=hrel;clear NN S6
  by_cases hlt:k<4
  ·have hd:decide ((k:Int)<4)=true:=by simp;omega
   have hpb:=pof_blk t (x:Int) (y:Int) (i:=k%2*4) (j:=k/2*4) (by omega) (by omega);rw[←Int.natCast_add,←Int.natCast_add]at hpb;have Hpb:=Lib.hid hpb;clear hpb;have hZv:=HV.out k;have hZn:=HLn.out k;have hms:=HMl.out k (by omega);have hst1:=inMac_md t ⟨W,H,px⟩ x y q top hlt;have hst2:=inMac_lv t ⟨W,H,px⟩ x y q top hlt;have hst3:=show putS (inS t ⟨W,H,px⟩ x y q top k).1 W (x+k%2*4) (y+k/2*4) (inP t ⟨W,H,px⟩ x y top (inS t ⟨W,H,px⟩ x y q top k).1 k) (dec (inL t ⟨W,H,px⟩ x y q top (inS t ⟨W,H,px⟩ x y q top k).1 k) q) 16=(inS t ⟨W,H,px⟩ x y q top (k+1)).1 from rfl;rw[←hst1]at hst2;clear hst1;unfold inL inP inM inE inU at hst2 hst3;simp only at hst2 hst3;obtain⟨Z,hZ⟩:∃ Z,Z=(inS t ⟨W,H,px⟩ x y q top k).1:=⟨_,rfl⟩;obtain⟨Z1,hZ1⟩:∃ Z,Z=(inS t ⟨W,H,px⟩ x y q top (k+1)).1:=⟨_,rfl⟩;obtain⟨ms,hms0⟩:∃ m,m=(inMac t ⟨W,H,px⟩ x y q top k).zs:=⟨_,rfl⟩;obtain⟨ms2,hms2⟩:∃ m,m=(inMac t ⟨W,H,px⟩ x y q top (k+1)).zs:=⟨_,rfl⟩;rw[←hZ]at N0 hZv hZn hst2 hst3;rw[←hms0]at N0 hms hst2;rw[←hZ1]at hst3;rw[←hms2]at hst2;have HZ1:=Lib.hid hZ1;have HM2:=Lib.hid hms2;have HZv:=Lib.hid hZv;have HZn:=Lib.hid hZn;have Hms:=Lib.hid hms;obtain⟨xi,hxi⟩:∃ v,v=x+k%2*4:=⟨_,rfl⟩;obtain⟨yj,hyj⟩:∃ v,v=y+k/2*4:=⟨_,rfl⟩;rw[←hxi,←hyj]at hst2 hst3;have hxi4:xi+4≤W:=by omega
   have hyj4:yj+4≤H:=by omega
   have Hxi:=Lib.hid (show(x:Int)+(k:Int)%2*4=((xi:Nat):Int) by omega);have Hyj:=Lib.hid (show(y:Int)+(k:Int)/2*4=((yj:Nat):Int) by omega);have hI:=Inn.out yj xi hyj4 hxi4;have hEok:=edg_ok hZv (xi:Int) (yj:Int) top;have hUs:=prt_smp htv (xi:Int) (yj:Int);have hUl:=prt_len t (xi:Int) (yj:Int);obtain⟨U,hU⟩:∃ U,U=prt t (xi:Int) (yj:Int):=⟨_,rfl⟩;obtain⟨E,hE⟩:∃ E,E=edg ⟨W,H,Z⟩ (xi:Int) (yj:Int) top:=⟨_,rfl⟩;rw[←hU]at hst2 hst3 hUs hUl;rw[←hE]at hst2 hst3 hEok;have hmd4:=bst_le U E;obtain⟨md,hmd⟩:∃ m,m=bst U E:=⟨_,rfl⟩;rw[←hmd]at hst2 hst3 hmd4;have hPs:=prd_smp md hEok;have hPl:=prd_len md E;obtain⟨PR,hPR⟩:∃ P,P=prd md E:=⟨_,rfl⟩;rw[←hPR]at hst2 hst3 hPs hPl;have hdr:=dif_rng hUs hPs hUl hPl;have hLl:=cod_len (dif U PR) q;have hLb:=cod_rng (dif_len U PR) hdr hq;obtain⟨L,hL⟩:∃ L,L=cod (dif U PR) q:=⟨_,rfl⟩;rw[←hL]at hst2 hst3 hLl hLb;obtain⟨D,hD⟩:∃ D,D=dec L q:=⟨_,rfl⟩;rw[←hD]at hst3;have HDl:=Lib.hid (show D.length=16 by rw[hD,dec_len]);have HDb:=Lib.hid (show bdA 1099511627776 D by rw[hD];exact dec_bd _ _);have HPb:=Lib.hid (smp_bd hPs);have HUb:=Lib.hid (smp_bd hUs);have Hst2:=Lib.hid hst2;have Hst3:=Lib.hid hst3;have HEok:=Lib.hid hEok;have HUs:=Lib.hid hUs;have HUl:=Lib.hid hUl;have HPs:=Lib.hid hPs;have HPl:=Lib.hid hPl;have Hdr:=Lib.hid hdr;have HLl:=Lib.hid hLl;have HLb:=Lib.hid hLb;have HU:=Lib.hid hU;have HE:=Lib.hid hE;have HMd:=Lib.hid hmd;have HPR:=Lib.hid hPR;have HL:=Lib.hid hL;have HD:=Lib.hid hD;have Hms1:=Lib.hid (show(ms.set (3+k) (md:Int)).length=71 by rw[List.length_set,hms]);have Hmn:=Lib.hid (show nth (ms.set (3+k) (md:Int)) (3+k)=(md:Int) by simp[nth,hms,show 3+k<71 by omega]);have Hsl:=Lib.hid (show sub ms2 (7+k*16) 16=L by rw[←hst2];exact sub_spl (by rw[List.length_set,hms,hLl];omega) hLl);have Hm2l:=Lib.hid (show ms2.length=71 by rw[←hst2,spl_len (by rw[List.length_set,hms,hLl];omega),List.length_set,hms]);clear hZ hZ1 hms0 hms2 hxi hyj hU hE hmd hPR hL hD hst2 hst3 hEok hUs hUl hPs hPl hdr hLl hLb hZv hZn hms;have Hpu:=Lib.hid (show pof (blkL t x y 0 0) (k%2*4) (k/2*4)=U by rw[HU.out,Hpb.out];congr 1 <;> (have h1:=Hxi.out;have h2:=Hyj.out;omega));obtain⟨-,k1,k2,k3,-⟩:=bx3 N0.br;go_wp2_with fail
   rw[Hxi.out,Hyj.out];refine(l6Edges_any ⟨W,H,Z⟩ xi yj W H top (some ⟨g,0,none⟩) c1 l _ HZv.out HZn.out (Sl.of_owns N0.own) rfl rfl (by omega) (by omega) ht0).mono ?_
   rintro e w6 ⟨rfl,e6⟩
   rw[←HE.out];have N1:=N0.e e6;have S1:=S0.out.ext e6;have SK:=Lib.hid (fun z hz=>sl_bound S1 z hz (by omega));have pE:=EB.new w6 ed0;have ea:=Ext.alloc w6 (.cells (edC ed0) 106);have N2:=N1.e ea;have S2:=S1.ext ea;obtain⟨bE,hbE⟩:∃ K,K=w6.heap.size:=⟨_,rfl⟩;have hlt1:=N1.lt;have hes:=N1.ex.size;rw[←hbE]at hlt1 hes SK;have LT:=Lib.hid (show w.heap.size≤bE∧B<bE∧g<bE∧O<bE∧M<bE∧B+1+1<bE from ⟨hes,hlt1.1,hlt1.2.1,hlt1.2.2.1,hlt1.2.2.2.1,hlt1.2.2.2.2⟩);clear N0 S0 N1 S1 e6 ea hlt1 hes k1 k2 k3;go_wp2_with (refine wpList_cstore 106 _ _ rfl rfl pE rfl _ rfl (edC_one E) 11 size_Edges (edC_size HEok.out.ln) (edC_size ed0_ln) ?_;intro w7 i7 g7;refine Hid.out ?_)
   rw[←hbE]at i7 g7⊢;have HbE:=Lib.hid hbE;have N3:=N2.loc g7 (Nat.le_refl _) LT.out;have S3:=S2.grown g7 (fun z hz=>by have:=SK.out z hz;simp;omega);have iE:EB w7 bE E:=i7;have hME:=LT.out.2.2.2.2.1;clear hbE N2 S2 pE g7 i7;refine Lib.hid ?_;go_wp2_with fail
   refine wp_region_invL (by kernel_rfl) [(48,0),(49,1),(50,2),(51,3),(52,4),(53,5),(54,6),(55,7)] [[],[],[],[1,2],[],[1,2,3,4],[],[0,1,2,3,4,5,6],[0,1,2,3,4,5,6,7]] (fun i own ys wx=>match i with|0=>own= .int .i64 (k:Nat)|1=>own= .slice a4 64 c4|2=>own= .int .i64 (k:Nat)|3=>own= .agg (ic U)|4=>own= .agg (edC E)|5=>own= .int .i64 (md:Nat)|6=>own= .pointer (some ⟨M,3,none⟩)|7=>own= .pointer (some ⟨M,3+k,none⟩)|8=>True|_=>True) (fun Lx wx=>NS w g l c1 t.w t.h a n c W H B O M Z (if Lx 8=true then ms.set (3+k) (md:Int)else ms) wx∧EB wx bE E∧Sl wx a4 64 ((blkL t x y 0 0).map (Value.int .i64))) (by kernel_rfl) (by kernel_rfl) (by kernel_rfl) ?g0_r1 ?gop_r1 ?gend_r1
   case g0_r1=>exact⟨N3.e (Ext.drewN _ 1),EB.ext iE (Ext.drewN _ 1),S3.drewN 1⟩
   case gop_r1 =>
    refine⟨?_,?_,?_,?o3,?o4,?o5,?_,?o7,?o8,trivial⟩ <;> (intro Lx xs wx hG hl ha hb hD hI Qo Kx hK hQo;simp only[patchS,Nat.reduceAdd,Nat.reduceEqDiff,↓reduceIte]at hQo⊢)
    case o3 =>
     clear hl ha hb;rw[ddq (hD 1 rfl),ddq (hD 2 rfl)]at hQo⊢;clear hD hI;go_wp2_with fail
     refine(l8Part_any (blkL t x y 0 0) k hlt a4 c4 _ hG.2.2).mono ?_
     rintro e w9 ⟨rfl,e9⟩
     rw[Hpu.out];go_wp2;exact hK.out _ _ ⟨rfl,⟨hG.1.e e9,EB.ext hG.2.1 e9,hG.2.2.ext e9⟩,fun _ _ _ _ _ _ h=>h⟩
    case o4 =>
     clear hl ha hb hD hI;go_wp2_with (refine wpList_cload 106 _ rfl rfl hG.2.1 rfl _ Tryz.underlying106 rfl 11 size_Edges (edC_size HEok.out.ln) ?_)
     exact hK.out _ _ ⟨rfl,hG,kkp⟩
    case o5 =>
     clear hl ha hb;rw[ddq (hD 3 rfl),ddq (hD 4 rfl)]at hQo⊢;clear hD hI;go_wp2_with fail
     refine(spec_BestIntra_any U E _ HUl.out HUs.out HEok.out).mono ?_
     rintro e w9 ⟨rfl,e9⟩
     rw[←HMd.out];go_wp2;exact hK.out _ _ ⟨rfl,⟨hG.1.e e9,EB.ext hG.2.1 e9,hG.2.2.ext e9⟩,fun _ _ _ _ _ _ h=>h⟩
    case o7 =>
     clear hl ha hb;rw[ddq (hD 0 rfl),ddq (hD 6 rfl)]at hQo⊢;clear hD hI;go_wp2;exact hK.out _ _ ⟨rfl,hG,kkp⟩
    case o8 =>
     have l8:Lx 8=false:=hl;clear hl ha hb;rw[ddq (hD 5 rfl),ddq (hD 7 rfl)]at hQo⊢;clear hD hI;rw[l8,ifF]at hG;have cx:=hG.1.bm.cell (i:=3+k) (by rw[Hms.out];omega);have fx:=hG.1.bm.frozen (3+k);have N9:=hG.1.mac (gr_set wx M (3+k) (.int .i64 (md:Nat))) (hG.1.bm.set (3+k) (md:Int));have E9:=EB.set_other hG.2.1 (c:=M) (i:=3+k) (v := .int .i64 (md:Nat)) (by omega);have S9:=hG.2.2.grown (gr_set wx M (3+k) (.int .i64 (md:Nat))) (fun z hz=>by have:=SB.out z hz;simp;omega);go_wp2;exact hQo undef _ (hK.out _ _ ⟨trivial,⟨N9,E9,S9⟩,fun _ _ _ _ _ _ h=>h⟩)
    all_goals
     clear hl ha hb hD hI;go_wp2;exact hK.out _ _ ⟨rfl,hG,kkp⟩
   intro xs wx hV hG0;obtain⟨Lx,hL,hG⟩:=hG0;have l8:Lx 8=true:=hL 8 (by decide);clear hL hV;simp only[patchS,Nat.reduceAdd,Nat.reduceEqDiff,↓reduceIte];generalize xs 0=y0,xs 1=y1,xs 2=y2,xs 3=y3,xs 4=y4,xs 5=y5,xs 6=y6,xs 7=y7,xs 8=y8 at *
   replace hG:NS w g l c1 t.w t.h a n c W H B O M Z (if Lx 8=true then ms.set (3+k) (md:Int)else ms) wx∧EB wx bE E∧Sl wx a4 64 ((blkL t x y 0 0).map (Value.int .i64)):=hG
   rw[l8,ifT]at hG;obtain⟨N4,iE4,S4⟩:=hG;clear N3 iE S3;obtain⟨K2,hK2⟩:∃ K,K=wx.heap.size:=⟨_,rfl⟩;generalize wx=w11 at *;have hlt1:=N4.lt;have hlE:=EB.lt iE4;have hes:=N4.ex.size;have hs2:=fun z hz=>sl_bound S4 z hz (by omega)
   rw[←hK2]at hlt1 hlE hes hs2;have SK2:=Lib.hid hs2;have LT2:=Lib.hid (show w.heap.size≤K2∧B<K2∧g<K2∧O<K2∧M<K2∧B+1+1<K2 from ⟨hes,hlt1.1,hlt1.2.1,hlt1.2.2.1,hlt1.2.2.2.1,hlt1.2.2.2.2⟩);have HK2:=Lib.hid hK2;have hMK2:=LT2.out.2.2.2.2.1;clear hK2 hlt1 hes hs2;go_wp2_with fail
   have hext:Stab (fun wa wb=>Ext wa wb) (fun i own ys wx=>match i with|0=>own= .int .i64 (k:Nat)|1=>own= .pointer (some ⟨M,3,none⟩)|2=>own= .pointer (some ⟨M,3+k,none⟩)|3=>own= .int .i64 (md:Nat)|4=>own= .agg (edC E)|5=>own= .agg (ic PR)|6=>IA wx K2 own|7=>IS wx K2 (ys 6) PR|_=>True):=by
    intro i own ys wa wb e h
    match i,h with
    | 0,h|1,h|2,h|3,h|4,h|5,h=>exact h
    | 6,h|7,h=>exact h.ext e
    | _+8,_=>trivial
   have Hext:=Lib.hid hext;clear hext;refine wp_region_inv2 (by kernel_rfl) [(20,6),(56,0),(57,1),(58,2),(59,3),(60,4),(61,5)] [[],[],[0,1],[0,1,2],[],[0,1,2,3,4],[],[0,1,2,3,4,5,6]] (fun i own ys wx=>match i with|0=>own= .int .i64 (k:Nat)|1=>own= .pointer (some ⟨M,3,none⟩)|2=>own= .pointer (some ⟨M,3+k,none⟩)|3=>own= .int .i64 (md:Nat)|4=>own= .agg (edC E)|5=>own= .agg (ic PR)|6=>IA wx K2 own|7=>IS wx K2 (ys 6) PR|_=>True) (fun kx wx=>NS w g l c1 t.w t.h a n c W H B O M Z (ms.set (3+k) (md:Int)) wx∧K2≤wx.heap.size∧EB wx bE E∧Sl wx a4 64 ((blkL t x y 0 0).map (Value.int .i64))) (by kernel_rfl) (by kernel_rfl) (by kernel_rfl) ?g0_r2 ?gop_r2 ?gend_r2
   case g0_r2=>exact⟨N4.e (Ext.drewN _ 1),by rw[HK2.out];exact Nat.le_refl _,EB.ext iE4 (Ext.drewN _ 1),S4.drewN 1⟩
   case gop_r2 =>
    refine⟨?_,?_,?o2,?o3,?o4,?o5,?o6,?o7,trivial⟩ <;> (intro kx xs wx hk hG hD hI Qo Kx hK hQo;simp only[patchS,Nat.reduceAdd,Nat.reduceEqDiff,↓reduceIte]at hQo⊢)
    case o2 =>
     rw[ddq (hD 0 rfl),ddq (hD 1 rfl)]at hQo⊢;clear hD hI;go_wp2;exact hK.out _ _ ⟨rfl,hG,kkp⟩
    case o3 =>
     rw[ddq (hD 2 rfl)]at hQo⊢;clear hD hI;have cx:=hG.1.bm.cell (i:=3+k) (by rw[Hms1.out];omega);rw[Hmn.out]at cx;go_wp2;exact hK.out _ _ ⟨rfl,hG,kkp⟩
    case o4 =>
     clear hD hI;go_wp2_with (refine wpList_cload 106 _ rfl rfl hG.2.2.1 rfl _ Tryz.underlying106 rfl 11 size_Edges (edC_size HEok.out.ln) ?_)
     exact hK.out _ _ ⟨rfl,hG,kkp⟩
    case o5 =>
     rw[ddq (hD 3 rfl),ddq (hD 4 rfl)]at hQo⊢;clear hD hI;go_wp2_with fail
     refine(l6Predict_any E md _ HEok.out (by omega)).mono ?_
     rintro e w9 ⟨rfl,e9⟩
     rw[←HPR.out];go_wp2;exact hK.out _ _ ⟨rfl,⟨hG.1.e e9,Nat.le_trans hG.2.1 e9.size,EB.ext hG.2.2.1 e9,hG.2.2.2.ext e9⟩,fun i _ _ _ own ys h=>Hext.out i own ys _ _ e9 h⟩
    case o6 =>
     clear hD hI;have ea:=Ext.alloc wx (.cells (ic (List.replicate 16 0)) 29);go_wp2;exact hK.out _ _ ⟨⟨_,_,rfl,hG.2.1,IB.new _ _ (List.replicate 16 0),by simp⟩,⟨hG.1.e ea,Nat.le_trans hG.2.1 ea.size,EB.ext hG.2.2.1 ea,hG.2.2.2.ext ea⟩,fun i _ _ _ own ys h=>Hext.out i own ys _ _ ea h⟩
    case o7 =>
     have d6:IA wx K2 (xs 6):=hD 6 rfl;have d5:_=_:=hD 5 rfl;clear hD hI;generalize hx6:xs 6=y6 at *;have Hx6:=Lib.hid hx6;clear hx6;generalize xs 5=y5 at *;obtain⟨b6,us6,rfl,hb6,z6,l6⟩:=d6;subst d5;refine wpList_istore 29 _ _ rfl rfl z6 0 16 rfl _ rfl PR rfl size_A16 HPl.out (by rw[l6];omega) ?_;intro w9 i9 g9;rw[spl_all (by rw[HPl.out,l6])]at i9;have hst:∀(wy:World),StI wx wy→Stbn 8 7 [[],[],[0,1],[0,1,2],[],[0,1,2,3,4],[],[0,1,2,3,4,5,6]] (fun i own ys wx=>match i with|0=>own= .int .i64 (k:Nat)|1=>own= .pointer (some ⟨M,3,none⟩)|2=>own= .pointer (some ⟨M,3+k,none⟩)|3=>own= .int .i64 (md:Nat)|4=>own= .agg (edC E)|5=>own= .agg (ic PR)|6=>IA wx K2 own|7=>IS wx K2 (ys 6) PR|_=>True) wx wy:=by
      intro wy hy ii hii hne hc own ys h
      match ii,h with
      | 0,h|1,h|2,h|3,h|4,h|5,h=>exact h
      | 6,h=>exact h.stI hy
      | 7,h=>exact absurd rfl hne
      | _+8,_=>trivial
     exact hQo undef _ (hK.out _ _ ⟨⟨b6,Hx6.out,hb6,i9⟩,⟨hG.1.loc g9 hb6 LT2.out,Nat.le_trans hG.2.1 g9.size,EB.gr hG.2.2.1 g9 (by simp;omega),hG.2.2.2.grown g9 (fun z hz=>by have:=SK2.out z hz;simp;omega)⟩,hst _ ⟨b6,_,_,g9,z6,i9,HPl.out⟩⟩)
    all_goals
     clear hD hI;go_wp2;exact hK.out _ _ ⟨rfl,hG,kkp⟩
   clear Hext;intro xs wx hV hG;have d7:IS wx K2 ((xs 6)) PR:=hV 7 (by decide);clear hV;simp only[patchS,Nat.reduceAdd,Nat.reduceEqDiff,↓reduceIte];generalize xs 0=y0,xs 1=y1,xs 2=y2,xs 3=y3,xs 4=y4,xs 5=y5,xs 6=y6,xs 7=y7 at *
   replace hG:NS w g l c1 t.w t.h a n c W H B O M Z (ms.set (3+k) (md:Int)) wx∧K2≤wx.heap.size∧EB wx bE E∧Sl wx a4 64 ((blkL t x y 0 0).map (Value.int .i64)):=hG
   obtain⟨bP,rfl,hbP,iP⟩:=d7;obtain⟨N5,hK4,iE5,S5⟩:=hG;clear N4 iE4 S4 hK4 iE5;have hMP:M<bP:=by omega
   have hgP:g<bP:=by have:=LT2.out.2.2.1;omega
   generalize wx=w12 at *;go_wp2_with fail
   refine wp_region_invL (by kernel_rfl) [(62,0),(63,1),(64,2),(65,3),(66,4),(67,5),(68,6),(69,7),(70,8),(71,9)] [[],[],[],[1,2],[],[1,2,3,4],[],[1,2,3,4,5,6],[],[0,1,2,3,4,5,6,7,8],[0,1,2,3,4,5,6,7,8,9]] (fun i own ys wx=>match i with|0=>own= .int .i64 (k:Nat)|1=>own= .slice a4 64 c4|2=>own= .int .i64 (k:Nat)|3=>own= .agg (ic U)|4=>own= .agg (ic PR)|5=>own= .agg (ic (dif U PR))|6=>own= .int .i64 (q:Nat)|7=>own= .agg (ic L)|8=>own= .pointer (some ⟨M,7,none⟩)|9=>own= .pointer (some ⟨M,7+k*16,none⟩)|10=>True|_=>True) (fun Lx wx=>NS w g l c1 t.w t.h a n c W H B O M Z (if Lx 10=true then ms2 else ms.set (3+k) (md:Int)) wx∧IB wx bP 29 PR∧Sl wx a4 64 ((blkL t x y 0 0).map (Value.int .i64))) (by kernel_rfl) (by kernel_rfl) (by kernel_rfl) ?g0_r3 ?gop_r3 ?gend_r3
   case g0_r3=>exact⟨N5.e (Ext.drewN _ 1),iP.drewN 1,S5.drewN 1⟩
   case gop_r3 =>
    refine⟨?_,?_,?_,?o3,?o4,?o5,?_,?o7,?_,?o9,?o10,trivial⟩ <;> (intro Lx xs wx hG hl ha hb hD hI Qo Kx hK hQo;simp only[patchS,Nat.reduceAdd,Nat.reduceEqDiff,↓reduceIte]at hQo⊢)
    case o3 =>
     clear hl ha hb;rw[ddq (hD 1 rfl),ddq (hD 2 rfl)]at hQo⊢;clear hD hI;go_wp2_with fail
     refine(l8Part_any (blkL t x y 0 0) k hlt a4 c4 _ hG.2.2).mono ?_
     rintro e w9 ⟨rfl,e9⟩
     rw[Hpu.out];go_wp2;exact hK.out _ _ ⟨rfl,⟨hG.1.e e9,hG.2.1.ext e9,hG.2.2.ext e9⟩,fun _ _ _ _ _ _ h=>h⟩
    case o4 =>
     clear hl ha hb hD hI;go_wp2_with (refine wpList_iload 29 _ rfl rfl hG.2.1 0 16 rfl _ Tryz.underlying29 rfl size_A16 (by rw[HPl.out];omega) _ (by rw[sub_all _ _ (HPl.out)]) ?_)
     exact hK.out _ _ ⟨rfl,hG,kkp⟩
    case o5 =>
     clear hl ha hb;rw[ddq (hD 3 rfl),ddq (hD 4 rfl)]at hQo⊢;clear hD hI;go_wp2_with fail
     refine(l8Minus_any U PR _ HUl.out HPl.out HUb.out HPb.out).mono ?_
     rintro e w9 ⟨rfl,e9⟩
     go_wp2;exact hK.out _ _ ⟨rfl,⟨hG.1.e e9,hG.2.1.ext e9,hG.2.2.ext e9⟩,fun _ _ _ _ _ _ h=>h⟩
    case o7 =>
     clear hl ha hb;rw[ddq (hD 5 rfl),ddq (hD 6 rfl)]at hQo⊢;clear hD hI;go_wp2_with fail
     refine(spec_CodeBlock_any (dif U PR) q _ (dif_len _ _) Hdr.out hq).mono ?_
     rintro e w9 ⟨rfl,e9⟩
     rw[←HL.out];go_wp2;exact hK.out _ _ ⟨rfl,⟨hG.1.e e9,hG.2.1.ext e9,hG.2.2.ext e9⟩,fun _ _ _ _ _ _ h=>h⟩
    case o9 =>
     clear hl ha hb;rw[ddq (hD 0 rfl),ddq (hD 8 rfl)]at hQo⊢;clear hD hI;go_wp2;exact hK.out _ _ ⟨rfl,hG,kkp⟩
    case o10 =>
     have l10:Lx 10=false:=hl;clear hl ha hb;rw[ddq (hD 7 rfl),ddq (hD 9 rfl)]at hQo⊢;clear hD hI;rw[l10,ifF]at hG;have ib:=hG.1.bm;refine wpList_istore 29 _ _ rfl rfl ib (7+k*16) 16 rfl _ rfl L rfl size_A16 HLl.out (by rw[Hms1.out];omega) ?_;intro w9 i9 g9;rw[Hst2.out]at i9;exact hQo undef _ (hK.out _ _ ⟨trivial,⟨hG.1.mac g9 i9,hG.2.1.gr g9 (by simp;omega),hG.2.2.grown g9 (fun z hz=>by have:=SB.out z hz;simp;omega)⟩,fun _ _ _ _ _ _ h=>h⟩)
    all_goals
     clear hl ha hb hD hI;go_wp2;exact hK.out _ _ ⟨rfl,hG,kkp⟩
   intro xs wx hV hG0;obtain⟨Lx,hL,hG⟩:=hG0;have l10:Lx 10=true:=hL 10 (by decide);clear hL hV;simp only[patchS,Nat.reduceAdd,Nat.reduceEqDiff,↓reduceIte];generalize xs 0=y0,xs 1=y1,xs 2=y2,xs 3=y3,xs 4=y4,xs 5=y5,xs 6=y6,xs 7=y7,xs 8=y8,xs 9=y9,xs 10=y10 at *
   replace hG:NS w g l c1 t.w t.h a n c W H B O M Z (if Lx 10=true then ms2 else ms.set (3+k) (md:Int)) wx∧IB wx bP 29 PR∧Sl wx a4 64 ((blkL t x y 0 0).map (Value.int .i64)):=hG
   rw[l10,ifT]at hG;obtain⟨N6,iP6,S6⟩:=hG;clear N5 iP S5;generalize wx=w13 at *;go_wp2_with fail
   refine wp_region_invL (by kernel_rfl) [(72,0),(73,1),(74,2),(75,3),(76,4),(77,5),(78,6),(79,7),(80,8),(81,9),(82,10)] [[],[],[],[],[],[],[4,5],[4,5,6],[],[4,5,6,7,8],[0,1,2,3,4,5,6,7,8,9]] (fun i own ys wx=>match i with|0=>own= .agg #[.int .i64 W,.int .i64 H,.slice (some ⟨g,0,none⟩) l c1]|1=>own= .int .i64 (xi:Nat)|2=>own= .int .i64 (yj:Nat)|3=>own= .agg (ic PR)|4=>own= .int .i64 (k:Nat)|5=>own= .pointer (some ⟨M,7,none⟩)|6=>own= .pointer (some ⟨M,7+k*16,none⟩)|7=>own= .agg (ic L)|8=>own= .int .i64 (q:Nat)|9=>own= .agg (ic D)|10=>True|_=>True) (fun Lx wx=>NS w g l c1 t.w t.h a n c W H B O M (if Lx 10=true then Z1 else Z) ms2 wx∧IB wx bP 29 PR∧Sl wx a4 64 ((blkL t x y 0 0).map (Value.int .i64))) (by kernel_rfl) (by kernel_rfl) (by kernel_rfl) ?g0_r4 ?gop_r4 ?gend_r4
   case g0_r4=>exact⟨N6.e (Ext.drewN _ 1),iP6.drewN 1,S6.drewN 1⟩
   case gop_r4 =>
    refine⟨?o0,?_,?_,?o3,?_,?_,?o6,?o7,?_,?o9,?o10,trivial⟩ <;> (intro Lx xs wx hG hl ha hb hD hI Qo Kx hK hQo;simp only[patchS,Nat.reduceAdd,Nat.reduceEqDiff,↓reduceIte]at hQo⊢)
    case o0 =>
     clear hl ha hb hD hI;obtain⟨-,k0,k1,k2,-⟩:=bx3 hG.1.br;go_wp2;exact hK.out _ _ ⟨rfl,hG,kkp⟩
    case o3 =>
     clear hl ha hb hD hI;go_wp2_with (refine wpList_iload 29 _ rfl rfl hG.2.1 0 16 rfl _ Tryz.underlying29 rfl size_A16 (by rw[HPl.out];omega) _ (by rw[sub_all _ _ (HPl.out)]) ?_)
     exact hK.out _ _ ⟨rfl,hG,kkp⟩
    case o6 =>
     clear hl ha hb;rw[ddq (hD 4 rfl),ddq (hD 5 rfl)]at hQo⊢;clear hD hI;go_wp2;exact hK.out _ _ ⟨rfl,hG,kkp⟩
    case o7 =>
     clear hl ha hb;rw[ddq (hD 6 rfl)]at hQo⊢;clear hD hI;go_wp2_with (refine wpList_iload 29 _ rfl rfl hG.1.bm (7+k*16) 16 rfl _ Tryz.underlying29 rfl size_A16 (by rw[Hm2l.out];omega) _ (by rw[Hsl.out]) ?_)
     exact hK.out _ _ ⟨rfl,hG,kkp⟩
    case o9 =>
     clear hl ha hb;rw[ddq (hD 7 rfl),ddq (hD 8 rfl)]at hQo⊢;clear hD hI;go_wp2_with fail
     refine(l4Decode_any L q _ HLl.out HLb.out hq).mono ?_
     rintro e w9 ⟨rfl,e9⟩
     rw[←HD.out];go_wp2;exact hK.out _ _ ⟨rfl,⟨hG.1.e e9,hG.2.1.ext e9,hG.2.2.ext e9⟩,fun _ _ _ _ _ _ h=>h⟩
    case o10 =>
     have l10:Lx 10=false:=hl;clear hl ha hb;rw[ddq (hD 0 rfl),ddq (hD 1 rfl),ddq (hD 2 rfl),ddq (hD 3 rfl),ddq (hD 9 rfl)]at hQo⊢;clear hD hI;rw[l10,ifF]at hG;go_wp2_with fail
     refine(l8Put_any W H xi yj w.heap.size g l c1 Z PR D _ HPl.out HDl.out HPb.out HDb.out hW32 (by omega) (by omega) hI (by omega) hG.1.own).mono ?_
     rintro e w9 ⟨rfl,o9,g9⟩
     go_wp2;rw[Hst3.out]at o9;exact hK.out _ _ ⟨trivial,⟨hG.1.put g9 o9,hG.2.1.gr g9 (by simp;omega),hG.2.2.grown g9 (fun z hz=>by have:=SB.out z hz;simp;omega)⟩,fun _ _ _ _ _ _ h=>h⟩
    all_goals
     clear hl ha hb hD hI;go_wp2;exact hK.out _ _ ⟨rfl,hG,kkp⟩
   intro xs wx hV hG0;obtain⟨Lx,hL,hG⟩:=hG0;have l10:Lx 10=true:=hL 10 (by decide);clear hL hV;simp only[patchS,Nat.reduceAdd,Nat.reduceEqDiff,↓reduceIte];generalize xs 0=y0,xs 1=y1,xs 2=y2,xs 3=y3,xs 4=y4,xs 5=y5,xs 6=y6,xs 7=y7,xs 8=y8,xs 9=y9,xs 10=y10 at *
   replace hG:NS w g l c1 t.w t.h a n c W H B O M (if Lx 10=true then Z1 else Z) ms2 wx∧IB wx bP 29 PR∧Sl wx a4 64 ((blkL t x y 0 0).map (Value.int .i64)):=hG
   rw[l10,ifT]at hG;clear N6 iP6 S6;have HG:=Lib.hid hG;clear hG;go_wp2;go_roundw
   case rel=>exact⟨k+1,by omega,by go_num,by rw[←HZ1.out,←HM2.out];exact HG.out.1,Lib.hid HG.out.2.2⟩
   case measure=>simp[intOf];omega
  ·obtain rfl:k=4:=by omega
   have Hzl:=Lib.hid (HMl.out 4 (by omega));have hbM:=N0.bm;have hbz:=N0.bz;have hex:=N0.ex;have hh1:=N0.h1;clear N0;go_wp2_with (first|(refine wpList_iload 32 _ rfl rfl hbM 0 71 rfl _ Tryz.underlying32 rfl size_Macro (by rw[Hzl.out];omega) _ (by rw[sub_all _ _ (Hzl.out)]) ?_)|(refine wpList_istore 32 _ _ rfl rfl hbz 0 71 rfl _ rfl (inMac t ⟨W,H,px⟩ x y q top 4).zs rfl size_Macro (Hzl.out) (by simp[zl]) ?_;intro w6 p6 g6;refine Hid.out ?_))
   rw[spl_all (by rw[Hzl.out,zl_len])]at p6;have E6:Ext w w6:=Ext.grown hex g6 (fun q hq=>by cases hq;omega);refine Lib.hid ?_;go_wp2;exact bodyPost_ret (v := .agg (ic (inMac t ⟨W,H,px⟩ x y q top 4).zs)) (results_cell_row rfl _ _ (B+1+1) 32 (ic (inMac t ⟨W,H,px⟩ x y q top 4).zs) (0,0) _ rfl p6 Tryz.underlying32 rfl (by rw[ic_size,Hzl.out];exact size_Macro)) rfl ⟨rfl,E6⟩
end Go.Proofs.YtbnhaegidfbgbaaGreatDoor
