/- The choice of a macroblock: plain; the reference's walk. | The cost of a vector: the program's walk; the program's vectors: a range over a function. | The program's vectors: a range over a function. | MotionSearch: the program's walk. | ChooseMacro: the program's closures. -/
import Derived.Test.YtbnhaegidfbgbaaGreatDoorQr16
import Derived.Deep.Cut
set_option linter.unusedVariables false
set_option linter.unusedSimpArgs false
set_option maxRecDepth 100000
set_option maxHeartbeats 4000000
namespace Go.Proofs.YtbnhaegidfbgbaaGreatDoor
open Go.RowKit
/-- The best vector. -/
def bv (t r:Pic) (x y:Nat):Int×Int:=(stI (cV t r x y) vecL).1
theorem bv_box {t r:Pic} (ht:t.valid) (hr:r.valid) (x y:Nat):boxV (bv t r x y).1 (bv t r x y).2:=by
 have h:=(stI_best (cV t r x y) (fun u v=>(cV_rng ht hr (x:Int) (y:Int) u v).1)).1;unfold bv;exact h
/-- What a macroblock costs, at valid arguments. -/
noncomputable def cst (t r p : Pic) (x y q : Nat) (top : Int) (m : Mac) : Int := sqS t ⟨p.w, p.h, bldS r p x y m q top 4⟩ x y 64 + stp q * (macN m : Int)
/-- The best of the first candidates: the skipped one, m1, m2. -/
noncomputable def stC (t r p : Pic) (x y q : Nat) (top : Int) (m1 m2 : Mac) : Nat → Mac
 | 0=>mac0
 | k+1=>if cst t r p x y q top (if k=0 then m1 else m2)<cst t r p x y q top (stC t r p x y q top m1 m2 k)then(if k=0 then m1 else m2)else stC t r p x y q top m1 m2 k
theorem stC_ok {t r p:Pic} {x y q:Nat} {top:Int} {m1 m2:Mac} (h1:m1.ok) (h2:m2.ok) (k:Nat):(stC t r p x y q top m1 m2 k).ok:=by
 induction k with
 | zero=>exact mac0_ok
 | succ k ih =>
  have hc:(if k=0 then m1 else m2).ok:=by split <;> assumption
  unfold stC
  by_cases hlt:cst t r p x y q top (if k=0 then m1 else m2)<cst t r p x y q top (stC t r p x y q top m1 m2 k)
  ·rw[if_pos hlt];exact hc
  ·rw[if_neg hlt];exact ih
theorem mac0_val : mac0.valid:=by
 refine⟨⟨by decide,by decide⟩,⟨by decide,by decide,by decide,by decide⟩,fun _=>⟨rfl,rfl⟩,fun _=>rfl,fun h=>absurd h (by decide),fun _=>rfl,?_⟩
 decide
/-- The candidates. -/
def can1 (t r:Pic) (x y q:Nat):Mac:=macI (bv t r x y).1 (bv t r x y).2 (intL t r x y (bv t r x y).1 (bv t r x y).2 q 4)
def can2 (t p:Pic) (x y q:Nat) (top:Int):Mac:=inMac t p x y q top 4
/-- The chosen macroblock, at valid arguments. -/
noncomputable def chM (t r p : Pic) (x y q : Nat) (top : Int) : Mac := stC t r p x y q top (can1 t r x y q) (can2 t p x y q top) 2
theorem can1_ok (t r:Pic) (x y q:Nat):(can1 t r x y q).ok:=macI_ok _ _ (intL_len _ _ _ _ _ _ _ (Nat.le_refl 4))
theorem can2_ok (t p:Pic) (x y q:Nat) (top:Int):(can2 t p x y q top).ok:=inMac_ok t p x y q top (Nat.le_refl 4)
theorem bv_vv {t r:Pic} (ht:t.valid) (hr:r.valid) (x y:Nat):vv (bv t r x y).1 (bv t r x y).2:=by
 have h:=bv_box ht hr x y;unfold boxV at h;exact⟨by omega,by omega,by omega,by omega⟩
theorem can1_valid {t r:Pic} (ht:t.valid) (hr:r.valid) (x y:Nat) {q:Nat} (hq:q<16):(can1 t r x y q).valid:=macI_valid ht hr x y (bv_vv ht hr x y) hq
theorem can2_valid {t p:Pic} (ht:t.valid) (hp:p.valid) (x y:Nat) {q:Nat} (hq:q<16) (top:Int):(can2 t p x y q top).valid:=inMac_valid ht hp x y q hq top
theorem chM_ok (t r p:Pic) (x y q:Nat) (top:Int):(chM t r p x y q top).ok:=stC_ok (can1_ok _ _ _ _ _) (can2_ok _ _ _ _ _ _) 2
theorem okR_of {t r p:Pic} {x y q top:Int} (h1:alikeP t r) (h2:alikeP t p) (h3:placeP t x y) (hq:0≤q∧q≤15) (ht:0≤top∧top≤y) {m:Mac} (hm:m.valid):okR r p x y m q top :=
 ⟨⟨h2.2.1,by rw[←h2.2.2.1,←h2.2.2.2];exact h3.2⟩,hm,hq,ht,.inr ⟨h1.2.1,h2.2.1,by rw[←h1.2.2.1,h2.2.2.1],by rw[←h1.2.2.2,h2.2.2.2]⟩⟩
/-- What the choice has: three pictures, the result's place, the best, the list. -/
structure CS (w : World) (B Q G : Nat) (t r : Pic) (W H : Nat) (a b b2 : Option Addr) (n c l d l2 d2 : Nat) (Z ms : List Int) (wx : World) : Prop where
 ex:Ext w wx
 f1:wx.heap[B]?=some (.cells #[.int .i64 t.w,.int .i64 t.h,.slice a n c] 25 (0,0))
 f2:wx.heap[B+1]?=some (.cells #[.int .i64 r.w,.int .i64 r.h,.slice b l d] 25 (0,0))
 f3:wx.heap[B+1+1]?=some (.cells #[.int .i64 W,.int .i64 H,.slice b2 l2 d2] 25 (0,0))
 rs:IB wx (B+1+1+1) 32 (zl 71)
 be:IB wx Q 32 ms
 li:IB wx G 32 Z
 od:w.heap.size≤B∧B+1+1+1<Q∧Q<G
theorem CS.e {w wx wy:World} {B Q G W H n c l d l2 d2:Nat} {t r:Pic} {a b b2:Option Addr} {Z ms:List Int} (h:CS w B Q G t r W H a b b2 n c l d l2 d2 Z ms wx) (e:Ext wx wy):CS w B Q G t r W H a b b2 n c l d l2 d2 Z ms wy :=
 ⟨h.ex.trans e,e.blk h.f1,e.blk h.f2,e.blk h.f3,h.rs.ext e,h.be.ext e,h.li.ext e,h.od⟩
theorem CS.set {w wx wy:World} {B Q G W H n c l d l2 d2:Nat} {t r:Pic} {a b b2:Option Addr} {Z ms ms':List Int} (h:CS w B Q G t r W H a b b2 n c l d l2 d2 Z ms wx) (i:IB wy Q 32 ms') (g:wx.grownBy wy (some Q)):CS w B Q G t r W H a b b2 n c l d l2 d2 Z ms' wy:=by
 have:=h.od;exact⟨Ext.grown h.ex g (fun k e=>by cases e;omega),blk_gr h.f1 g (by simp;omega),blk_gr h.f2 g (by simp;omega),blk_gr h.f3 g (by simp;omega),h.rs.gr g (by simp;omega),i,h.li.gr g (by simp;omega),h.od⟩
theorem sub_left (z0 z1:List Int) (h:z0.length=71):sub (z0++z1) 0 71=z0:=by unfold sub;rw[List.drop_zero,←h,List.take_left]
theorem sub_right (z0 z1:List Int) (h:z0.length=71) (h1:z1.length=71):sub (z0++z1) 71 71=z1:=by
 unfold sub;rw[List.drop_append,h,List.drop_of_length_le (by omega),Nat.sub_self,List.drop_zero,List.nil_append,List.take_of_length_le (by omega)]
theorem l13Choose_in (t r:Pic) (W H x y q:Nat) (px:List Int) (top:Int) (a b b2:Option Addr) (c d d2 n l l2:Nat) (w:World) (h1:alikeP t r) (h2:alikeP t ⟨W,H,px⟩) (h3:placeP t x y) (hq:q<16) (htop:0≤top∧top≤(y:Int)) (hn:n=t.px.length) (hl:l=r.px.length) (hl2:l2=px.length) (s:Sl w a n (t.px.map (Value.int .i64))) (u:Sl w b l (r.px.map (Value.int .i64))) (v:Sl w b2 l2 (px.map (Value.int .i64))) :
 Calls Tryz.prog 57 #[.agg #[.int .i64 t.w,.int .i64 t.h,.slice a n c],.agg #[.int .i64 r.w,.int .i64 r.h,.slice b l d],.agg #[.int .i64 W,.int .i64 H,.slice b2 l2 d2],.int .i64 (x:Nat),.int .i64 (y:Nat),.int .i64 (q:Nat),.int .i64 top] w fun e w'=>e= .returned (.agg (ic (chM t r ⟨W,H,px⟩ x y q top).zs))∧Ext w w':=by
 have HO:=Lib.hid (fun(m:Mac) (hm:m.valid)=>okR_of (q:=(q:Int)) h1 h2 h3 (by omega) htop hm);have hln:=Pic.len_le h1.1;have hll:=Pic.len_le h1.2.1;have hlp:=Pic.len_le h2.2.1;simp only at hlp;rw[←hn]at hln;rw[←hl]at hll;rw[←hl2]at hlp;have hxy:x≤24∧y≤24:=by
  have g1:=h1.1.1.2.1;have g2:=h1.1.2.1.2.1;have g3:=h3.2.2.1;have g4:=h3.2.2.2.1;have g5:=h3.2.2.2.2.2.1;have g6:=h3.2.2.2.2.2.2;omega
 have hW8:x+8≤W∧y+8≤H∧W≤32∧H≤32:=by
  have p1:=h2.2.1.1;have p2:=h2.2.1.2.1;have e1:=h2.2.2.1;have e2:=h2.2.2.2;simp only at p1 p2 e1 e2;have g3:=h3.2.2.1;have g5:=h3.2.2.2.2.2.1;have k1:=side_fit h1.1.1 e1 g3 h3.2.2.2.1;have k2:=side_fit h1.1.2.1 e2 g5 h3.2.2.2.2.2.2;have:=p1.2.1;have:=p2.2.1;omega
 have HTv:=Lib.hid h1.1;have HRv:=Lib.hid h1.2.1;have HPv:=Lib.hid h2.2.1;have HN:=Lib.hid hn;have HL:=Lib.hid hl;have HL2:=Lib.hid hl2;have ht0:=htop.1;obtain⟨m1,hm1e⟩:∃ m,m=can1 t r x y q:=⟨_,rfl⟩;obtain⟨m2,hm2e⟩:∃ m,m=can2 t ⟨W,H,px⟩ x y q top:=⟨_,rfl⟩;have hm1:=Lib.hid (show m1.ok by rw[hm1e];exact can1_ok _ _ _ _ _);have hm2:=Lib.hid (show m2.ok by rw[hm2e];exact can2_ok _ _ _ _ _ _);have vm1:=Lib.hid (show m1.valid by rw[hm1e];exact can1_valid h1.1 h1.2.1 x y hq);have vm2:=Lib.hid (show m2.valid by rw[hm2e];exact can2_valid h1.1 h2.2.1 x y hq top);have hl1:=Lib.hid (Mac.zs_len hm1.out);have hl2':=Lib.hid (Mac.zs_len hm2.out);have HB0:=Lib.hid (show(m1.zs++m2.zs).length=142 by rw[List.length_append,hl1.out,hl2'.out]);have HB1:=Lib.hid (sub_left m1.zs m2.zs hl1.out);have HB2:=Lib.hid (sub_right m1.zs m2.zs hl1.out hl2'.out);have hvv:=bv_vv h1.1 h1.2.1 x y;obtain⟨⟨p0,p1⟩,hpv⟩:∃ z,z=bv t r x y:=⟨_,rfl⟩;rw[←hpv]at hvv;simp only at hvv;have HBV:=Lib.hid (show(stS (cV t r x y) 81).1=(p0,p1) by rw[hpv];exact best_same _ (fun u v=>(cV_rng h1.1 h1.2.1 (x:Int) (y:Int) u v).1));have Hm1:=Lib.hid (show macI p0 p1 (intL t r x y p0 p1 q 4)=m1 by rw[hm1e];unfold can1;rw[←hpv]);have Hm2:=Lib.hid (show inMac t ⟨W,H,px⟩ x y q top 4=m2 by rw[hm2e];rfl);have HR:=Lib.hid (show stC t r ⟨W,H,px⟩ x y q top m1 m2 2=chM t r ⟨W,H,px⟩ x y q top by rw[hm1e,hm2e];rfl);clear hn hl hl2 h1 h2 h3 htop hm1e hm2e hpv;have a0:=Ext.alloc w (.cells #[.int .i64 t.w,.int .i64 t.h,.slice a n c] 25);have a1:=Ext.alloc (w.alloc (.cells #[.int .i64 t.w,.int .i64 t.h,.slice a n c] 25)) (.cells #[.int .i64 r.w,.int .i64 r.h,.slice b l d] 25);have a2:=Ext.alloc ((w.alloc (.cells #[.int .i64 t.w,.int .i64 t.h,.slice a n c] 25)).alloc (.cells #[.int .i64 r.w,.int .i64 r.h,.slice b l d] 25)) (.cells #[.int .i64 W,.int .i64 H,.slice b2 l2 d2] 25);have a3:=Ext.alloc (((w.alloc (.cells #[.int .i64 t.w,.int .i64 t.h,.slice a n c] 25)).alloc (.cells #[.int .i64 r.w,.int .i64 r.h,.slice b l d] 25)).alloc (.cells #[.int .i64 W,.int .i64 H,.slice b2 l2 d2] 25)) (.cells (ic (zl 71)) 32);have X0:=a3.blk (a2.blk (a1.blk (blk_new w (.cells #[.int .i64 t.w,.int .i64 t.h,.slice a n c] 25))));have X1:=a3.blk (a2.blk (blk_new (w.alloc (.cells #[.int .i64 t.w,.int .i64 t.h,.slice a n c] 25)) (.cells #[.int .i64 r.w,.int .i64 r.h,.slice b l d] 25)));have X2:=a3.blk (blk_new ((w.alloc (.cells #[.int .i64 t.w,.int .i64 t.h,.slice a n c] 25)).alloc (.cells #[.int .i64 r.w,.int .i64 r.h,.slice b l d] 25)) (.cells #[.int .i64 W,.int .i64 H,.slice b2 l2 d2] 25));have X3:=IB.new (((w.alloc (.cells #[.int .i64 t.w,.int .i64 t.h,.slice a n c] 25)).alloc (.cells #[.int .i64 r.w,.int .i64 r.h,.slice b l d] 25)).alloc (.cells #[.int .i64 W,.int .i64 H,.slice b2 l2 d2] 25)) 32 (zl 71);have E0:=((a0.trans a1).trans a2).trans a3;simp only[World.size_alloc]at X1 X2 X3;obtain⟨B,hB⟩:∃ B,B=w.heap.size:=⟨_,rfl⟩;rw[←hB]at X0 X1 X2 X3;have hwB:w.heap.size≤B:=by omega
 have hB3:=X3.lt;clear a0 a1 a2 a3;go_enter Tryz.func57,Tryz.ntmps57
 go_upto_region 1 with(first|(refine wpList_iallocz 32 rfl rfl 71 zeroq_M ?_;(try simp only[World.size_alloc]))|fail)
 try simp only[World.size_alloc]
 rw[←hB];clear hB;generalize ((((w.alloc (.cells #[.int .i64 t.w,.int .i64 t.h,.slice a n c] 25)).alloc (.cells #[.int .i64 r.w,.int .i64 r.h,.slice b l d] 25)).alloc (.cells #[.int .i64 W,.int .i64 H,.slice b2 l2 d2] 25)).alloc (.cells (ic (zl 71)) 32))=w1 at *;have q0:=IB.new w1 32 (zl 71);have e1:=Ext.alloc w1 (.cells (ic (zl 71)) 32);go_upto_region 2 with(first|(refine wpList_iallocz 32 rfl rfl 71 zeroq_M ?_;(try simp only[World.size_alloc]))|(refine wpList_istore 32 _ _ rfl rfl q0 0 71 rfl _ rfl (zl 71) zeroc_M size_Macro (zl_len 71) (by rw[zl_len];omega) ?_;intro w2 r2 g2;refine Hid.out ?_))
 rw[spl_all (by rw[zl_len])]at r2;obtain⟨Q,hQ⟩:∃ Q,Q=w1.heap.size:=⟨_,rfl⟩;rw[←hQ]at r2 g2 hB3⊢;have hQl:=r2.lt;have Y0:=blk_gr (e1.blk X0) g2 (by simp;omega);have Y1:=blk_gr (e1.blk X1) g2 (by simp;omega);have Y2:=blk_gr (e1.blk X2) g2 (by simp;omega);have Y3:=(X3.ext e1).gr g2 (by simp;omega);have E2:Ext w w2:=Ext.grown (E0.trans e1) g2 (fun k e=>by cases e;omega);clear X0 X1 X2 X3 E0 q0 e1 g2 hQ;refine Lib.hid ?_;obtain⟨-,k0,k1,k2,-⟩:=bx3 Y0;obtain⟨-,j0,j1,j2,-⟩:=bx3 Y1;obtain⟨-,i0,i1,i2,-⟩:=bx3 Y2;go_wp2_with (refine wpList_iload 32 _ rfl rfl r2 0 71 rfl _ Tryz.underlying32 rfl size_Macro (by rw[zl_len];omega) _ (by rw[sub_all _ _ (zl_len 71)]) ?_)
 have hc:=spec_cost_in t r W H x y px mac0 q top a b b2 c d d2 n l l2 w2 HN.out HL.out HL2.out (by omega) (s.ext E2) (u.ext E2) (v.ext E2) mac0_ok HTv.out (HO.out _ mac0_val);rw[mac0_zz]at hc;refine hc.mono ?_;clear hc
 rintro e w3 ⟨rfl,e3⟩
 rw[show sqS t ⟨W,H,bldS r ⟨W,H,px⟩ x y mac0 q top 4⟩ x y 64+stp q*(macN mac0:Int)=cst t r ⟨W,H,px⟩ x y q top (stC t r ⟨W,H,px⟩ x y q top m1 m2 0)from rfl];obtain⟨D0,hD0⟩:∃ D,D=cst t r ⟨W,H,px⟩ x y q top (stC t r ⟨W,H,px⟩ x y q top m1 m2 0):=⟨_,rfl⟩;rw[←hD0];have HD0:=Lib.hid hD0;have Z0:=e3.blk Y0;have Z1:=e3.blk Y1;have Z2:=e3.blk Y2;have Z3:=Y3.ext e3;have r3:=r2.ext e3;have E3:=E2.trans e3;have hQ3:=r3.lt;clear Y0 Y1 Y2 Y3 r2 E2 e3 k0 k1 k2 j0 j1 j2 i0 i1 i2 hD0 hQl;go_wp2_with fail
 have hext:Stab (fun wa wb=>Ext wa wb) (fun i own ys wx=>match i with|0=>own= .agg #[.int .i64 t.w,.int .i64 t.h,.slice a n c]|1=>own= .agg #[.int .i64 r.w,.int .i64 r.h,.slice b l d]|2=>own= .int .i64 (x:Nat)|3=>own= .int .i64 (y:Nat)|4=>own= .agg #[.int .i64 t.w,.int .i64 t.h,.slice a n c]|5=>own= .agg #[.int .i64 r.w,.int .i64 r.h,.slice b l d]|6=>own= .int .i64 (x:Nat)|7=>own= .int .i64 (y:Nat)|8=>own= .agg #[.int .i64 p0,.int .i64 p1]|9=>own= .int .i64 (q:Nat)|10=>own= .agg (ic m1.zs)|11=>own= .agg #[.int .i64 t.w,.int .i64 t.h,.slice a n c]|12=>own= .agg #[.int .i64 W,.int .i64 H,.slice b2 l2 d2]|13=>own= .int .i64 (x:Nat)|14=>own= .int .i64 (y:Nat)|15=>own= .int .i64 (q:Nat)|16=>own= .int .i64 top|17=>own= .agg (ic m2.zs)|18=>∃ g:Nat,own= .slice (some ⟨g,0,none⟩) 2 2∧IB wx g 32 (m1.zs++m2.zs)∧Q<g|19=>∃ g:Nat,own= .slice (some ⟨g,0,none⟩) 2 2∧IB wx g 32 (m1.zs++m2.zs)∧Q<g|_=>True):=by
  intro i own ys wa wb e h
  match i,h with
  | 0,h|1,h|2,h|3,h|4,h|5,h|6,h|7,h|8,h|9,h|10,h|11,h|12,h|13,h|14,h|15,h|16,h|17,h=>exact h
  | 18,h|19,h=>obtain⟨g9,h1,h2,h3⟩:=h;exact⟨g9,h1,h2.ext e,h3⟩
  | _+20,_=>trivial
 have Hext:=Lib.hid hext;clear hext;refine wp_region_inv2 (by kernel_rfl) [(17,19),(30,0),(31,1),(32,2),(33,3),(34,4),(35,5),(36,6),(37,7),(38,8),(39,9),(40,10),(41,11),(42,12),(43,13),(44,14),(45,15),(46,16),(47,17),(48,18)] [[],[],[],[],[],[],[],[],[4,5,6,7],[],[0,1,2,3,4,5,6,7,8,9],[],[],[],[],[],[],[0,1,2,3,4,5,6,7,8,9,10,11,12,13,14,15,16],[0,1,2,3,4,5,6,7,8,9,10,11,12,13,14,15,16,17],[0,1,2,3,4,5,6,7,8,9,10,11,12,13,14,15,16,17,18]] (fun i own ys wx=>match i with|0=>own= .agg #[.int .i64 t.w,.int .i64 t.h,.slice a n c]|1=>own= .agg #[.int .i64 r.w,.int .i64 r.h,.slice b l d]|2=>own= .int .i64 (x:Nat)|3=>own= .int .i64 (y:Nat)|4=>own= .agg #[.int .i64 t.w,.int .i64 t.h,.slice a n c]|5=>own= .agg #[.int .i64 r.w,.int .i64 r.h,.slice b l d]|6=>own= .int .i64 (x:Nat)|7=>own= .int .i64 (y:Nat)|8=>own= .agg #[.int .i64 p0,.int .i64 p1]|9=>own= .int .i64 (q:Nat)|10=>own= .agg (ic m1.zs)|11=>own= .agg #[.int .i64 t.w,.int .i64 t.h,.slice a n c]|12=>own= .agg #[.int .i64 W,.int .i64 H,.slice b2 l2 d2]|13=>own= .int .i64 (x:Nat)|14=>own= .int .i64 (y:Nat)|15=>own= .int .i64 (q:Nat)|16=>own= .int .i64 top|17=>own= .agg (ic m2.zs)|18=>∃ g:Nat,own= .slice (some ⟨g,0,none⟩) 2 2∧IB wx g 32 (m1.zs++m2.zs)∧Q<g|19=>∃ g:Nat,own= .slice (some ⟨g,0,none⟩) 2 2∧IB wx g 32 (m1.zs++m2.zs)∧Q<g|_=>True) (fun kx wx=>Ext w3 wx) (by kernel_rfl) (by kernel_rfl) (by kernel_rfl) ?g0_r1 ?gop_r1 ?gend_r1
 case g0_r1=>exact Ext.drewN _ 1
 case gop_r1 =>
  refine⟨?o0,?o1,?_,?_,?o4,?o5,?_,?_,?o8,?_,?o10,?o11,?o12,?_,?_,?_,?_,?o17,?o18,?o19,trivial⟩ <;> (intro kx xs wx hk hG hD hI Qo Kx hK hQo;simp only[patchS,Nat.reduceAdd,Nat.reduceEqDiff,↓reduceIte]at hQo⊢)
  case o0 =>
   clear hD hI;obtain⟨-,k0,k1,k2,-⟩:=bx3 (hG.blk Z0);go_wp2;exact hK.out _ _ ⟨rfl,hG,kkp⟩
  case o1 =>
   clear hD hI;obtain⟨-,k0,k1,k2,-⟩:=bx3 (hG.blk Z1);go_wp2;exact hK.out _ _ ⟨rfl,hG,kkp⟩
  case o4 =>
   clear hD hI;obtain⟨-,k0,k1,k2,-⟩:=bx3 (hG.blk Z0);go_wp2;exact hK.out _ _ ⟨rfl,hG,kkp⟩
  case o5 =>
   clear hD hI;obtain⟨-,k0,k1,k2,-⟩:=bx3 (hG.blk Z1);go_wp2;exact hK.out _ _ ⟨rfl,hG,kkp⟩
  case o8 =>
   rw[ddq (hD 4 rfl),ddq (hD 5 rfl),ddq (hD 6 rfl),ddq (hD 7 rfl)]at hQo⊢;clear hD hI;go_wp2_with fail
   refine(l7Search_in t r x y a b c d n l _ HTv.out HRv.out HN.out HL.out (s.ext (E3.trans hG)) (u.ext (E3.trans hG)) (by omega) (by omega)).mono ?_;rw[HBV.out]
   rintro e wz ⟨rfl,ez⟩
   go_wp2;exact hK.out _ _ ⟨rfl,hG.trans ez,fun i _ _ _ own ys h=>Hext.out i own ys _ _ ez h⟩
  case o10 =>
   rw[ddq (hD 0 rfl),ddq (hD 1 rfl),ddq (hD 2 rfl),ddq (hD 3 rfl),ddq (hD 8 rfl),ddq (hD 9 rfl)]at hQo⊢;clear hD hI;go_wp2_with fail
   refine(l8Inter_yes t r x y p0 p1 q a b c d n l _ HN.out HL.out (by omega) (by omega) (s.ext (E3.trans hG)) (u.ext (E3.trans hG)) HRv.out HTv.out (by omega) (by omega) hvv hq).mono ?_;rw[Hm1.out]
   rintro e wz ⟨rfl,ez⟩
   go_wp2;exact hK.out _ _ ⟨rfl,hG.trans ez,fun i _ _ _ own ys h=>Hext.out i own ys _ _ ez h⟩
  case o11 =>
   clear hD hI;obtain⟨-,k0,k1,k2,-⟩:=bx3 (hG.blk Z0);go_wp2;exact hK.out _ _ ⟨rfl,hG,kkp⟩
  case o12 =>
   clear hD hI;obtain⟨-,k0,k1,k2,-⟩:=bx3 (hG.blk Z2);go_wp2;exact hK.out _ _ ⟨rfl,hG,kkp⟩
  case o17 =>
   rw[ddq (hD 11 rfl),ddq (hD 12 rfl),ddq (hD 13 rfl),ddq (hD 14 rfl),ddq (hD 15 rfl),ddq (hD 16 rfl)]at hQo⊢;clear hD hI;go_wp2_with fail
   refine(l8Intra_yes t W H x y px q top a b2 c d2 n l2 _ HN.out HL2.out (by omega) (by omega) (s.ext (E3.trans hG)) (v.ext (E3.trans hG)) HTv.out HPv.out hW8.1 hW8.2.1 hW8.2.2.1 hW8.2.2.2 hq ht0).mono ?_;rw[Hm2.out]
   rintro e wz ⟨rfl,ez⟩
   go_wp2;exact hK.out _ _ ⟨rfl,hG.trans ez,fun i _ _ _ own ys h=>Hext.out i own ys _ _ ez h⟩
  case o18 =>
   rw[ddq (hD 10 rfl),ddq (hD 17 rfl)]at hQo⊢;clear hD hI;refine wpList_bs2 _ _ rfl rfl m1.zs m2.zs rfl rfl hl1.out hl2'.out ?_;exact hQo _ _ (hK.out _ _ ⟨⟨_,rfl,IB.new _ _ _,by have:=hG.size;omega⟩,hG.trans (Ext.alloc _ _),fun i _ _ _ own ys h=>Hext.out i own ys _ _ (Ext.alloc _ _) h⟩)
  case o19 =>
   have d18:∃ g:Nat,(xs 18) = .slice (some ⟨g,0,none⟩) 2 2∧IB wx g 32 (m1.zs++m2.zs)∧Q<g:=hD 18 rfl;clear hD hI;generalize xs 18=y18 at *;obtain⟨g18,rfl,i18,hg18⟩:=d18;go_wp2;exact hK.out _ _ ⟨⟨_,rfl,i18,hg18⟩,hG,fun _ _ _ _ _ _ h=>h⟩
  all_goals
   clear hD hI;go_wp2;exact hK.out _ _ ⟨rfl,hG,kkp⟩
 clear Hext;intro xs wx hV hG;have d19:∃ g:Nat,(xs 19) = .slice (some ⟨g,0,none⟩) 2 2∧IB wx g 32 (m1.zs++m2.zs)∧Q<g:=hV 19 (by decide);clear hV;simp only[patchS,Nat.reduceAdd,Nat.reduceEqDiff,↓reduceIte];generalize xs 0=y0,xs 1=y1,xs 2=y2,xs 3=y3,xs 4=y4,xs 5=y5,xs 6=y6,xs 7=y7,xs 8=y8,xs 9=y9,xs 10=y10,xs 11=y11,xs 12=y12,xs 13=y13,xs 14=y14,xs 15=y15,xs 16=y16,xs 17=y17,xs 18=y18,xs 19=y19 at *
 replace hG:Ext w3 wx:=hG
 obtain⟨G,rfl,iG,hQG⟩:=d19;have L0:CS w B Q G t r W H a b b2 n c l d l2 d2 (m1.zs++m2.zs) (stC t r ⟨W,H,px⟩ x y q top m1 m2 0).zs wx :=
  ⟨E3.trans hG,hG.blk Z0,hG.blk Z1,hG.blk Z2,Z3.ext hG,by rw[show stC t r ⟨W,H,px⟩ x y q top m1 m2 0=mac0 from rfl,mac0_zz];exact r3.ext hG,iG,⟨hwB,hB3,hQG⟩⟩
 clear Z0 Z1 Z2 Z3 r3 E3 hG iG hQ3;generalize wx=w4 at *;go_wp2_with fail
 go_loopw [18,16] (fun k ls wr=>∃(K:Nat) (z:Int),K≤2∧k= .int .i64 z∧z=(K:Int)∧CS w B Q G t r W H a b b2 n c l d l2 d2 (m1.zs++m2.zs) (stC t r ⟨W,H,px⟩ x y q top m1 m2 K).zs wr∧ls= .int .i64 (cst t r ⟨W,H,px⟩ x y q top (stC t r ⟨W,H,px⟩ x y q top m1 m2 K))) (fun k _ _=>(2-intOf k).toNat)
 case atStart=>exact⟨0,0,by omega,rfl,rfl,L0,by rw[HD0.out]⟩
 case round =>
  obtain⟨K,z,hK,rfl,hz,Lk,rfl⟩:=hrel;clear L0;obtain rfl|rfl|rfl:K=0∨K=1∨K=2:=by omega
  ·obtain rfl:z=0:=hz;have hd:decide ((0:Int)<2)=true:=by decide
   obtain⟨C,hC⟩:∃ C,C=cst t r ⟨W,H,px⟩ x y q top (m1):=⟨_,rfl⟩;obtain⟨D,hD⟩:∃ D,D=cst t r ⟨W,H,px⟩ x y q top (stC t r ⟨W,H,px⟩ x y q top m1 m2 0):=⟨_,rfl⟩;have Hst:=Lib.hid (show stC t r ⟨W,H,px⟩ x y q top m1 m2 1=if cst t r ⟨W,H,px⟩ x y q top (m1)<cst t r ⟨W,H,px⟩ x y q top (stC t r ⟨W,H,px⟩ x y q top m1 m2 0)then m1 else stC t r ⟨W,H,px⟩ x y q top m1 m2 0 from rfl);rw[←hC,←hD]at Hst;rw[←hD];have HC:=Lib.hid (show sqS t ⟨W,H,bldS r ⟨W,H,px⟩ x y m1 q top 4⟩ x y 64+stp q*(macN m1:Int)=C from hC.symm);have HCc:=Lib.hid hC;have HD:=Lib.hid hD;clear hC hD;obtain⟨ms,hms⟩:∃ ms,ms=stC t r ⟨W,H,px⟩ x y q top m1 m2 0:=⟨_,rfl⟩;rw[←hms]at Lk;rw[←hms]at Hst;have Hml:=Lib.hid (Mac.zs_len (stC_ok (t:=t) (r:=r) (p:=⟨W,H,px⟩) (x:=x) (y:=y) (q:=q) (top:=top) hm1.out hm2.out 0));rw[←hms]at Hml;have Hms:=Lib.hid hms;clear hms;go_upto_region 7 with fail
   refine wp_region_inv2 (by kernel_rfl) [(19,12),(53,0),(54,1),(55,2),(56,3),(57,4),(58,5),(59,6),(60,7),(61,8),(62,9),(63,10),(64,11)] [[],[],[],[],[],[],[],[5,6],[5,6,7],[],[],[0,1,2,3,4,5,6,7,8,9,10],[0,1,2,3,4,5,6,7,8,9,10,11]] (fun i own ys wx=>match i with|0=>own= .agg #[.int .i64 t.w,.int .i64 t.h,.slice a n c]|1=>own= .agg #[.int .i64 r.w,.int .i64 r.h,.slice b l d]|2=>own= .agg #[.int .i64 W,.int .i64 H,.slice b2 l2 d2]|3=>own= .int .i64 (x:Nat)|4=>own= .int .i64 (y:Nat)|5=>own= .slice (some ⟨G,0,none⟩) 2 2|6=>own= .int .i64 0|7=>own= .pointer (some ⟨G,0,none⟩)|8=>own= .agg (ic m1.zs)|9=>own= .int .i64 (q:Nat)|10=>own= .int .i64 top|11=>own= .int .i64 C|12=>own= .int .i64 C|_=>True) (fun kx wx=>CS w B Q G t r W H a b b2 n c l d l2 d2 (m1.zs++m2.zs) ms.zs wx) (by kernel_rfl) (by kernel_rfl) (by kernel_rfl) ?g0_r2 ?gop_r2 ?gend_r2
   case g0_r2=>exact Lk.e (Ext.drewN _ 1)
   case gop_r2 =>
    refine⟨?o0,?o1,?o2,?_,?_,?_,?_,?o7,?o8,?_,?_,?o11,?o12,trivial⟩ <;> (intro kx xs wx hk hG hD hI Qo Kx hK hQo;simp only[patchS,Nat.reduceAdd,Nat.reduceEqDiff,↓reduceIte]at hQo⊢)
    case o0 =>
     clear hD hI;obtain⟨-,k0,k1,k2,-⟩:=bx3 hG.f1;go_wp2;exact hK.out _ _ ⟨rfl,hG,kkp⟩
    case o1 =>
     clear hD hI;obtain⟨-,k0,k1,k2,-⟩:=bx3 hG.f2;go_wp2;exact hK.out _ _ ⟨rfl,hG,kkp⟩
    case o2 =>
     clear hD hI;obtain⟨-,k0,k1,k2,-⟩:=bx3 hG.f3;go_wp2;exact hK.out _ _ ⟨rfl,hG,kkp⟩
    case o7 =>
     rw[ddq (hD 5 rfl),ddq (hD 6 rfl)]at hQo⊢;clear hD hI;go_wp2;exact hK.out _ _ ⟨rfl,hG,kkp⟩
    case o8 =>
     rw[ddq (hD 7 rfl)]at hQo⊢;clear hD hI;go_wp2_with (refine wpList_iload 32 _ rfl rfl hG.li 0 71 rfl _ Tryz.underlying32 rfl size_Macro (by rw[HB0.out];omega) _ (by rw[HB1.out]) ?_)
     exact hK.out _ _ ⟨rfl,hG,kkp⟩
    case o11 =>
     rw[ddq (hD 0 rfl),ddq (hD 1 rfl),ddq (hD 2 rfl),ddq (hD 3 rfl),ddq (hD 4 rfl),ddq (hD 8 rfl),ddq (hD 9 rfl),ddq (hD 10 rfl)]at hQo⊢;clear hD hI;go_wp2_with fail
     refine(spec_cost_in t r W H x y px m1 q top a b b2 c d d2 n l l2 _ HN.out HL.out HL2.out (by omega) (s.ext hG.ex) (u.ext hG.ex) (v.ext hG.ex) hm1.out HTv.out (HO.out _ vm1.out)).mono ?_
     rintro e wz ⟨rfl,ez⟩
     rw[HC.out];go_wp2;exact hK.out _ _ ⟨rfl,hG.e ez,fun _ _ _ _ _ _ h=>h⟩
    case o12 =>
     rw[ddq (hD 11 rfl)]at hQo⊢;clear hD hI;go_wp2;exact hK.out _ _ ⟨rfl,hG,kkp⟩
    all_goals
     clear hD hI;go_wp2;exact hK.out _ _ ⟨rfl,hG,kkp⟩
   intro xs wx hV hG;have d12:_=_:=hV 12 (by decide);clear hV;simp only[patchS,Nat.reduceAdd,Nat.reduceEqDiff,↓reduceIte];generalize xs 0=y0,xs 1=y1,xs 2=y2,xs 3=y3,xs 4=y4,xs 5=y5,xs 6=y6,xs 7=y7,xs 8=y8,xs 9=y9,xs 10=y10,xs 11=y11,xs 12=y12 at *
   replace hG:CS w B Q G t r W H a b b2 n c l d l2 d2 (m1.zs++m2.zs) ms.zs wx:=hG
   subst d12;have L9:=hG;clear Lk hG;generalize wx=w9 at *
   by_cases hlt:C<D
   ·have f1:decide (C<D)=true:=by simpa using hlt
    have Hst2:=Lib.hid (Hst.out.trans (if_pos hlt));have li:=L9.li;have be:=L9.be;have HMl:=Lib.hid (Mac.zs_len hm1.out);clear Hst;go_wp2_with (first|(refine wpList_iload 32 _ rfl rfl li 0 71 rfl _ Tryz.underlying32 rfl size_Macro (by rw[HB0.out];omega) _ (by rw[HB1.out]) ?_)|(refine wpList_istore 32 _ _ rfl rfl be 0 71 rfl _ rfl m1.zs rfl size_Macro HMl.out (by rw[Hml.out];omega) ?_;intro wf rf gf;refine Hid.out ?_))
    rw[spl_all (by rw[HMl.out,Hml.out])]at rf;have LN:=L9.set rf gf;refine Lib.hid ?_;go_wp2;go_roundw
    case rel=>exact⟨1,1,by omega,rfl,rfl,by rw[Hst2.out];exact LN,by rw[Hst2.out];exact congrArg (Value.int .i64) HCc.out⟩
    case measure=>simp[intOf]
   ·have f1:decide (C<D)=false:=by simpa using hlt
    have Hst2:=Lib.hid (Hst.out.trans (if_neg hlt));clear Hst;go_wp2;go_roundw
    case rel=>exact⟨1,1,by omega,rfl,rfl,by rw[Hst2.out];exact L9,by rw[Hst2.out,Hms.out,HD.out]⟩
    case measure=>simp[intOf]
  ·obtain rfl:z=1:=hz;have hd:decide ((1:Int)<2)=true:=by decide
   obtain⟨C,hC⟩:∃ C,C=cst t r ⟨W,H,px⟩ x y q top (m2):=⟨_,rfl⟩;obtain⟨D,hD⟩:∃ D,D=cst t r ⟨W,H,px⟩ x y q top (stC t r ⟨W,H,px⟩ x y q top m1 m2 1):=⟨_,rfl⟩;have Hst:=Lib.hid (show stC t r ⟨W,H,px⟩ x y q top m1 m2 2=if cst t r ⟨W,H,px⟩ x y q top (m2)<cst t r ⟨W,H,px⟩ x y q top (stC t r ⟨W,H,px⟩ x y q top m1 m2 1)then m2 else stC t r ⟨W,H,px⟩ x y q top m1 m2 1 from rfl);rw[←hC,←hD]at Hst;rw[←hD];have HC:=Lib.hid (show sqS t ⟨W,H,bldS r ⟨W,H,px⟩ x y m2 q top 4⟩ x y 64+stp q*(macN m2:Int)=C from hC.symm);have HCc:=Lib.hid hC;have HD:=Lib.hid hD;clear hC hD;obtain⟨ms,hms⟩:∃ ms,ms=stC t r ⟨W,H,px⟩ x y q top m1 m2 1:=⟨_,rfl⟩;rw[←hms]at Lk;rw[←hms]at Hst;have Hml:=Lib.hid (Mac.zs_len (stC_ok (t:=t) (r:=r) (p:=⟨W,H,px⟩) (x:=x) (y:=y) (q:=q) (top:=top) hm1.out hm2.out 1));rw[←hms]at Hml;have Hms:=Lib.hid hms;clear hms;go_upto_region 7 with fail
   refine wp_region_inv2 (by kernel_rfl) [(19,12),(53,0),(54,1),(55,2),(56,3),(57,4),(58,5),(59,6),(60,7),(61,8),(62,9),(63,10),(64,11)] [[],[],[],[],[],[],[],[5,6],[5,6,7],[],[],[0,1,2,3,4,5,6,7,8,9,10],[0,1,2,3,4,5,6,7,8,9,10,11]] (fun i own ys wx=>match i with|0=>own= .agg #[.int .i64 t.w,.int .i64 t.h,.slice a n c]|1=>own= .agg #[.int .i64 r.w,.int .i64 r.h,.slice b l d]|2=>own= .agg #[.int .i64 W,.int .i64 H,.slice b2 l2 d2]|3=>own= .int .i64 (x:Nat)|4=>own= .int .i64 (y:Nat)|5=>own= .slice (some ⟨G,0,none⟩) 2 2|6=>own= .int .i64 1|7=>own= .pointer (some ⟨G,71,none⟩)|8=>own= .agg (ic m2.zs)|9=>own= .int .i64 (q:Nat)|10=>own= .int .i64 top|11=>own= .int .i64 C|12=>own= .int .i64 C|_=>True) (fun kx wx=>CS w B Q G t r W H a b b2 n c l d l2 d2 (m1.zs++m2.zs) ms.zs wx) (by kernel_rfl) (by kernel_rfl) (by kernel_rfl) ?g0_r3 ?gop_r3 ?gend_r3
   case g0_r3=>exact Lk.e (Ext.drewN _ 1)
   case gop_r3 =>
    refine⟨?o0,?o1,?o2,?_,?_,?_,?_,?o7,?o8,?_,?_,?o11,?o12,trivial⟩ <;> (intro kx xs wx hk hG hD hI Qo Kx hK hQo;simp only[patchS,Nat.reduceAdd,Nat.reduceEqDiff,↓reduceIte]at hQo⊢)
    case o0 =>
     clear hD hI;obtain⟨-,k0,k1,k2,-⟩:=bx3 hG.f1;go_wp2;exact hK.out _ _ ⟨rfl,hG,kkp⟩
    case o1 =>
     clear hD hI;obtain⟨-,k0,k1,k2,-⟩:=bx3 hG.f2;go_wp2;exact hK.out _ _ ⟨rfl,hG,kkp⟩
    case o2 =>
     clear hD hI;obtain⟨-,k0,k1,k2,-⟩:=bx3 hG.f3;go_wp2;exact hK.out _ _ ⟨rfl,hG,kkp⟩
    case o7 =>
     rw[ddq (hD 5 rfl),ddq (hD 6 rfl)]at hQo⊢;clear hD hI;go_wp2;exact hK.out _ _ ⟨rfl,hG,kkp⟩
    case o8 =>
     rw[ddq (hD 7 rfl)]at hQo⊢;clear hD hI;go_wp2_with (refine wpList_iload 32 _ rfl rfl hG.li 71 71 rfl _ Tryz.underlying32 rfl size_Macro (by rw[HB0.out];omega) _ (by rw[HB2.out]) ?_)
     exact hK.out _ _ ⟨rfl,hG,kkp⟩
    case o11 =>
     rw[ddq (hD 0 rfl),ddq (hD 1 rfl),ddq (hD 2 rfl),ddq (hD 3 rfl),ddq (hD 4 rfl),ddq (hD 8 rfl),ddq (hD 9 rfl),ddq (hD 10 rfl)]at hQo⊢;clear hD hI;go_wp2_with fail
     refine(spec_cost_in t r W H x y px m2 q top a b b2 c d d2 n l l2 _ HN.out HL.out HL2.out (by omega) (s.ext hG.ex) (u.ext hG.ex) (v.ext hG.ex) hm2.out HTv.out (HO.out _ vm2.out)).mono ?_
     rintro e wz ⟨rfl,ez⟩
     rw[HC.out];go_wp2;exact hK.out _ _ ⟨rfl,hG.e ez,fun _ _ _ _ _ _ h=>h⟩
    case o12 =>
     rw[ddq (hD 11 rfl)]at hQo⊢;clear hD hI;go_wp2;exact hK.out _ _ ⟨rfl,hG,kkp⟩
    all_goals
     clear hD hI;go_wp2;exact hK.out _ _ ⟨rfl,hG,kkp⟩
   intro xs wx hV hG;have d12:_=_:=hV 12 (by decide);clear hV;simp only[patchS,Nat.reduceAdd,Nat.reduceEqDiff,↓reduceIte];generalize xs 0=y0,xs 1=y1,xs 2=y2,xs 3=y3,xs 4=y4,xs 5=y5,xs 6=y6,xs 7=y7,xs 8=y8,xs 9=y9,xs 10=y10,xs 11=y11,xs 12=y12 at *
   replace hG:CS w B Q G t r W H a b b2 n c l d l2 d2 (m1.zs++m2.zs) ms.zs wx:=hG
   subst d12;have L9:=hG;clear Lk hG;generalize wx=w9 at *
   by_cases hlt:C<D
   ·have f1:decide (C<D)=true:=by simpa using hlt
    have Hst2:=Lib.hid (Hst.out.trans (if_pos hlt));have li:=L9.li;have be:=L9.be;have HMl:=Lib.hid (Mac.zs_len hm2.out);clear Hst;go_wp2_with (first|(refine wpList_iload 32 _ rfl rfl li 71 71 rfl _ Tryz.underlying32 rfl size_Macro (by rw[HB0.out];omega) _ (by rw[HB2.out]) ?_)|(refine wpList_istore 32 _ _ rfl rfl be 0 71 rfl _ rfl m2.zs rfl size_Macro HMl.out (by rw[Hml.out];omega) ?_;intro wf rf gf;refine Hid.out ?_))
    rw[spl_all (by rw[HMl.out,Hml.out])]at rf;have LN:=L9.set rf gf;refine Lib.hid ?_;go_wp2;go_roundw
    case rel=>exact⟨2,2,by omega,rfl,rfl,by rw[Hst2.out];exact LN,by rw[Hst2.out];exact congrArg (Value.int .i64) HCc.out⟩
    case measure=>simp[intOf]
   ·have f1:decide (C<D)=false:=by simpa using hlt
    have Hst2:=Lib.hid (Hst.out.trans (if_neg hlt));clear Hst;go_wp2;go_roundw
    case rel=>exact⟨2,2,by omega,rfl,rfl,by rw[Hst2.out];exact L9,by rw[Hst2.out,Hms.out,HD.out]⟩
    case measure=>simp[intOf]
  ·obtain rfl:z=2:=hz;have hd:decide ((2:Int)<2)=false:=by decide
   rw[HR.out]at Lk;obtain⟨D,hD⟩:∃ D,D=cst t r ⟨W,H,px⟩ x y q top (stC t r ⟨W,H,px⟩ x y q top m1 m2 2):=⟨_,rfl⟩;rw[←hD];clear hD;obtain⟨R,hR⟩:∃ R,R=(chM t r ⟨W,H,px⟩ x y q top).zs:=⟨_,rfl⟩;have Hrl:=Lib.hid (show R.length=71 by rw[hR];exact Mac.zs_len (chM_ok _ _ _ _ _ _ _));rw[←hR]at Lk;have HRR:=Lib.hid hR;clear hR;have be:=Lk.be;have rs:=Lk.rs;have hex:=Lk.ex;have hod:=Lk.od;clear Lk;go_wp2_with (first|(refine wpList_iload 32 _ rfl rfl be 0 71 rfl _ Tryz.underlying32 rfl size_Macro (by rw[Hrl.out];omega) _ (by rw[sub_all _ _ Hrl.out]) ?_)|(refine wpList_istore 32 _ _ rfl rfl rs 0 71 rfl _ rfl R rfl size_Macro Hrl.out (by rw[zl_len];omega) ?_;intro w6 p6 g6;refine Hid.out ?_))
   rw[spl_all (by rw[Hrl.out,zl_len])]at p6;have E6:Ext w w6:=Ext.grown hex g6 (fun q hq=>by cases hq;omega);refine Lib.hid ?_;go_wp2;exact bodyPost_ret (v := .agg (ic R)) (results_cell_row rfl _ _ (B+1+1+1) 32 (ic R) (0,0) _ rfl p6 Tryz.underlying32 rfl (by rw[ic_size,Hrl.out];exact size_Macro)) rfl ⟨by rw[HRR.out],E6⟩
attribute [local go_sem] Oper.semAt_some
theorem motionCost_in (t r:Pic) (x y:Nat) (vx vy:Int) (a b:Option Addr) (c d n l:Nat) (w:World) (htv:t.valid) (hrv:r.valid) (hn:n=t.px.length) (hl:l=r.px.length) (s:Sl w a n (t.px.map (Value.int .i64))) (u:Sl w b l (r.px.map (Value.int .i64))) (hx:x≤100) (hy:y≤100) (v1 : -16≤vx) (v2:vx≤16) (v3 : -16≤vy) (v4:vy≤16) :
 Calls Tryz.prog 74 #[.agg #[.int .i64 t.w,.int .i64 t.h,.slice a n c],.agg #[.int .i64 r.w,.int .i64 r.h,.slice b l d],.int .i64 (x:Nat),.int .i64 (y:Nat),.agg #[.int .i64 vx,.int .i64 vy]] w fun e w'=>e= .returned (.int .i64 (cV t r x y vx vy))∧Ext w w':=by
 have HN:=Lib.hid hn;have HL:=Lib.hid hl;have HS:=Lib.hid (fun k (hk:k≤64)=>sadS_rng (blkL_smp htv (x:Int) (y:Int) 0 0) (blkL_smp hrv (x:Int) (y:Int) vx vy) (blkL_len _ _ _ _ _) (blkL_len _ _ _ _ _) hk);have HX:=Lib.hid (fun k (hk:k<64)=>smp_nth (blkL_smp htv (x:Int) (y:Int) 0 0) (i:=k) (by rw[blkL_len];exact hk));have HY:=Lib.hid (fun k (hk:k<64)=>smp_nth (blkL_smp hrv (x:Int) (y:Int) vx vy) (i:=k) (by rw[blkL_len];exact hk));have HP:=Lib.hid (fun k (hk:k<64)=>nth_blk0 t (x:Int) (y:Int) hk);clear hn hl;have Y0:=(Ext.alloc ((w.alloc (.cells #[.int .i64 t.w,.int .i64 t.h,.slice a n c] 25)).alloc (.cells #[.int .i64 r.w,.int .i64 r.h,.slice b l d] 25)) (.cells #[.int .i64 vx,.int .i64 vy] 27)).blk ((Ext.alloc (w.alloc (.cells #[.int .i64 t.w,.int .i64 t.h,.slice a n c] 25)) (.cells #[.int .i64 r.w,.int .i64 r.h,.slice b l d] 25)).blk (blk_new w (.cells #[.int .i64 t.w,.int .i64 t.h,.slice a n c] 25)));have Y1:=(Ext.alloc ((w.alloc (.cells #[.int .i64 t.w,.int .i64 t.h,.slice a n c] 25)).alloc (.cells #[.int .i64 r.w,.int .i64 r.h,.slice b l d] 25)) (.cells #[.int .i64 vx,.int .i64 vy] 27)).blk (blk_new (w.alloc (.cells #[.int .i64 t.w,.int .i64 t.h,.slice a n c] 25)) (.cells #[.int .i64 r.w,.int .i64 r.h,.slice b l d] 25));have Y2:=blk_new ((w.alloc (.cells #[.int .i64 t.w,.int .i64 t.h,.slice a n c] 25)).alloc (.cells #[.int .i64 r.w,.int .i64 r.h,.slice b l d] 25)) (.cells #[.int .i64 vx,.int .i64 vy] 27);have F1:=((Ext.alloc w (.cells #[.int .i64 t.w,.int .i64 t.h,.slice a n c] 25)).trans (Ext.alloc _ (.cells #[.int .i64 r.w,.int .i64 r.h,.slice b l d] 25))).trans (Ext.alloc _ (.cells #[.int .i64 vx,.int .i64 vy] 27));simp only[World.size_alloc]at Y1 Y2;obtain⟨B,hB⟩:∃ B,B=w.heap.size:=⟨_,rfl⟩;rw[←hB]at Y0 Y1 Y2;go_enter Tryz.func74,Tryz.ntmps74
 go_upto_region 1 with fail
 try simp only[World.size_alloc]
 rw[←hB];clear hB;generalize (((w.alloc (.cells #[.int .i64 t.w,.int .i64 t.h,.slice a n c] 25)).alloc (.cells #[.int .i64 r.w,.int .i64 r.h,.slice b l d] 25)).alloc (.cells #[.int .i64 vx,.int .i64 vy] 27))=w1 at *;obtain⟨-,k1,k2,k3,-⟩:=bx3 Y1;obtain⟨-,k4,k5,-⟩:=bx2 Y2;go_wp2_with fail
 refine(moved_any r x y vx vy b d l _ hrv HL.out (u.ext F1) (by omega) (by omega) (by omega) (by omega) v1 v2 v3 v4).mono ?_
 rintro e w4 ⟨a4,c4,rfl,o4,e4⟩
 obtain⟨g4,rfl⟩:=own_ptr o4 (by omega);have S4:=Sl.of_owns o4;have G0:=e4.blk Y0;have F2:=F1.trans e4;clear Y0 Y1 Y2 F1 e4 o4 k1 k2 k3 k4 k5;go_wp2_with fail
 go_loopw [11,20] (fun v i wr=>∃ k:Nat,k≤64∧i= .int .i64 k∧v= .int .i64 (sadS (blkL t x y 0 0) (blkL r x y vx vy) k)∧Ext w4 wr) (fun _ i _=>64-(intOf i).toNat)
 case atStart=>exact⟨0,by omega,rfl,by simp[sadS],Below.refl _ _⟩
 case round =>
  obtain⟨k,hk,rfl,rfl,Ek⟩:=hrel;have hsr:=HS.out k hk
  by_cases hlt:k<64
  ·have hd:decide ((k:Int)<64)=true:=by simp;omega
   have hp1:=HX.out k hlt;have hp2:=HY.out k hlt;have hp3:=HP.out k hlt;have Hnx:=Lib.hid (show sadS (blkL t x y 0 0) (blkL r x y vx vy) (k+1)=_ by rw[sadS]);obtain⟨p,hp⟩:∃ p,p=nth (blkL t x y 0 0) k:=⟨_,rfl⟩;obtain⟨q,hq⟩:∃ q,q=nth (blkL r x y vx vy) k:=⟨_,rfl⟩;rw[←hp]at hp1 hp3;rw[←hq]at hp2;rw[←hp,←hq]at Hnx;obtain⟨S,hS⟩:∃ S,S=sadS (blkL t x y 0 0) (blkL r x y vx vy) k:=⟨_,rfl⟩;rw[←hS]at hsr Hnx;rw[←hS];have cx:=cellP (S4.ext Ek) hlt hq.symm;obtain⟨P,hP0⟩:∃ P,P=max (p-q) (q-p):=⟨_,rfl⟩;rw[←hP0]at Hnx;have HPQ:=Lib.hid (show(if p-q<0 then -(p-q)else p-q)=P by rw[hP0];split <;> omega);have hPr:0≤P∧P≤255:=by omega
   obtain⟨ii,hi⟩:∃ ii,ii=k%8:=⟨_,rfl⟩;obtain⟨jj,hj⟩:∃ jj,jj=k/8:=⟨_,rfl⟩;rw[←hi,←hj]at hp3;have HPP:=Lib.hid hp3;have Hi:=Lib.hid (show(k:Int)%8=(ii:Int) by omega);have Hj:=Lib.hid (show(k:Int)/8=(jj:Int) by omega);have hib:ii<8:=by omega
   have hjb:jj<8:=by omega
   clear hp hq hS hP0 hi hj hp3;have X0:=Lib.hid (Ek.blk G0);go_upto_region 5 with fail
   clear cx;refine wp_region_seq [(11,15),(25,0),(26,1),(27,2),(28,3),(29,4),(30,5),(31,6),(32,7),(33,8),(34,9),(35,10),(36,11),(37,12),(38,13),(39,14)] [[],[0],[0,1],[0,1,2],[0,1,2,3],[0,1,2,3,4],[0,1,2,3,4,5],[0,1,2,3,4,5,6],[0,1,2,3,4,5,6,7],[0,1,2,3,4,5,6,7,8],[0,1,2,3,4,5,6,7,8,9],[0,1,2,3,4,5,6,7,8,9,10],[0,1,2,3,4,5,6,7,8,9,10,11],[0,1,2,3,4,5,6,7,8,9,10,11,12],[0,1,2,3,4,5,6,7,8,9,10,11,12,13],[0,1,2,3,4,5,6,7,8,9,10,11,12,13,14]] (fun i own ys wx=>match i with|0=>own= .int .i64 S|1=>own= .agg #[.int .i64 t.w,.int .i64 t.h,.slice a n c]|2=>own= .int .i64 (x:Nat)|3=>own= .int .i64 (k:Nat)|4=>own= .int .i64 ((k:Int)%8)|5=>own= .int .i64 ((x:Int)+(ii:Nat))|6=>own= .int .i64 (y:Nat)|7=>own= .int .i64 (k:Nat)|8=>own= .int .i64 ((k:Int)/8)|9=>own= .int .i64 ((y:Int)+(jj:Nat))|10=>own= .int .i64 p|11=>own= .int .i64 q|12=>own= .int .i64 (p-q)|13=>own= .int .i64 P|14=>own= .int .i64 (S+P)|15=>own= .int .i64 (S+P)|_=>True) (fun kx wx=>Ext wr wx) (by kernel_rfl) (by kernel_rfl) ?g0_r1 ?gop_r1 ?gend_r1
   case g0_r1=>exact Below.refl _ _
   case gop_r1 =>
    refine⟨?o0,?o1,?_,?_,?o4,?o5,?_,?_,?o8,?o9,?o10,?_,?o12,?o13,?o14,?o15,trivial⟩ <;> (intro kx xs wx hk hG hD hI Qo Kx hK hQo;simp only[patchS,Nat.reduceAdd,Nat.reduceEqDiff,↓reduceIte]at hQo⊢)
    case o0 =>
     have i15:=hI 15 11 rfl rfl;simp only[List.getD_cons_succ,List.getD_cons_zero]at i15;clear hD hI;rw[i15]at hQo⊢;clear i15;go_wp2;exact hK.out _ _ ⟨rfl,hG,kkp⟩
    case o1 =>
     clear hD hI;obtain⟨-,k0,k1,k2,-⟩:=bx3 (hG.blk X0.out);go_wp2;exact hK.out _ _ ⟨rfl,hG,kkp⟩
    case o4 =>
     rw[ddq (hD 3 rfl)]at hQo⊢;clear hD hI;go_wp2;exact hK.out _ _ ⟨rfl,hG,kkp⟩
    case o5 =>
     rw[ddq (hD 2 rfl),ddq (hD 4 rfl)]at hQo⊢;clear hD hI;go_wp2;exact hK.out _ _ ⟨by rw[←Hi.out],hG,fun _ _ _ _ _ _ h=>h⟩
    case o8 =>
     rw[ddq (hD 7 rfl)]at hQo⊢;clear hD hI;go_wp2;exact hK.out _ _ ⟨rfl,hG,kkp⟩
    case o9 =>
     rw[ddq (hD 6 rfl),ddq (hD 8 rfl)]at hQo⊢;clear hD hI;go_wp2;exact hK.out _ _ ⟨by rw[←Hj.out],hG,fun _ _ _ _ _ _ h=>h⟩
    case o10 =>
     rw[ddq (hD 1 rfl),ddq (hD 5 rfl),ddq (hD 9 rfl)]at hQo⊢;clear hD hI;go_wp2_with fail
     refine(at_any t ((x:Int)+(ii:Nat)) ((y:Int)+(jj:Nat)) a c n _ htv HN.out (s.ext (F2.trans (Ek.trans hG)))).mono ?_
     rintro e wz ⟨rfl,ez⟩
     rw[←HPP.out];go_wp2;exact hK.out _ _ ⟨rfl,hG.trans ez,fun _ _ _ _ _ _ h=>h⟩
    case o12 =>
     rw[ddq (hD 10 rfl),ddq (hD 11 rfl)]at hQo⊢;clear hD hI;go_wp2;exact hK.out _ _ ⟨rfl,hG,kkp⟩
    case o13 =>
     rw[ddq (hD 12 rfl)]at hQo⊢;clear hD hI;go_wp2_with fail
     refine(impl_abs_any (p-q) _ (by omega) (by omega)).mono ?_
     rintro e wz ⟨rfl,rfl⟩
     rw[HPQ.out];go_wp2;exact hK.out _ _ ⟨rfl,hG,kkp⟩
    case o14 =>
     rw[ddq (hD 0 rfl),ddq (hD 13 rfl)]at hQo⊢;clear hD hI;go_wp2;exact hK.out _ _ ⟨rfl,hG,kkp⟩
    case o15 =>
     rw[ddq (hD 14 rfl)]at hQo⊢;clear hD hI;go_wp2;exact hK.out _ _ ⟨rfl,hG,kkp⟩
    all_goals
     clear hD hI;go_wp2;exact hK.out _ _ ⟨rfl,hG,kkp⟩
   intro xs wx hV hG;have d15:_=_:=hV 15 (by decide);clear hV;simp only[patchS,Nat.reduceAdd,Nat.reduceEqDiff,↓reduceIte];generalize xs 0=y0,xs 1=y1,xs 2=y2,xs 3=y3,xs 4=y4,xs 5=y5,xs 6=y6,xs 7=y7,xs 8=y8,xs 9=y9,xs 10=y10,xs 11=y11,xs 12=y12,xs 13=y13,xs 14=y14,xs 15=y15 at *
   replace hG:Ext wr wx:=hG
   subst d15;go_wp2;go_roundw
   case rel=>exact⟨k+1,by omega,by go_num,by rw[Hnx.out],Ek.trans hG⟩
   case measure=>simp[intOf];omega
  ·obtain rfl:k=64:=by omega
   have Hc:=Lib.hid (show cV t r x y vx vy=_ from rfl);unfold cV at Hc;obtain⟨S,hS⟩:∃ S,S=sadS (blkL t x y 0 0) (blkL r x y vx vy) 64:=⟨_,rfl⟩;rw[←hS]at hsr⊢;have HS2:=Lib.hid hS;clear hS;go_wp2;go_ret
   exact⟨ret_int (by rw[HS2.out];rfl),F2.trans Ek⟩
/-- A vector of the search. -/
abbrev Vc := { v : Int × Int // boxV v.1 v.2 }
def encV (x:Vc):Array Value := #[.agg #[.int .i64 x.1.1,.int .i64 x.1.2]]
theorem rowV_len (s j:Nat):(rowV s j).length≤2*j:=by
 induction j with
 | zero=>simp[rowV]
 | succ j ih =>
  have:(oneV s (-(min (s:Int) 4)+j)).length≤2:=by unfold oneV;split <;> (try split) <;> simp
  simp only[rowV,List.length_append];omega
theorem vecS_len (s:Nat):(vecS s).length≤18*s:=by
 induction s with
 | zero=>simp[vecS]
 | succ s ih =>
  have:=rowV_len s (2*min s 4+1);simp only[vecS,List.length_append];omega
end Go.Proofs.YtbnhaegidfbgbaaGreatDoor
namespace Go.Proofs.YtbnhaegidfbgbaaGreatDoor
open Go.RowKit
attribute [local go_sem] Oper.semAt_some
theorem rowV_pre (s:Nat) {j k:Nat} (h:j≤k):rowV s j <+: rowV s k:=by
 induction h with
 | refl=>exact List.prefix_refl _
 | step _ ih=>exact ih.trans (List.prefix_append _ _)
theorem vecS_pre {s k:Nat} (h:s≤k):vecS s <+: vecS k:=by
 induction h with
 | refl=>exact List.prefix_refl _
 | step _ ih=>exact ih.trans (List.prefix_append _ _)
theorem vec_pre {s j:Nat} (hs:s<9) (hj:j<2*min s 4+1) {p:List (Int×Int)} (hp:p <+: oneV s (-(min (s:Int) 4)+j)):vecS s++rowV s j++p <+: vecL:=by
 have h1:rowV s j++p <+: rowV s (2*min s 4+1):=((List.prefix_append_right_inj _).2 hp).trans (rowV_pre s (show j+1≤_ by omega));have h2:vecS s++rowV s j++p <+: vecS (s+1):=by
  rw[List.append_assoc];exact(List.prefix_append_right_inj _).2 h1
 exact h2.trans (vecS_pre (show s+1≤9 by omega))
theorem no_undef {b:Bool} (h:some undef=some (Value.bool b)):False:=by cases h
theorem vectorsWithin_any (w:World) :
 Calls Tryz.prog 73 #[.int .i64 4] w fun e w'=>e= .returned (.func (.func 116) #[] #[.pointer (some ⟨w.heap.size,0,none⟩)])∧w'=w.alloc (.cells #[.int .i64 4] 3):=by
 go_enter Tryz.func73,Tryz.ntmps73
 go_wp2;go_ret
 exact⟨rfl,rfl⟩
theorem vectors_stops (n:Nat) (hn:1≤n) (Bs:Nat) (w:World) (hI:w.heap[Bs]?=some (.cells #[.int .i64 4] 3 (0,0))) :
 SeqStopsK Fence.wide n Tryz.prog 116 #[.pointer (some ⟨Bs,0,none⟩)] encV (keepB Bs) (fun xs=>xs.map (·.1)=vecL) (fun xs=>xs.map (·.1) <+: vecL) 1000 w:=by
 intro l J Jx V hW hJ hJx hY h0;have hB0:=Ext.blk hW hI;refine callsIn_wide.2 ?_;have HY:=Lib.hid hY;clear hY hI hJx hW hJ;obtain⟨-,c0,-⟩:=bx1 hB0;go_enter Tryz.func116,Tryz.ntmps116
 go_wp2_with fail
 go_loopw [9] (fun y wr=>∃(s:Nat) (pre:List Vc),s≤9∧y= .int .i64 s∧Hid (pre.map (·.1)=vecS s)∧J pre wr∧wr.heap[Bs]?=some (.cells #[.int .i64 4] 3 (0,0))) (fun y _=>9-(intOf y).toNat)
 case atStart=>exact⟨0,[],by omega,rfl,Lib.hid rfl,h0,hB0⟩
 case round =>
  obtain⟨s,pre,hs,rfl,HP,Ju,Bu⟩:=hrel;clear h0 hB0 c0;obtain⟨-,c0,-⟩:=bx1 Bu
  by_cases hlt:s<9
  ·have hd:decide ((s:Int)<9)=true:=by simp;omega
   have hmm:min (s:Int) 4=((min s 4:Nat):Int):=by omega
   obtain⟨m,hm⟩:∃ m,m=min s 4:=⟨_,rfl⟩;rw[←hm]at hmm;have hms:m≤s∧m≤4:=by omega
   have Hmm:=Lib.hid hmm;have Hm:=Lib.hid hm;clear hm hmm;go_upto_region 3 with fail
   refine wp_region_seq [(4,4),(12,0),(13,1),(14,2),(15,3)] [[],[0],[0,1],[0,1,2],[0,1,2,3]] (fun i own ys wx=>match i with|0=>own= .int .i64 (s:Nat)|1=>own= .int .i64 4|2=>own= .int .i64 (m:Nat)|3=>own= .int .i64 (-(m:Int))|4=>own= .int .i64 (-(m:Int))|_=>True) (fun kx wx=>Hid (wx=wr)) (by kernel_rfl) (by kernel_rfl) ?g0_r1 ?gop_r1 ?gend_r1
   case g0_r1=>exact Lib.hid rfl
   case gop_r1 =>
    refine⟨?o0,?o1,?o2,?o3,?o4,trivial⟩ <;> (intro kx xs wx hk hG hD hI Qo Kx hK hQo;simp only[patchS,Nat.reduceAdd,Nat.reduceEqDiff,↓reduceIte]at hQo⊢)
    case o0 =>
     clear hD hI;go_wp2;exact hK.out _ _ ⟨rfl,hG,kkp⟩
    case o1 =>
     clear hD hI;have cx:wx.cell? ⟨Bs,0,none⟩=some (.int .i64 4):=by rw[hG.out];exact c0
     go_wp2;exact hK.out _ _ ⟨rfl,hG,kkp⟩
    case o2 =>
     rw[ddq (hD 0 rfl),ddq (hD 1 rfl)]at hQo⊢;clear hD hI;go_wp2;all_goals exact hK.out _ _ ⟨by have:=Hmm.out;congr 1 <;> omega,hG,fun _ _ _ _ _ _ h=>h⟩
    case o3 =>
     rw[ddq (hD 2 rfl)]at hQo⊢;clear hD hI;go_wp2;exact hK.out _ _ ⟨rfl,hG,kkp⟩
    case o4 =>
     rw[ddq (hD 3 rfl)]at hQo⊢;clear hD hI;go_wp2;exact hK.out _ _ ⟨rfl,hG,kkp⟩
   intro xs wx hV hG;have d4:_=_:=hV 4 (by decide);clear hV;simp only[patchS,Nat.reduceAdd,Nat.reduceEqDiff,↓reduceIte];generalize xs 0=y0,xs 1=y1,xs 2=y2,xs 3=y3,xs 4=y4 at *
   replace hG:Hid (wx=wr):=hG
   subst d4;obtain rfl:wr=wx:=hG.out.symm;go_wp2_with fail
   go_loopw [4] (fun y wr2=>∃(j:Nat) (pre:List Vc),j≤2*m+1∧y= .int .i64 ((j:Int)-(m:Nat))∧Hid (pre.map (·.1)=vecS s++rowV s j)∧J pre wr2∧wr2.heap[Bs]?=some (.cells #[.int .i64 4] 3 (0,0))) (fun y _=>(2*m+1:Nat)-(intOf y+(m:Nat)).toNat)
   case atStart=>exact⟨0,pre,by omega,by congr 1;omega,Lib.hid (by rw[HP.out];simp[rowV]),Ju,Bu⟩
   case round =>
    obtain⟨j,pre2,hj,rfl,HP2,Jj,Bj⟩:=hrel;clear HP Ju Bu c0 pre;obtain⟨-,c0,-⟩:=bx1 Bj;obtain⟨u,hu⟩:∃ u:Int,u=(j:Int)-(m:Nat):=⟨_,rfl⟩;rw[←hu]
    by_cases hlj:j<2*m+1
    ·have hur : -(m:Int)≤u∧u≤(m:Int):=by omega
     have hle:decide (u≤(m:Int))=true:=by simp;omega
     have Hu:=Lib.hid hu;have hlen:=congrArg List.length HP2.out;rw[List.length_map,List.length_append]at hlen;have hlb:pre2.length+1<1000:=by
      have h8:=vecS_len s;have h9:=rowV_len s j;omega
     have hsuc:rowV s (j+1)=rowV s j++oneV s u:=by
      rw[rowV]
      congr 2
      have:=Hmm.out;omega
     have hpre:∀ p:List (Int×Int),p <+: oneV s u→vecS s++rowV s j++p <+: vecL:=fun p hp=>vec_pre hlt (by have:=Hm.out;omega) (by
      rw[show -(min (s:Int) 4)+(j:Int)=u by have:=Hmm.out;omega];exact hp)
     obtain⟨X,hX⟩:∃ X:Int,X=(s:Int)-max u (-u):=⟨_,rfl⟩;have hone:oneV s u=if X>4 then []else if X>0 then [(-X,u),(X,u)]else [(-X,u)]:=by rw[hX];rfl
     have hX0:0≤X:=by omega
     have hX9:X≤9:=by omega
     have HA:=Lib.hid (show(if u<0 then -u else u)=(s:Int)-X by rw[hX];split <;> omega);have HXs:=Lib.hid (show(s:Int)-((s:Int)-X)=X by omega);have Hsuc:=Lib.hid hsuc;have Hone:=Lib.hid hone;have Hpre:=Lib.hid hpre;clear hu hlen hsuc hone hpre hX;go_upto_region 4 with fail
     refine wp_region_seq [(16,0),(17,1),(18,2),(19,3),(20,4)] [[],[0],[0,1],[0,1,2],[0,1,2,3]] (fun i own ys wx=>match i with|0=>own= .int .i64 u|1=>own= .int .i64 (s:Nat)|2=>own= .int .i64 4|3=>own= .int .i64 (m:Nat)|4=>own= .bool true|_=>True) (fun kx wx=>Hid (wx=wr)) (by kernel_rfl) (by kernel_rfl) ?g0_r2 ?gop_r2 ?gend_r2
     case g0_r2=>exact Lib.hid rfl
     case gop_r2 =>
      refine⟨?_,?_,?o2,?o3,?o4,trivial⟩ <;> (intro kx xs wx hk hG hD hI Qo Kx hK hQo;simp only[patchS,Nat.reduceAdd,Nat.reduceEqDiff,↓reduceIte]at hQo⊢)
      case o2 =>
       clear hD hI;have cx:wx.cell? ⟨Bs,0,none⟩=some (.int .i64 4):=by rw[hG.out];exact c0
       go_wp2;exact hK.out _ _ ⟨rfl,hG,kkp⟩
      case o3 =>
       rw[ddq (hD 1 rfl),ddq (hD 2 rfl)]at hQo⊢;clear hD hI;go_wp2;all_goals exact hK.out _ _ ⟨by have:=Hmm.out;congr 1 <;> omega,hG,fun _ _ _ _ _ _ h=>h⟩
      case o4 =>
       rw[ddq (hD 0 rfl),ddq (hD 3 rfl)]at hQo⊢;clear hD hI;go_wp2;exact hK.out _ _ ⟨rfl,hG,kkp⟩
      all_goals
       clear hD hI;go_wp2;exact hK.out _ _ ⟨rfl,hG,kkp⟩
     intro xs wx hV hG;have d4:_=_:=hV 4 (by decide);clear hV;simp only[patchS,Nat.reduceAdd,Nat.reduceEqDiff,↓reduceIte];generalize xs 0=y0,xs 1=y1,xs 2=y2,xs 3=y3,xs 4=y4 at *
     replace hG:Hid (wx=wr):=hG
     subst d4;obtain rfl:wr=wx:=hG.out.symm;go_wp2_with fail
     refine(impl_abs_any u _ (by omega) (by omega)).mono ?_
     rintro e wz ⟨rfl,rfl⟩
     rw[HA.out];go_upto_region 7 with fail
     rw[HXs.out]
     by_cases hx4:4<X
     ·have hd4:decide (4<X)=true:=by simpa using hx4
      have hone:=Hone.out;rw[if_pos hx4]at hone;have HP3:=Lib.hid (show pre2.map (·.1)=vecS s++rowV s (j+1) by rw[HP2.out,Hsuc.out,hone,List.append_nil]);clear hone;go_wp2;go_roundw
      case rel=>exact⟨j+1,pre2,by omega,by have:=Hu.out;congr 1;omega,HP3,Jj,Bj⟩
      case measure=>have:=Hu.out;simp[intOf];omega
     ·have hd4:decide (4<X)=false:=by simpa using hx4
      have hone0:=Hone.out;rw[if_neg hx4]at hone0;obtain⟨fn,tmps,assign,body,hy,hR⟩:=HY.out pre2 ⟨(-X,u),by unfold boxV;simp only;omega⟩ wr Jj (by omega);dsimp only[encV]at hy
      by_cases hx0:0<X
      ·have hd0:decide (0<X)=true:=by simpa using hx0
       have hone:=hone0;rw[if_pos hx0]at hone;have Hon:=Lib.hid hone;clear hone hone0;go_upto_region 8 with fail
       refine(wpIn_wide (n:=n)).1 ?_
       gi_wp2
       refine hR.mono ?_
       rintro e W3 (⟨rfl,hJ3,hk3⟩|⟨rfl,hJx3⟩)
       ·have B3:W3.heap[Bs]?=some (.cells #[.int .i64 4] 3 (0,0)):=hk3.trans Bj;obtain⟨fn2,tmps2,assign2,body2,hy2,hR2⟩:=HY.out (pre2 ++ [(⟨(-X,u),by unfold boxV;simp only;omega⟩:Vc)]) ⟨(X,u),by unfold boxV;simp only;omega⟩ W3 hJ3 (by simp;omega);dsimp only[encV]at hy2;clear hy hR
        gi_wp2
        refine hR2.mono ?_
        rintro e W4 (⟨rfl,hJ4,hk4⟩|⟨rfl,hJx4⟩)
        ·have B4:W4.heap[Bs]?=some (.cells #[.int .i64 4] 3 (0,0)):=hk4.trans B3;have HP3:=Lib.hid (show((pre2 ++ [(⟨(-X,u),by unfold boxV;simp only;omega⟩:Vc)]) ++ [(⟨(X,u),by unfold boxV;simp only;omega⟩:Vc)]).map (·.1)=vecS s++rowV s (j+1) by rw[List.map_append,List.map_append,HP2.out,Hsuc.out,Hon.out];simp)
         gi_wp2
         go_wp2;go_roundw
         case rel=>exact⟨j+1,_,by omega,by have:=Hu.out;congr 1;omega,HP3,hJ4,B4⟩
         case measure=>have:=Hu.out;simp[intOf];omega
        ·have hst:=Hpre.out [(-X,u),(X,u)] (by rw[Hon.out];exact List.prefix_refl _);have Hst:=Lib.hid (show((pre2 ++ [(⟨(-X,u),by unfold boxV;simp only;omega⟩:Vc)]) ++ [(⟨(X,u),by unfold boxV;simp only;omega⟩:Vc)]).map (·.1) <+: vecL by rw[List.map_append,List.map_append,HP2.out];simpa using hst);clear hst
         gi_wp2
         go_wp2;refine bodyPost_ret (results_none rfl _ _ _) rfl ?_;exact⟨⟨_,rfl⟩,.inr ⟨_,Hst.out,hJx4⟩⟩
       ·have hst:=Hpre.out [(-X,u)] (by rw[Hon.out];exact List.prefix_append [(-X,u)] [(X,u)]);have Hst:=Lib.hid (show(pre2 ++ [(⟨(-X,u),by unfold boxV;simp only;omega⟩:Vc)]).map (·.1) <+: vecL by rw[List.map_append,HP2.out];exact hst);clear hst
        gi_wp2
        all_goals (try exact(no_undef (by assumption)).elim)
        refine⟨fun _ h=>(by cases h),?_⟩
        gi_wp2
        all_goals (try exact(no_undef (by assumption)).elim)
        go_wp2;refine bodyPost_ret (results_none rfl _ _ _) rfl ?_;exact⟨⟨_,rfl⟩,.inr ⟨_,Hst.out,hJx3⟩⟩
      ·have hd0:decide (0<X)=false:=by simpa using hx0
       have hone:=hone0;rw[if_neg hx0]at hone;have Hon:=Lib.hid hone;clear hone hone0;go_upto_region 8 with fail
       refine(wpIn_wide (n:=n)).1 ?_
       gi_wp2
       refine hR.mono ?_
       rintro e W3 (⟨rfl,hJ3,hk3⟩|⟨rfl,hJx3⟩)
       ·have B3:W3.heap[Bs]?=some (.cells #[.int .i64 4] 3 (0,0)):=hk3.trans Bj;have HP3:=Lib.hid (show(pre2 ++ [(⟨(-X,u),by unfold boxV;simp only;omega⟩:Vc)]).map (·.1)=vecS s++rowV s (j+1) by rw[List.map_append,HP2.out,Hsuc.out,Hon.out];simp)
        gi_wp2
        all_goals (try exact(no_undef (by assumption)).elim)
        refine⟨fun _ h=>(by cases h),?_⟩
        gi_wp2
        all_goals (try exact(no_undef (by assumption)).elim)
        go_wp2;go_roundw
        case rel=>exact⟨j+1,_,by omega,by have:=Hu.out;congr 1;omega,HP3,hJ3,B3⟩
        case measure=>have:=Hu.out;simp[intOf];omega
       ·have hst:=Hpre.out [(-X,u)] (by rw[Hon.out];exact List.prefix_refl _);have Hst:=Lib.hid (show(pre2 ++ [(⟨(-X,u),by unfold boxV;simp only;omega⟩:Vc)]).map (·.1) <+: vecL by rw[List.map_append,HP2.out];exact hst);clear hst
        gi_wp2
        all_goals (try exact(no_undef (by assumption)).elim)
        refine⟨fun _ h=>(by cases h),?_⟩
        gi_wp2
        all_goals (try exact(no_undef (by assumption)).elim)
        go_wp2;refine bodyPost_ret (results_none rfl _ _ _) rfl ?_;exact⟨⟨_,rfl⟩,.inr ⟨_,Hst.out,hJx3⟩⟩
    ·obtain rfl:j=2*m+1:=by omega
     have hle:decide (u≤(m:Int))=false:=by simp;omega
     have hub:u≤5∧0≤u:=by omega
     have HP3:=Lib.hid (show pre2.map (·.1)=vecS (s+1) by rw[HP2.out];show _=vecS s++rowV s (2*min s 4+1);rw[←Hm.out]);clear hu;go_upto_region 4 with fail
     refine wp_region_seq [(16,0),(17,1),(18,2),(19,3),(20,4)] [[],[0],[0,1],[0,1,2],[0,1,2,3]] (fun i own ys wx=>match i with|0=>own= .int .i64 u|1=>own= .int .i64 (s:Nat)|2=>own= .int .i64 4|3=>own= .int .i64 (m:Nat)|4=>own= .bool false|_=>True) (fun kx wx=>Hid (wx=wr)) (by kernel_rfl) (by kernel_rfl) ?g0_r3 ?gop_r3 ?gend_r3
     case g0_r3=>exact Lib.hid rfl
     case gop_r3 =>
      refine⟨?_,?_,?o2,?o3,?o4,trivial⟩ <;> (intro kx xs wx hk hG hD hI Qo Kx hK hQo;simp only[patchS,Nat.reduceAdd,Nat.reduceEqDiff,↓reduceIte]at hQo⊢)
      case o2 =>
       clear hD hI;have cx:wx.cell? ⟨Bs,0,none⟩=some (.int .i64 4):=by rw[hG.out];exact c0
       go_wp2;exact hK.out _ _ ⟨rfl,hG,kkp⟩
      case o3 =>
       rw[ddq (hD 1 rfl),ddq (hD 2 rfl)]at hQo⊢;clear hD hI;go_wp2;all_goals exact hK.out _ _ ⟨by have:=Hmm.out;congr 1 <;> omega,hG,fun _ _ _ _ _ _ h=>h⟩
      case o4 =>
       rw[ddq (hD 0 rfl),ddq (hD 3 rfl)]at hQo⊢;clear hD hI;go_wp2;exact hK.out _ _ ⟨rfl,hG,kkp⟩
      all_goals
       clear hD hI;go_wp2;exact hK.out _ _ ⟨rfl,hG,kkp⟩
     intro xs wx hV hG;have d4:_=_:=hV 4 (by decide);clear hV;simp only[patchS,Nat.reduceAdd,Nat.reduceEqDiff,↓reduceIte];generalize xs 0=y0,xs 1=y1,xs 2=y2,xs 3=y3,xs 4=y4 at *
     replace hG:Hid (wx=wr):=hG
     subst d4;obtain rfl:wr=wx:=hG.out.symm;go_wp2;go_roundw
     case rel=>exact⟨s+1,pre2,by omega,by go_num,HP3,Jj,Bj⟩
     case measure=>simp[intOf];omega
  ·obtain rfl:s=9:=by omega
   have HP9:pre.map (·.1)=vecL:=HP.out;have HP8:=Lib.hid HP9;clear HP9 HP;go_wp2;go_end0
   exact⟨⟨_,rfl⟩,.inl ⟨pre,HP8.out,Ju⟩⟩
end Go.Proofs.YtbnhaegidfbgbaaGreatDoor
namespace Go.Proofs.YtbnhaegidfbgbaaGreatDoor
open Go.RowKit
attribute [local go_sem] Oper.semAt_some
theorem Ext.ko {w w':World} (e:Ext w w'):KeepsOthers w w':=⟨e.size,fun _ _ h _=>e.blk h⟩
/-- What the search has between two rounds. -/
structure MS (w : World) (B Q S : Nat) (t r : Pic) (a b : Option Addr) (n c l d x y : Nat) (z : (Int × Int) × Int) (wx : World) : Prop where
 ex:Ext w wx
 ht:wx.heap[B]?=some (.cells #[.int .i64 t.w,.int .i64 t.h,.slice a n c] 25 (0,0))
 hr:wx.heap[B+1]?=some (.cells #[.int .i64 r.w,.int .i64 r.h,.slice b l d] 25 (0,0))
 hx:wx.heap[B+1+1]?=some (.cells #[.int .i64 (x:Nat)] 3 (0,0))
 hy:wx.heap[B+1+1+1]?=some (.cells #[.int .i64 (y:Nat)] 3 (0,0))
 rs:wx.heap[B+1+1+1+1]?=some (.cells #[.int .i64 0,.int .i64 0] 27 (0,0))
 be:wx.heap[Q]?=some (.cells #[.int .i64 z.1.1,.int .i64 z.1.2] 27 (0,0))
 le:wx.heap[Q+1]?=some (.cells #[.int .i64 z.2] 3 (0,0))
 sp:wx.heap[S]?=some (.cells #[.int .i64 4] 3 (0,0))
theorem MS.e {w:World} {B Q S:Nat} {t r:Pic} {a b:Option Addr} {n c l d x y:Nat} {z:(Int×Int)×Int} {wx wy:World} (h:MS w B Q S t r a b n c l d x y z wx) (e:Ext wx wy):MS w B Q S t r a b n c l d x y z wy :=
 ⟨h.ex.trans e,e.blk h.ht,e.blk h.hr,e.blk h.hx,e.blk h.hy,e.blk h.rs,e.blk h.be,e.blk h.le,e.blk h.sp⟩
theorem MS.own {w:World} {B Q S:Nat} {t r:Pic} {a b:Option Addr} {n c l d x y:Nat} {z:(Int×Int)×Int} {M:Nat} {wx wy:World} (h:MS w B Q S t r a b n c l d x y z wx) (hM:w.heap.size≤M) {row:Option Nat} (g:wx.grownBy wy row) (hr:∀ r,row=some r→M≤r∧∃ o:Obj,wx.heap[r]?=some o∧o.isCells=false):MS w B Q S t r a b n c l d x y z wy :=
 ⟨Ext.grown h.ex g (fun k e=>by have:=(hr k e).1;omega),blk_nc h.ht g hr,blk_nc h.hr g hr,blk_nc h.hx g hr,blk_nc h.hy g hr,blk_nc h.rs g hr,blk_nc h.be g hr,blk_nc h.le g hr,blk_nc h.sp g hr⟩
theorem MS.set {w:World} {B Q S:Nat} {t r:Pic} {a b:Option Addr} {n c l d x y:Nat} {z:(Int×Int)×Int} {wx:World} (h:MS w B Q S t r a b n c l d x y z wx) (u v C:Int) (h1:w.heap.size≤Q) (h2:B+1+1+1+1<Q) (h3:Q+1<S) :
 MS w B Q S t r a b n c l d x y ((u,v),C) (((wx.setCell ⟨Q,0,none⟩ (.int .i64 u)).setCell ⟨Q,1,none⟩ (.int .i64 v)).setCell ⟨Q+1,0,none⟩ (.int .i64 C)):=by
 have k:∀ {j:Nat} {o:Obj},wx.heap[j]?=some o→j≠Q→j≠Q+1→(((wx.setCell ⟨Q,0,none⟩ (.int .i64 u)).setCell ⟨Q,1,none⟩ (.int .i64 v)).setCell ⟨Q+1,0,none⟩ (.int .i64 C)).heap[j]?=some o:=fun hj n1 n2=>blk_set_other (blk_set_other (blk_set_other hj n1) n1) n2
 exact⟨Ext.grown (Ext.grown (Ext.grown h.ex (gr_set _ _ _ _) (fun k e=>by cases e;omega)) (gr_set _ _ _ _) (fun k e=>by cases e;omega)) (gr_set _ _ _ _) (fun k e=>by cases e;omega),
  k h.ht (by omega) (by omega),k h.hr (by omega) (by omega),k h.hx (by omega) (by omega),k h.hy (by omega) (by omega),k h.rs (by omega) (by omega),
  blk_set_other (blk_set2 h.be) (by omega),heap_setCell_same _ _ 0 _ _ (.int .i64 C) (blk_set_other (blk_set_other h.le (by omega)) (by omega)),k h.sp (by omega) (by omega)⟩
theorem list57 (l:List Value) (h:l.length=57):l=(List.range 57).map (fun i=>l.getD i undef):=by
 refine List.ext_getElem (by simp[h]) fun i h1 h2 => ?_
 simp[List.getD,h1]
/-- The round's frame: the vector lies in a box of its own. -/
def AV (B Q:Nat) (wL:World) (v:Vc) (a':Act) (W:World):Prop:=∃(Rx:Nat) (l:List Value),wL.heap.size≤Rx∧W.heap[Rx]?=some (.cells #[.int .i64 v.1.1,.int .i64 v.1.2] 27 (0,0))∧a'=⟨l.toArray,[]⟩∧l.length=57∧l[5]?=some (.pointer (some ⟨B,0,none⟩))∧l[6]?=some (.pointer (some ⟨B+1,0,none⟩))∧l[7]?=some (.pointer (some ⟨B+1+1,0,none⟩))∧l[8]?=some (.pointer (some ⟨B+1+1+1,0,none⟩))∧l[11]?=some (.pointer (some ⟨Q,0,none⟩))∧l[12]?=some (.pointer (some ⟨Q+1,0,none⟩))∧l[13]?=some (.pointer (some ⟨Rx,0,none⟩))
theorem AV.own (B Q:Nat) (wL:World) (v:Vc) (a':Act):OwnFrom wL.heap.size (fun(_:Unit) W=>AV B Q wL v a' W):=fun _ W W' row h g hr=>by
 obtain⟨Rx,l,h1,h2,h3⟩:=h;exact⟨Rx,l,h1,blk_nc h2 g hr,h3⟩
theorem AV.elim {B Q:Nat} {wL:World} {v:Vc} {a':Act} {W:World} (h:AV B Q wL v a' W):∃(Rx:Nat) (f:Nat→Value),wL.heap.size≤Rx∧W.heap[Rx]?=some (.cells #[.int .i64 v.1.1,.int .i64 v.1.2] 27 (0,0))∧a'=⟨(f 0::f 1::f 2::f 3::f 4::(.pointer (some ⟨B,0,none⟩))::(.pointer (some ⟨B+1,0,none⟩))::(.pointer (some ⟨B+1+1,0,none⟩))::(.pointer (some ⟨B+1+1+1,0,none⟩))::f 9::f 10::(.pointer (some ⟨Q,0,none⟩))::(.pointer (some ⟨Q+1,0,none⟩))::(.pointer (some ⟨Rx,0,none⟩))::f 14::f 15::f 16::f 17::f 18::f 19::f 20::f 21::f 22::f 23::f 24::f 25::f 26::f 27::f 28::f 29::f 30::f 31::f 32::f 33::f 34::f 35::f 36::f 37::f 38::f 39::f 40::f 41::f 42::f 43::f 44::f 45::f 46::f 47::f 48::f 49::f 50::f 51::f 52::f 53::f 54::f 55::f 56 :: []).toArray,[]⟩:=by
 obtain⟨Rx,l,h1,h2,rfl,hl,h5,h6,h7,h8,h11,h12,h13⟩:=h;refine⟨Rx,fun i=>l.getD i undef,h1,h2,?_⟩;have e:=list57 l hl;have g5:l.getD 5 undef=(.pointer (some ⟨B,0,none⟩)):=by simp[List.getD,h5]
 have g6:l.getD 6 undef=(.pointer (some ⟨B+1,0,none⟩)):=by simp[List.getD,h6]
 have g7:l.getD 7 undef=(.pointer (some ⟨B+1+1,0,none⟩)):=by simp[List.getD,h7]
 have g8:l.getD 8 undef=(.pointer (some ⟨B+1+1+1,0,none⟩)):=by simp[List.getD,h8]
 have g11:l.getD 11 undef=(.pointer (some ⟨Q,0,none⟩)):=by simp[List.getD,h11]
 have g12:l.getD 12 undef=(.pointer (some ⟨Q+1,0,none⟩)):=by simp[List.getD,h12]
 have g13:l.getD 13 undef=(.pointer (some ⟨Rx,0,none⟩)):=by simp[List.getD,h13]
 rw[←g5,←g6,←g7,←g8,←g11,←g12,←g13];exact congrArg (fun z:List Value=>(⟨z.toArray,[]⟩:Act)) e
theorem MotionSearch_in (t r:Pic) (x y:Nat) (a b:Option Addr) (c d n l:Nat) (w:World) (ha:alikeP t r) (hb:(0≤(x:Int))∧((x:Int)<t.w)∧((x:Int)%8=0)∧(0≤(y:Int))∧((y:Int)<t.h)∧((y:Int)%8=0)) (hn:n=t.px.length) (hl:l=r.px.length) (s:Sl w a n (t.px.map (Value.int .i64))) (u:Sl w b l (r.px.map (Value.int .i64))) :
 Calls Tryz.prog 23 #[.agg #[.int .i64 t.w,.int .i64 t.h,.slice a n c],.agg #[.int .i64 r.w,.int .i64 r.h,.slice b l d],.int .i64 (x:Nat),.int .i64 (y:Nat),.int .i64 4] w fun e w'=>e= .returned (.agg #[.int .i64 (stI (cV t r x y) vecL).1.1,.int .i64 (stI (cV t r x y) vecL).1.2])∧Ext w w':=by
 have hln:=Pic.len_le ha.1;have hll:=Pic.len_le ha.2.1;rw[←hn]at hln;rw[←hl]at hll;have hx100:x≤100:=by have h1:=ha.1.1.2.1;have h2:=hb.2.1;omega
 have hy100:y≤100:=by have h1:=ha.1.2.1.2.1;have h2:=hb.2.2.2.2.1;omega
 have HTv:=Lib.hid ha.1;have HRv:=Lib.hid ha.2.1;have D0:=Lib.hid (show decide (alikeP t r)=true from decide_eq_true ha);have D1:=Lib.hid (show decide ((0≤(x:Int))∧((x:Int)<t.w)∧((x:Int)%8=0)∧(0≤(y:Int))∧((y:Int)<t.h)∧((y:Int)%8=0))=true from decide_eq_true hb);have HN:=Lib.hid hn;have HL:=Lib.hid hl;clear hn hl ha hb;have a0:=Ext.alloc w (.cells #[.int .i64 t.w,.int .i64 t.h,.slice a n c] 25);have a1:=Ext.alloc (w.alloc (.cells #[.int .i64 t.w,.int .i64 t.h,.slice a n c] 25)) (.cells #[.int .i64 r.w,.int .i64 r.h,.slice b l d] 25);have a2:=Ext.alloc ((w.alloc (.cells #[.int .i64 t.w,.int .i64 t.h,.slice a n c] 25)).alloc (.cells #[.int .i64 r.w,.int .i64 r.h,.slice b l d] 25)) (.cells #[.int .i64 (x:Nat)] 3);have a3:=Ext.alloc (((w.alloc (.cells #[.int .i64 t.w,.int .i64 t.h,.slice a n c] 25)).alloc (.cells #[.int .i64 r.w,.int .i64 r.h,.slice b l d] 25)).alloc (.cells #[.int .i64 (x:Nat)] 3)) (.cells #[.int .i64 (y:Nat)] 3);have a4:=Ext.alloc ((((w.alloc (.cells #[.int .i64 t.w,.int .i64 t.h,.slice a n c] 25)).alloc (.cells #[.int .i64 r.w,.int .i64 r.h,.slice b l d] 25)).alloc (.cells #[.int .i64 (x:Nat)] 3)).alloc (.cells #[.int .i64 (y:Nat)] 3)) (.cells #[.int .i64 0,.int .i64 0] 27);have X0:=a4.blk (a3.blk (a2.blk (a1.blk (blk_new w (.cells #[.int .i64 t.w,.int .i64 t.h,.slice a n c] 25)))));have X1:=a4.blk (a3.blk (a2.blk (blk_new (w.alloc (.cells #[.int .i64 t.w,.int .i64 t.h,.slice a n c] 25)) (.cells #[.int .i64 r.w,.int .i64 r.h,.slice b l d] 25))));have X2:=a4.blk (a3.blk (blk_new ((w.alloc (.cells #[.int .i64 t.w,.int .i64 t.h,.slice a n c] 25)).alloc (.cells #[.int .i64 r.w,.int .i64 r.h,.slice b l d] 25)) (.cells #[.int .i64 (x:Nat)] 3)));have X3:=a4.blk (blk_new (((w.alloc (.cells #[.int .i64 t.w,.int .i64 t.h,.slice a n c] 25)).alloc (.cells #[.int .i64 r.w,.int .i64 r.h,.slice b l d] 25)).alloc (.cells #[.int .i64 (x:Nat)] 3)) (.cells #[.int .i64 (y:Nat)] 3));have X4:=blk_new ((((w.alloc (.cells #[.int .i64 t.w,.int .i64 t.h,.slice a n c] 25)).alloc (.cells #[.int .i64 r.w,.int .i64 r.h,.slice b l d] 25)).alloc (.cells #[.int .i64 (x:Nat)] 3)).alloc (.cells #[.int .i64 (y:Nat)] 3)) (.cells #[.int .i64 0,.int .i64 0] 27);have E0:=(((a0.trans a1).trans a2).trans a3).trans a4;simp only[World.size_alloc]at X1 X2 X3 X4;obtain⟨B,hB⟩:∃ B,B=w.heap.size:=⟨_,rfl⟩;rw[←hB]at X0 X1 X2 X3 X4;have hwB:w.heap.size≤B:=by omega
 have hB4:=lt_of_block X4;clear a0 a1 a2 a3 a4;refine calls_of_marks 4 Tryz.func23 rfl ?_;simp only[Tryz.ntmps23,List.size_toArray,List.length_cons,List.length_nil,Nat.reduceAdd,Nat.reduceSub,Array.replicate_succ,Array.replicate_zero,List.push_toArray,List.append_toArray,List.nil_append,List.cons_append];go_upto_region 1 with fail
 try simp only[World.size_alloc]
 rw[←hB];clear hB;generalize (((((w.alloc (.cells #[.int .i64 t.w,.int .i64 t.h,.slice a n c] 25)).alloc (.cells #[.int .i64 r.w,.int .i64 r.h,.slice b l d] 25)).alloc (.cells #[.int .i64 (x:Nat)] 3)).alloc (.cells #[.int .i64 (y:Nat)] 3)).alloc (.cells #[.int .i64 0,.int .i64 0] 27))=w1 at *;obtain⟨-,k0,k1,k2,-⟩:=bx3 X0;obtain⟨-,j0,j1,j2,-⟩:=bx3 X1;go_wp2_with fail
 refine(alike_at t r a b c d n l _ HN.out HL.out (by omega) (by omega) (s.ext E0) (u.ext E0)).mono ?_;rw[D0.out]
 rintro e w2 ⟨rfl,e2⟩
 have Y0:=e2.blk X0;have Y1:=e2.blk X1;have Y2:=e2.blk X2;have Y3:=e2.blk X3;have Y4:=e2.blk X4;have E2:=E0.trans e2;have hB5:=Nat.lt_of_lt_of_le hB4 e2.size;clear X0 X1 X2 X3 X4 E0 e2 k0 k1 k2 j0 j1 j2 hB4;obtain⟨-,k0,k1,k2,-⟩:=bx3 Y0;obtain⟨-,i0,-⟩:=bx1 Y2;obtain⟨-,i1,-⟩:=bx1 Y3;go_wp2_with fail
 refine(begins_any t x y a c n _).mono ?_;rw[D1.out]
 rintro e w3 ⟨rfl,e3⟩
 have Z0:=e3.blk Y0;have Z1:=e3.blk Y1;have Z2:=e3.blk Y2;have Z3:=e3.blk Y3;have Z4:=e3.blk Y4;have E3:=E2.trans e3;have hB6:=Nat.lt_of_lt_of_le hB5 e3.size;clear Y0 Y1 Y2 Y3 Y4 E2 e3 k0 k1 k2 i0 i1 hB5;have q0:=Ext.alloc w3 (.cells #[.int .i64 0,.int .i64 0] 27);have q1:=Ext.alloc (w3.alloc (.cells #[.int .i64 0,.int .i64 0] 27)) (.cells #[.int .i64 (-1)] 3);have b0:=q1.blk (blk_new w3 (.cells #[.int .i64 0,.int .i64 0] 27));have b1:=blk_new (w3.alloc (.cells #[.int .i64 0,.int .i64 0] 27)) (.cells #[.int .i64 (-1)] 3);have F4:=(E3.trans q0).trans q1;have e34:=q0.trans q1;simp only[World.size_alloc]at b1;obtain⟨Q,hQ⟩:∃ Q,Q=w3.heap.size:=⟨_,rfl⟩;rw[←hQ]at b0 b1 hB6;have hwQ:w.heap.size≤Q:=by omega
 go_upto_region 4 with fail
 try simp only[World.size_alloc]
 rw[←hQ];have U0:=e34.blk Z0;have U1:=e34.blk Z1;have U2:=e34.blk Z2;have U3:=e34.blk Z3;have U4:=e34.blk Z4;clear hQ Z0 Z1 Z2 Z3 Z4 E3 q0 q1 e34;generalize (w3.alloc (.cells #[.int .i64 0,.int .i64 0] 27)).alloc (.cells #[.int .i64 (-1)] 3)=w4 at *;go_wp2_with fail
 refine(vectorsWithin_any _).mono ?_
 rintro e w5' ⟨rfl,rfl⟩
 have e5:=Ext.alloc w4 (.cells #[.int .i64 4] 3);have c5:=blk_new w4 (.cells #[.int .i64 4] 3);have hsS:(w4.alloc (.cells #[.int .i64 4] 3)).heap.size=w4.heap.size+1:=World.size_alloc _ _;have hQS:=lt_of_block b1;obtain⟨S,hS⟩:∃ S,S=w4.heap.size:=⟨_,rfl⟩;rw[←hS]at c5 hsS hQS⊢;have M0:MS w B Q S t r a b n c l d x y (stI (cV t r x y) []) (w4.alloc (.cells #[.int .i64 4] 3)) :=
  ⟨F4.trans e5,e5.blk U0,e5.blk U1,e5.blk U2,e5.blk U3,e5.blk U4,e5.blk b0,e5.blk b1,c5⟩
 clear hS e5 U0 U1 U2 U3 U4 F4 b0 b1;generalize w4.alloc (.cells #[.int .i64 4] 3)=w5 at *;have hSl:S<w5.heap.size:=by omega
 have hwM:w.heap.size≤w5.heap.size:=by omega
 have HNN:=Lib.hid (fun u v=>(cV_rng HTv.out HRv.out (x:Int) (y:Int) u v));go_upto_region 99 with fail
 refine(wpIn_wide (n:=4)).1 ?_;refine wpIn_rangeFunc_ownH rfl (by omega) (gf:=116) (lb := #[.pointer (some ⟨S,0,none⟩)]) rfl trivial (enters_of Tryz.func116 (by kernel_rfl) rfl)
  (vectors_stops 3 (by omega) S w5 c5) keepB.t (keepB.b hSl) (Below.refl _ _) (fun _=>rfl)
  (fun(pre:List Vc) W=>MS w B Q S t r a b n c l d x y (stI (cV t r x y) (pre.map (fun(v:Vc)=>v.1))) W∧w5.heap.size≤W.heap.size)
  (fun cd (pre:List Vc) W=>cd= .exit 0∧(stI (cV t r x y) (pre.map (fun(v:Vc)=>v.1))).2=0∧MS w B Q S t r a b n c l d x y (stI (cV t r x y) (pre.map (fun(v:Vc)=>v.1))) W)
  (fun pre W W' row hI hg hr=>⟨hI.1.own hwM hg hr,Nat.le_trans hI.2 hg.size⟩) (fun cd pre W W' row hI hg hr=>⟨hI.1,hI.2.1,hI.2.2.own hwM hg hr⟩) ⟨M0,Nat.le_refl _⟩ (AV B Q w5) (AV.own B Q w5) ?assign ?body ?done ?stop
 case assign =>
  rintro l' pre v W K ⟨hI,hIs⟩ hK
  simp[encV]
  gi_wp2
  have e:=Ext.alloc W (.cells #[.int .i64 v.1.1,.int .i64 v.1.2] 27);exact hK _ _ ((KeepsOthers.alloc _ _).from _) ((e.blk hI.sp).trans hI.sp.symm) ⟨hI.e e,Nat.le_trans hIs e.size⟩ ⟨W.heap.size,_,hIs,blk_new _ _,rfl,rfl,rfl,rfl,rfl,rfl,rfl,rfl,rfl⟩
 case body =>
  rintro l' pre v a' W hl' ⟨rr,hrr⟩ ⟨hI,hIs⟩ hAV hlen
  obtain⟨Rx,f,hRx,bR,rfl⟩:=hAV.elim;have hbx:=v.2;have hnx:stI (cV t r x y) ((pre ++ [v]).map (·.1))=nxI (cV t r x y) (stI (cV t r x y) (pre.map (·.1))) v.1:=by rw[List.map_append];exact stI_snoc _ _ _
  obtain⟨⟨p,q⟩,hpq⟩:∃ p,p=v.1:=⟨_,rfl⟩;rw[←hpq]at bR hbx hnx;simp only at bR hbx;unfold boxV at hbx;obtain⟨z,hz⟩:∃ z,z=stI (cV t r x y) (pre.map (·.1)):=⟨_,rfl⟩;rw[←hz]at hI hnx;unfold nxI at hnx;simp only at hnx;have hCr:=HNN.out p q;obtain⟨C,hC⟩:∃ C,C=cV t r x y p q:=⟨_,rfl⟩;rw[←hC]at hnx hCr;have HC:=Lib.hid hC;have HNX:=Lib.hid hnx;clear hpq hz hC hnx hAV;obtain⟨-,k0,k1,k2,-⟩:=bx3 hI.ht;obtain⟨-,j0,j1,j2,-⟩:=bx3 hI.hr;obtain⟨-,i0,-⟩:=bx1 hI.hx;obtain⟨-,i1,-⟩:=bx1 hI.hy;obtain⟨-,r0,r1,-⟩:=bx2 bR
  gi_wp2_with fail
  refine⟨trivial,?_⟩;refine(CallsIn.inRound _ (callsIn_wide.2 (motionCost_in t r x y p q a b c d n l _ HTv.out HRv.out HN.out HL.out (s.ext hI.ex) (u.ext hI.ex) hx100 hy100 (by omega) (by omega) (by omega) (by omega)))).mono ?_
  rintro e w6 ⟨rfl,e6⟩
  rw[←HC.out];have I6:=hI.e e6;have bR6:=e6.blk bR;have MN:=I6.set p q C hwQ hB6 hQS;clear k0 k1 k2 j0 j1 j2 i0 i1 r0 r1;obtain⟨-,r0,r1,-⟩:=bx2 bR6;obtain⟨-,b0,b1,b2,b3⟩:=bx2 I6.be;obtain⟨-,t0,t1⟩:=bx1 I6.le;obtain⟨-,n0,-⟩:=bx1 MN.le
  by_cases h1:z.2<0
  ·have f1:decide (z.2<0)=true:=by simpa using h1
   have Hnx:=Lib.hid (HNX.out.trans (if_pos (.inl h1)));clear HNX
   by_cases h0:C=0
   ·subst h0
    gi_wp2
    exact⟨(((e6.ko.trans (KeepsOthers.setCell _ _ _)).trans (KeepsOthers.setCell _ _ _)).trans (KeepsOthers.setCell _ _ _)).from _,rfl,congrArg Prod.snd Hnx.out,by rw[Hnx.out];exact MN⟩
   ·have f3:(C == 0)=false:=by simpa using h0
    gi_wp2
    exact⟨(((e6.ko.trans (KeepsOthers.setCell _ _ _)).trans (KeepsOthers.setCell _ _ _)).trans (KeepsOthers.setCell _ _ _)).from _,MN.sp.trans hI.sp.symm,by rw[Hnx.out];exact MN,by simp only[World.size_setCell];exact Nat.le_trans hIs e6.size⟩
  ·have f1:decide (z.2<0)=false:=by simpa using h1
   by_cases h2:C<z.2
   ·have f2:decide (C<z.2)=true:=by simpa using h2
    have Hnx:=Lib.hid (HNX.out.trans (if_pos (.inr h2)));clear HNX
    by_cases h0:C=0
    ·subst h0
     gi_wp2
     exact⟨(((e6.ko.trans (KeepsOthers.setCell _ _ _)).trans (KeepsOthers.setCell _ _ _)).trans (KeepsOthers.setCell _ _ _)).from _,rfl,congrArg Prod.snd Hnx.out,by rw[Hnx.out];exact MN⟩
    ·have f3:(C == 0)=false:=by simpa using h0
     gi_wp2
     exact⟨(((e6.ko.trans (KeepsOthers.setCell _ _ _)).trans (KeepsOthers.setCell _ _ _)).trans (KeepsOthers.setCell _ _ _)).from _,MN.sp.trans hI.sp.symm,by rw[Hnx.out];exact MN,by simp only[World.size_setCell];exact Nat.le_trans hIs e6.size⟩
   ·have f2:decide (C<z.2)=false:=by simpa using h2
    have Hnx:=Lib.hid (HNX.out.trans (if_neg (fun h=>h.elim h1 h2)));clear HNX
    gi_wp2
    exact⟨e6.ko.from _,I6.sp.trans hI.sp.symm,by rw[Hnx.out];exact I6,Nat.le_trans hIs e6.size⟩
 case done =>
  rintro D ys W hD hS ⟨hI,hIs⟩ hK
  have hS2:ys.map (·.1)=vecL:=hS;rw[hS2]at hI;obtain⟨z,hz⟩:∃ z,z=stI (cV t r x y) vecL:=⟨_,rfl⟩;rw[←hz]at hI;have Hz:=Lib.hid hz;clear hz hS hS2;obtain⟨-,b0,b1,-⟩:=bx2 hI.be;obtain⟨-,r0,r1,p0,p1⟩:=bx2 hI.rs;have hres:=blk_set2 (x' := .int .i64 z.1.1) (y' := .int .i64 z.1.2) hI.rs;have hext:=Ext.grown (Ext.grown hI.ex (gr_set _ (B+1+1+1+1) 0 (.int .i64 z.1.1)) (fun k e=>by cases e;omega)) (gr_set _ (B+1+1+1+1) 1 (.int .i64 z.1.2)) (fun k e=>by cases e;omega);have hK2:((W.setCell ⟨B+1+1+1+1,0,none⟩ (.int .i64 z.1.1)).setCell ⟨B+1+1+1+1,1,none⟩ (.int .i64 z.1.2)).heap[D]?=some (.deferred (some [])):=blk_set_other (blk_set_other hK (by omega)) (by omega);go_wp2;refine⟨by simp,.inl ⟨_,_,rfl,run_takeDeferred hK2,?_⟩⟩;exact⟨_,results_cell_row rfl _ _ (B+1+1+1+1) 27 #[.int .i64 z.1.1,.int .i64 z.1.2] (0,0) _ rfl (blk_putObj hres (by omega) _) Tryz.underlying27 rfl size_Vector,by rw[Hz.out],ext_putObj hext (by omega) _⟩
 case stop =>
  rintro D cd pre W hD hSp ⟨rfl,h0,hI⟩ hK
  have hst:=stI_stop (cV t r x y) (fun p q=>(HNN.out p q).1) hSp h0;rw[←hst]at hI;obtain⟨z,hz⟩:∃ z,z=stI (cV t r x y) vecL:=⟨_,rfl⟩;rw[←hz]at hI;have Hz:=Lib.hid hz;clear hz hst h0 hSp;obtain⟨-,b0,b1,-⟩:=bx2 hI.be;obtain⟨-,r0,r1,p0,p1⟩:=bx2 hI.rs;have hres:=blk_set2 (x' := .int .i64 z.1.1) (y' := .int .i64 z.1.2) hI.rs;have hext:=Ext.grown (Ext.grown hI.ex (gr_set _ (B+1+1+1+1) 0 (.int .i64 z.1.1)) (fun k e=>by cases e;omega)) (gr_set _ (B+1+1+1+1) 1 (.int .i64 z.1.2)) (fun k e=>by cases e;omega);have hK2:((W.setCell ⟨B+1+1+1+1,0,none⟩ (.int .i64 z.1.1)).setCell ⟨B+1+1+1+1,1,none⟩ (.int .i64 z.1.2)).heap[D]?=some (.deferred (some [])):=blk_set_other (blk_set_other hK (by omega)) (by omega)
  gi_wp2
  go_wp2;refine⟨by simp,.inl ⟨_,_,rfl,run_takeDeferred hK2,?_⟩⟩;exact⟨_,results_cell_row rfl _ _ (B+1+1+1+1) 27 #[.int .i64 z.1.1,.int .i64 z.1.2] (0,0) _ rfl (blk_putObj hres (by omega) _) Tryz.underlying27 rfl size_Vector,by rw[Hz.out],ext_putObj hext (by omega) _⟩
end Go.Proofs.YtbnhaegidfbgbaaGreatDoor
namespace Go.Proofs.YtbnhaegidfbgbaaGreatDoor
open Go.RowKit
/-- The seven captured variables. -/
structure C7 (B : Nat) (t r : Pic) (W H : Nat) (a b b2 : Option Addr) (n c l d l2 d2 x y q : Nat) (top : Int) (wx : World) : Prop where
 g0:wx.heap[B]?=some (.cells #[.int .i64 t.w,.int .i64 t.h,.slice a n c] 25 (0,0))
 g1:wx.heap[B+1]?=some (.cells #[.int .i64 r.w,.int .i64 r.h,.slice b l d] 25 (0,0))
 g2:wx.heap[B+1+1]?=some (.cells #[.int .i64 W,.int .i64 H,.slice b2 l2 d2] 25 (0,0))
 g3:wx.heap[B+1+1+1]?=some (.cells #[.int .i64 (x:Nat)] 3 (0,0))
 g4:wx.heap[B+1+1+1+1]?=some (.cells #[.int .i64 (y:Nat)] 3 (0,0))
 g5:wx.heap[B+1+1+1+1+1]?=some (.cells #[.int .i64 (q:Nat)] 3 (0,0))
 g6:wx.heap[B+1+1+1+1+1+1]?=some (.cells #[.int .i64 top] 3 (0,0))
theorem C7.e {B W H x y q:Nat} {top:Int} {t r:Pic} {a b b2:Option Addr} {n c l d l2 d2:Nat} {wx wy:World} (h:C7 B t r W H a b b2 n c l d l2 d2 x y q top wx) (e:Ext wx wy):C7 B t r W H a b b2 n c l d l2 d2 x y q top wy:=⟨e.blk h.g0,e.blk h.g1,e.blk h.g2,e.blk h.g3,e.blk h.g4,e.blk h.g5,e.blk h.g6⟩
theorem C7.gr {B W H x y q:Nat} {top:Int} {t r:Pic} {a b b2:Option Addr} {n c l d l2 d2:Nat} {wx wy:World} (h:C7 B t r W H a b b2 n c l d l2 d2 x y q top wx) {Q:Nat} (g:wx.grownBy wy (some Q)) (hQ:B+1+1+1+1+1+1<Q):C7 B t r W H a b b2 n c l d l2 d2 x y q top wy:=⟨blk_gr h.g0 g (by simp;omega),blk_gr h.g1 g (by simp;omega),blk_gr h.g2 g (by simp;omega),blk_gr h.g3 g (by simp;omega),blk_gr h.g4 g (by simp;omega),blk_gr h.g5 g (by simp;omega),blk_gr h.g6 g (by simp;omega)⟩
theorem C7.lt {B W H x y q:Nat} {top:Int} {t r:Pic} {a b b2:Option Addr} {n c l d l2 d2:Nat} {wx:World} (h:C7 B t r W H a b b2 n c l d l2 d2 x y q top wx):B+1+1+1+1+1+1<wx.heap.size:=lt_of_block h.g6
theorem Choose1_any (w:World):Calls Tryz.prog 59 #[] w fun e w'=>e= .returned (.agg (ic (zl 71)))∧Ext w w':=by
 have q0:=IB.new w 32 (zl 71);have e1:=Ext.alloc w (.cells (ic (zl 71)) 32);go_enter Tryz.func59,Tryz.ntmps59
 go_wp2_with (first|(refine wpList_iallocz 32 rfl rfl 71 zeroq_M ?_;(try simp only[World.size_alloc]))|(refine wpList_istore 32 _ _ rfl rfl q0 0 71 rfl _ rfl (zl 71) (by kernel_rfl) size_Macro (zl_len 71) (by rw[zl_len];omega) ?_;intro w2 r2 g2;refine Hid.out ?_))
 rw[spl_all (by rw[zl_len])]at r2;have E2:Ext w w2:=Ext.grown e1 g2 (fun k e=>by cases e;omega);refine Lib.hid ?_;go_wp2;exact bodyPost_ret (v := .agg (ic (zl 71))) (results_cell_row rfl _ _ w.heap.size 32 (ic (zl 71)) (0,0) _ rfl r2 Tryz.underlying32 rfl (by rw[ic_size,zl_len];exact size_Macro)) rfl ⟨rfl,E2⟩
theorem Choose2_in (t r:Pic) (W H x y q:Nat) (px:List Int) (top:Int) (a b b2:Option Addr) (c d d2 n l l2:Nat) (B:Nat) (w:World) (hT:TabQ w) (h:C7 B t r W H a b b2 n c l d l2 d2 x y q top w) (h1:alikeP t r) (h2:alikeP t ⟨W,H,px⟩) (h3:placeP t x y) (hq:q<16) (htop:0≤top∧top≤(y:Int)) (hn:n=t.px.length) (hl:l=r.px.length) (hl2:l2=px.length) (s:Sl w a n (t.px.map (Value.int .i64))) (u:Sl w b l (r.px.map (Value.int .i64))) (v:Sl w b2 l2 (px.map (Value.int .i64))) :
 Calls Tryz.prog 60 #[.pointer (some ⟨B,0,none⟩),.pointer (some ⟨B+1,0,none⟩),.pointer (some ⟨B+1+1+1,0,none⟩),.pointer (some ⟨B+1+1+1+1,0,none⟩),.pointer (some ⟨B+1+1+1+1+1,0,none⟩)] w fun e w'=>e= .returned (.agg (ic (can1 t r x y q).zs))∧Ext w w':=by
 have hln:=Pic.len_le h1.1;have hll:=Pic.len_le h1.2.1;have hlp:=Pic.len_le h2.2.1;simp only at hlp;rw[←hn]at hln;rw[←hl]at hll;rw[←hl2]at hlp;have hxy:x≤24∧y≤24:=by
  have e1:=h1.1.1.2.1;have e2:=h1.1.2.1.2.1;have e3:=h3.2.2.1;have e4:=h3.2.2.2.1;have e5:=h3.2.2.2.2.2.1;have e6:=h3.2.2.2.2.2.2;omega
 have hbeg:(0≤(x:Int))∧((x:Int)<t.w)∧((x:Int)%8=0)∧(0≤(y:Int))∧((y:Int)<t.h)∧((y:Int)%8=0):=h3.2;have HTv:=Lib.hid h1.1;have HRv:=Lib.hid h1.2.1;have H1:=Lib.hid h1;have HB:=Lib.hid hbeg;have HN:=Lib.hid hn;have HL:=Lib.hid hl;obtain⟨m1,hm1e⟩:∃ m,m=can1 t r x y q:=⟨_,rfl⟩;have hm1:=Lib.hid (Mac.zs_len (show m1.ok by rw[hm1e];exact can1_ok _ _ _ _ _));have hvv:=bv_vv h1.1 h1.2.1 x y;obtain⟨⟨p0,p1⟩,hpv⟩:∃ z,z=bv t r x y:=⟨_,rfl⟩;rw[←hpv]at hvv;simp only at hvv;have HBV:=Lib.hid (show(stI (cV t r x y) vecL).1=(p0,p1) by rw[hpv];unfold bv;rfl);have Hm1:=Lib.hid (show macI p0 p1 (intL t r x y p0 p1 q 4)=m1 by rw[hm1e];unfold can1;rw[←hpv]);rw[←hm1e];have hBl:=h.lt;have e0:=Ext.alloc w (.cells (ic (zl 71)) 32);have i0:=IB.new w 32 (zl 71);obtain⟨R,hR⟩:∃ R,R=w.heap.size:=⟨_,rfl⟩;rw[←hR]at i0 hBl;have hRw:w.heap.size≤R:=by omega
 clear h1 h2 h3 htop hn hl hl2 hm1e hpv hbeg;go_enter Tryz.func60,Tryz.ntmps60
 go_upto_region 1 with(first|(refine wpList_iallocz 32 rfl rfl 71 zeroq_M ?_;(try simp only[World.size_alloc]))|fail)
 rw[←hR];have F0:C7 B t r W H a b b2 n c l d l2 d2 x y q top (w.alloc (.cells (ic (zl 71)) 32))∧Ext w (w.alloc (.cells (ic (zl 71)) 32))∧IB (w.alloc (.cells (ic (zl 71)) 32)) R 32 (zl 71):=⟨h.e e0,e0,i0⟩;clear h e0 i0 hR;generalize w.alloc (.cells (ic (zl 71)) 32)=w1 at *;simp only[Act.put,List.setIfInBounds_toArray,List.set_cons_succ,List.set_cons_zero];refine wp_region_invL (by kernel_rfl) [(6,0),(7,1),(8,2),(9,3),(10,4),(11,5),(12,6),(13,7),(14,8),(15,9),(16,10)] [[],[],[],[],[],[],[],[],[4,5,6,7],[],[0,1,2,3,4,5,6,7,8,9],[0,1,2,3,4,5,6,7,8,9,10]] (fun i own ys wx=>match i with|0=>own= .agg #[.int .i64 t.w,.int .i64 t.h,.slice a n c]|1=>own= .agg #[.int .i64 r.w,.int .i64 r.h,.slice b l d]|2=>own= .int .i64 (x:Nat)|3=>own= .int .i64 (y:Nat)|4=>own= .agg #[.int .i64 t.w,.int .i64 t.h,.slice a n c]|5=>own= .agg #[.int .i64 r.w,.int .i64 r.h,.slice b l d]|6=>own= .int .i64 (x:Nat)|7=>own= .int .i64 (y:Nat)|8=>own= .agg #[.int .i64 p0,.int .i64 p1]|9=>own= .int .i64 (q:Nat)|10=>own= .agg (ic m1.zs)|11=>True|_=>True) (fun Lx wx=>C7 B t r W H a b b2 n c l d l2 d2 x y q top wx∧Ext w wx∧IB wx R 32 (if Lx 11=true then m1.zs else zl 71)) (by kernel_rfl) (by kernel_rfl) (by kernel_rfl) ?g0_r1 ?gop_r1 ?gend_r1
 case g0_r1=>exact⟨F0.1.e (Ext.drewN _ 1),F0.2.1.trans_drewN 1,F0.2.2.drewN 1⟩
 case gop_r1 =>
  refine⟨?_,?o1,?o2,?o3,?_,?o5,?o6,?o7,?o8,?o9,?o10,?o11,trivial⟩ <;> (intro Lx xs wx hG hl ha hb hD hI Qo Kx hK hQo;simp only[patchS,Nat.reduceAdd,Nat.reduceEqDiff,↓reduceIte]at hQo⊢)
  case o1 =>
   clear hl ha hb hD hI;obtain⟨-,k10,k11,k12,-⟩:=bx3 hG.1.g1;go_wp2;exact hK.out _ _ ⟨rfl,hG,kkp⟩
  case o2 =>
   clear hl ha hb hD hI;obtain⟨-,k30,-⟩:=bx1 hG.1.g3;go_wp2;exact hK.out _ _ ⟨rfl,hG,kkp⟩
  case o3 =>
   clear hl ha hb hD hI;obtain⟨-,k40,-⟩:=bx1 hG.1.g4;go_wp2;exact hK.out _ _ ⟨rfl,hG,kkp⟩
  case o5 =>
   clear hl ha hb hD hI;obtain⟨-,k10,k11,k12,-⟩:=bx3 hG.1.g1;go_wp2;exact hK.out _ _ ⟨rfl,hG,kkp⟩
  case o6 =>
   clear hl ha hb hD hI;obtain⟨-,k30,-⟩:=bx1 hG.1.g3;go_wp2;exact hK.out _ _ ⟨rfl,hG,kkp⟩
  case o7 =>
   clear hl ha hb hD hI;obtain⟨-,k40,-⟩:=bx1 hG.1.g4;go_wp2;exact hK.out _ _ ⟨rfl,hG,kkp⟩
  case o8 =>
   clear hl ha hb;rw[ddq (hD 4 rfl),ddq (hD 5 rfl),ddq (hD 6 rfl),ddq (hD 7 rfl)]at hQo⊢;clear hD hI;go_wp2_with fail
   refine(MotionSearch_in t r x y a b c d n l _ H1.out HB.out HN.out HL.out (s.ext hG.2.1) (u.ext hG.2.1)).mono ?_;rw[HBV.out]
   rintro e wz ⟨rfl,ez⟩
   go_wp2;exact hK.out _ _ ⟨rfl,⟨hG.1.e ez,hG.2.1.trans ez,hG.2.2.ext ez⟩,kkp⟩
  case o9 =>
   clear hl ha hb hD hI;obtain⟨-,k50,-⟩:=bx1 hG.1.g5;go_wp2;exact hK.out _ _ ⟨rfl,hG,kkp⟩
  case o10 =>
   clear hl ha hb;rw[ddq (hD 0 rfl),ddq (hD 1 rfl),ddq (hD 2 rfl),ddq (hD 3 rfl),ddq (hD 8 rfl),ddq (hD 9 rfl)]at hQo⊢;clear hD hI;go_wp2_with fail
   refine(impl_InterMacro_yes_4 t r x y p0 p1 q a b c d n l _ (hT.ext hG.2.1) HN.out HL.out (by omega) (by omega) (s.ext hG.2.1) (u.ext hG.2.1) HRv.out HTv.out (by omega) (by omega) hvv hq H1.out HB.out hvv (by omega)).mono ?_;rw[Hm1.out]
   rintro e wz ⟨rfl,ez⟩
   go_wp2;exact hK.out _ _ ⟨rfl,⟨hG.1.e ez,hG.2.1.trans ez,hG.2.2.ext ez⟩,kkp⟩
  case o11 =>
   have l11:Lx 11=false:=hl;clear hl ha hb;rw[ddq (hD 10 rfl)]at hQo⊢;clear hD hI;rw[l11,ifF]at hG;have ib:=hG.2.2;refine wpList_istore 32 _ _ rfl rfl ib 0 71 rfl _ rfl m1.zs rfl size_Macro hm1.out (by rw[zl_len];omega) ?_;intro w9 i9 g9;rw[spl_all (by rw[hm1.out,zl_len])]at i9;exact hQo undef _ (hK.out _ _ ⟨trivial,⟨hG.1.gr g9 hBl,Ext.grown hG.2.1 g9 (fun k e=>by cases e;exact hRw),i9⟩,fun _ _ _ _ _ _ h=>h⟩)
  all_goals
   clear hl ha hb hD hI;obtain⟨-,k00,k01,k02,-⟩:=bx3 hG.1.g0;go_wp2;exact hK.out _ _ ⟨rfl,hG,kkp⟩
 intro xs wx hV hG0;obtain⟨Lx,hL,hG⟩:=hG0;have l11:Lx 11=true:=hL 11 (by decide);clear hL hV;simp only[patchS,Nat.reduceAdd,Nat.reduceEqDiff,↓reduceIte];generalize xs 0=y0,xs 1=y1,xs 2=y2,xs 3=y3,xs 4=y4,xs 5=y5,xs 6=y6,xs 7=y7,xs 8=y8,xs 9=y9,xs 10=y10,xs 11=y11 at *
 replace hG:C7 B t r W H a b b2 n c l d l2 d2 x y q top wx∧Ext w wx∧IB wx R 32 (if Lx 11=true then m1.zs else zl 71):=hG
 rw[l11,ifT]at hG;obtain⟨-,hE,hI⟩:=hG;go_wp2;exact bodyPost_ret (v := .agg (ic m1.zs)) (results_cell_row rfl _ _ R 32 (ic m1.zs) (0,0) _ rfl hI Tryz.underlying32 rfl (by rw[ic_size,hm1.out];exact size_Macro)) rfl ⟨rfl,hE⟩
theorem Choose3_in (t r:Pic) (W H x y q:Nat) (px:List Int) (top:Int) (a b b2:Option Addr) (c d d2 n l l2:Nat) (B:Nat) (w:World) (hT:TabQ w) (h:C7 B t r W H a b b2 n c l d l2 d2 x y q top w) (h1:alikeP t r) (h2:alikeP t ⟨W,H,px⟩) (h3:placeP t x y) (hq:q<16) (htop:0≤top∧top≤(y:Int)) (hn:n=t.px.length) (hl:l=r.px.length) (hl2:l2=px.length) (s:Sl w a n (t.px.map (Value.int .i64))) (u:Sl w b l (r.px.map (Value.int .i64))) (v:Sl w b2 l2 (px.map (Value.int .i64))) :
 Calls Tryz.prog 61 #[.pointer (some ⟨B,0,none⟩),.pointer (some ⟨B+1+1,0,none⟩),.pointer (some ⟨B+1+1+1,0,none⟩),.pointer (some ⟨B+1+1+1+1,0,none⟩),.pointer (some ⟨B+1+1+1+1+1,0,none⟩),.pointer (some ⟨B+1+1+1+1+1+1,0,none⟩)] w fun e w'=>e= .returned (.agg (ic (can2 t ⟨W,H,px⟩ x y q top).zs))∧Ext w w':=by
 have hln:=Pic.len_le h1.1;have hll:=Pic.len_le h1.2.1;have hlp:=Pic.len_le h2.2.1;simp only at hlp;rw[←hn]at hln;rw[←hl]at hll;rw[←hl2]at hlp;have hxy:x≤24∧y≤24:=by
  have e1:=h1.1.1.2.1;have e2:=h1.1.2.1.2.1;have e3:=h3.2.2.1;have e4:=h3.2.2.2.1;have e5:=h3.2.2.2.2.2.1;have e6:=h3.2.2.2.2.2.2;omega
 have hbeg:(0≤(x:Int))∧((x:Int)<t.w)∧((x:Int)%8=0)∧(0≤(y:Int))∧((y:Int)<t.h)∧((y:Int)%8=0):=h3.2;have hW8:x+8≤W∧y+8≤H∧W≤32∧H≤32:=by
  have p1:=h2.2.1.1;have p2:=h2.2.1.2.1;have e1:=h2.2.2.1;have e2:=h2.2.2.2;simp only at p1 p2 e1 e2;have g3:=h3.2.2.1;have g5:=h3.2.2.2.2.2.1;have k1:=side_fit h1.1.1 e1 g3 h3.2.2.2.1;have k2:=side_fit h1.1.2.1 e2 g5 h3.2.2.2.2.2.2;have:=p1.2.1;have:=p2.2.1;omega
 have hm2:=Lib.hid (Mac.zs_len (can2_ok t ⟨W,H,px⟩ x y q top));have hc:=fun(w:World) (hT:TabQ w) (s:Sl w a n (t.px.map (Value.int .i64))) (v:Sl w b2 l2 (px.map (Value.int .i64)))=>impl_IntraMacro_yes_5 t W H x y px q top a b2 c d2 n l2 w hT hn hl2 (by omega) (by omega) s v h1.1 h2.2.1 hW8.1 hW8.2.1 hW8.2.2.1 hW8.2.2.2 hq htop.1 h2 hbeg (by omega) htop.1 htop.2
 rw[show inMac t ⟨W,H,px⟩ x y q top 4=can2 t ⟨W,H,px⟩ x y q top from rfl]at hc;obtain⟨m2,hm2e⟩:∃ m,m=can2 t ⟨W,H,px⟩ x y q top:=⟨_,rfl⟩;rw[←hm2e]at hc hm2⊢;have HC:=Lib.hid hc;have hBl:=h.lt;have e0:=Ext.alloc w (.cells (ic (zl 71)) 32);have i0:=IB.new w 32 (zl 71);obtain⟨R,hR⟩:∃ R,R=w.heap.size:=⟨_,rfl⟩;rw[←hR]at i0 hBl;have hRw:w.heap.size≤R:=by omega
 have h9:=h.e e0;clear h1 h2 h3 htop hn hl hl2 hm2e hbeg hc h;go_enter Tryz.func61,Tryz.ntmps61
 go_upto_region 1 with(first|(refine wpList_iallocz 32 rfl rfl 71 zeroq_M ?_;(try simp only[World.size_alloc]))|fail)
 rw[←hR];clear hR;generalize w.alloc (.cells (ic (zl 71)) 32)=w1 at *;obtain⟨-,k00,k01,k02,-⟩:=bx3 h9.g0;obtain⟨-,k20,k21,k22,-⟩:=bx3 h9.g2;obtain⟨-,k30,-⟩:=bx1 h9.g3;obtain⟨-,k40,-⟩:=bx1 h9.g4;obtain⟨-,k50,-⟩:=bx1 h9.g5;obtain⟨-,k60,-⟩:=bx1 h9.g6;go_wp2_with fail
 refine(HC.out _ (hT.ext e0) (s.ext e0) (v.ext e0)).mono ?_
 rintro e w2 ⟨rfl,e2⟩
 have i2:=i0.ext e2;have E2:=e0.trans e2;clear i0 e0 e2 h9 HC k00 k20 k30 k40 k50 k60 k01 k02 k21 k22;go_wp2_with (refine wpList_istore 32 _ _ rfl rfl i2 0 71 rfl _ rfl m2.zs rfl size_Macro hm2.out (by rw[zl_len];omega) ?_;intro w3 i3 g3;refine Hid.out ?_)
 rw[spl_all (by rw[hm2.out,zl_len])]at i3;have E3:Ext w w3:=Ext.grown E2 g3 (fun k e=>by cases e;exact hRw);refine Lib.hid ?_;go_wp2;exact bodyPost_ret (v := .agg (ic m2.zs)) (results_cell_row rfl _ _ R 32 (ic m2.zs) (0,0) _ rfl i3 Tryz.underlying32 rfl (by rw[ic_size,hm2.out];exact size_Macro)) rfl ⟨rfl,E3⟩
theorem Choose4_in (m:Mac) (t r:Pic) (W H x y q:Nat) (px:List Int) (top:Int) (a b b2:Option Addr) (c d d2 n l l2:Nat) (B:Nat) (w:World) (hT:TabQ w) (h:C7 B t r W H a b b2 n c l d l2 d2 x y q top w) (hm:m.ok) (hv:m.valid) (h1:alikeP t r) (h2:alikeP t ⟨W,H,px⟩) (h3:placeP t x y) (hq:q<16) (htop:0≤top∧top≤(y:Int)) (hn:n=t.px.length) (hl:l=r.px.length) (hl2:l2=px.length) (s:Sl w a n (t.px.map (Value.int .i64))) (u:Sl w b l (r.px.map (Value.int .i64))) (v:Sl w b2 l2 (px.map (Value.int .i64))) :
 Calls Tryz.prog 63 #[.agg (ic m.zs),.pointer (some ⟨B,0,none⟩),.pointer (some ⟨B+1,0,none⟩),.pointer (some ⟨B+1+1,0,none⟩),.pointer (some ⟨B+1+1+1,0,none⟩),.pointer (some ⟨B+1+1+1+1,0,none⟩),.pointer (some ⟨B+1+1+1+1+1,0,none⟩),.pointer (some ⟨B+1+1+1+1+1+1,0,none⟩)] w fun e w'=>e= .returned (.int .i64 (cst t r ⟨W,H,px⟩ x y q top m))∧Ext w w':=by
 have hln:=Pic.len_le h1.1;have hll:=Pic.len_le h1.2.1;have hlp:=Pic.len_le h2.2.1;simp only at hlp;rw[←hn]at hln;rw[←hl]at hll;rw[←hl2]at hlp;have hxy:x≤24∧y≤24:=by
  have e1:=h1.1.1.2.1;have e2:=h1.1.2.1.2.1;have e3:=h3.2.2.1;have e4:=h3.2.2.2.1;have e5:=h3.2.2.2.2.2.1;have e6:=h3.2.2.2.2.2.2;omega
 have hml:=Lib.hid (Mac.zs_len hm);have ho:=okR_of (q:=(q:Int)) h1 h2 h3 (by omega) htop hv;have hc:=fun(w:World) (hT:TabQ w) (s:Sl w a n (t.px.map (Value.int .i64))) (u:Sl w b l (r.px.map (Value.int .i64))) (v:Sl w b2 l2 (px.map (Value.int .i64)))=>impl_cost_in t r W H x y px m q top a b b2 c d d2 n l l2 w hT hn hl hl2 (by omega) s u v hm h1.1 ho
 rw[show sqS t ⟨W,H,bldS r ⟨W,H,px⟩ x y m q top 4⟩ x y 64+stp q*(macN m:Int)=cst t r ⟨W,H,px⟩ x y q top m from rfl]at hc;obtain⟨C,hC⟩:∃ C,C=cst t r ⟨W,H,px⟩ x y q top m:=⟨_,rfl⟩;rw[←hC]at hc⊢;have HC:=Lib.hid hc;have e0:=Ext.alloc w (.cells (ic m.zs) 32);have i0:=IB.new w 32 m.zs;have h9:=h.e e0;obtain⟨R,hR⟩:∃ R,R=w.heap.size:=⟨_,rfl⟩;rw[←hR]at i0;clear h1 h2 h3 htop hn hl hl2 hc h ho hC hm hv;go_enter Tryz.func63,Tryz.ntmps63
 go_upto_region 1 with fail
 rw[←hR];clear hR;generalize w.alloc (.cells (ic m.zs) 32)=w1 at *;obtain⟨-,k00,k01,k02,-⟩:=bx3 h9.g0;obtain⟨-,k10,k11,k12,-⟩:=bx3 h9.g1;obtain⟨-,k20,k21,k22,-⟩:=bx3 h9.g2;obtain⟨-,k30,-⟩:=bx1 h9.g3;obtain⟨-,k40,-⟩:=bx1 h9.g4;obtain⟨-,k50,-⟩:=bx1 h9.g5;obtain⟨-,k60,-⟩:=bx1 h9.g6;go_wp2_with (refine wpList_iload 32 _ rfl rfl i0 0 71 rfl _ Tryz.underlying32 rfl size_Macro (by rw[hml.out];omega) _ (by rw[sub_all _ _ hml.out]) ?_)
 refine(HC.out _ (hT.ext e0) (s.ext e0) (u.ext e0) (v.ext e0)).mono ?_
 rintro e w2 ⟨rfl,e2⟩
 go_wp2;go_ret
 exact⟨rfl,e0.trans e2⟩
end Go.Proofs.YtbnhaegidfbgbaaGreatDoor
