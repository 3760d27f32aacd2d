/- Part 6 of the proof. -/
import Derived.Test.YtijnbalgnhigbaaGreatDoorQe5
import Derived.Deep.Cut
import Derived.OneCell
import Derived.LoopIn
set_option linter.unusedVariables false
set_option linter.unusedSimpArgs false
set_option maxRecDepth 100000
set_option maxHeartbeats 4000000
namespace Go.Proofs.YtijnbalgnhigbaaGreatDoor
open Go.RowKit
def bv (t r:Pic)(x y:Nat):Int×Int:=(stI (cV t r x y) vecL).1
theorem QG {t r:Pic}(ht:t.valid)(hr:r.valid)(x y:Nat):boxV (bv t r x y).1 (bv t r x y).2:=by
 have h:=(Mo (cV t r x y) (fun u v=>(KP ht hr (x:Int) (y:Int) u v).1)).1;unfold bv;exact h
noncomputable def cst (t r p : Pic)(x y q : Nat)(top : Int)(m : Mac): Int := sqS t ⟨p.w, p.h, bldS r p x y m q top 4⟩ x y 64 + stp q * (macN m : Int)
noncomputable def stC (t r p : Pic)(x y q : Nat)(top : Int)(m1 m2 : Mac): Nat → Mac
 | 0=>mac0
 | k+1=>if cst t r p x y q top (if k=0 then m1 else m2)<cst t r p x y q top (stC t r p x y q top m1 m2 k)then(if k=0 then m1 else m2)else stC t r p x y q top m1 m2 k
theorem JY {t r p:Pic}{x y q:Nat}{top:Int}{m1 m2:Mac}(h1:m1.ok)(h2:m2.ok)(k:Nat):(stC t r p x y q top m1 m2 k).ok:=by
 induction k with
 | zero=>exact Ie
 | succ k ih =>
  have hc:(if k=0 then m1 else m2).ok:=by split <;> assumption
  unfold stC
  by_cases hlt:cst t r p x y q top (if k=0 then m1 else m2)<cst t r p x y q top (stC t r p x y q top m1 m2 k)
  ·rw[if_pos hlt];exact hc
  ·rw[if_neg hlt];exact ih
theorem If : mac0.valid:=by
 refine⟨⟨by decide,by decide⟩,⟨by decide,by decide,by decide,by decide⟩,fun _=>⟨rfl,rfl⟩,fun _=>rfl,fun h=>absurd h (by decide),fun _=>rfl,?_⟩
 decide
def can1 (t r:Pic)(x y q:Nat):Mac:=macI (bv t r x y).1 (bv t r x y).2 (intL t r x y (bv t r x y).1 (bv t r x y).2 q 4)
def can2 (t p:Pic)(x y q:Nat)(top:Int):Mac:=BP t p x y q top 4
noncomputable def chM (t r p : Pic)(x y q : Nat)(top : Int): Mac := stC t r p x y q top (can1 t r x y q) (can2 t p x y q top) 2
theorem Ge (t r:Pic)(x y q:Nat):(can1 t r x y q).ok:=Dj _ _ (FH _ _ _ _ _ _ _ (Nat.le_refl 4))
theorem Gf (t p:Pic)(x y q:Nat)(top:Int):(can2 t p x y q top).ok:=FG t p x y q top (Nat.le_refl 4)
theorem OZ {t r:Pic}(ht:t.valid)(hr:r.valid)(x y:Nat):vv (bv t r x y).1 (bv t r x y).2:=by
 have h:=QG ht hr x y;unfold boxV at h;exact⟨by omega,by omega,by omega,by omega⟩
theorem GK {t r:Pic}(ht:t.valid)(hr:r.valid)(x y:Nat){q:Nat}(hq:q<16):(can1 t r x y q).valid:=Nb ht hr x y (OZ ht hr x y) hq
theorem GL {t p:Pic}(ht:t.valid)(hp:p.valid)(x y:Nat){q:Nat}(hq:q<16)(top:Int):(can2 t p x y q top).valid:=II ht hp x y q hq top
theorem KQ (t r p:Pic)(x y q:Nat)(top:Int):(chM t r p x y q top).ok:=JY (Ge _ _ _ _ _) (Gf _ _ _ _ _ _) 2
theorem Pu {t r p:Pic}{x y q top:Int}(h1:AS t r)(h2:AS t p)(h3:BJ t x y)(hq:0≤q∧q≤15)(ht:0≤top∧top≤y){m:Mac}(hm:m.valid):okR r p x y m q top :=
 ⟨⟨h2.2.1,by rw[←h2.2.2.1,←h2.2.2.2];exact h3.2⟩,hm,hq,ht,.inr ⟨h1.2.1,h2.2.1,by rw[←h1.2.2.1,h2.2.2.1],by rw[←h1.2.2.2,h2.2.2.2]⟩⟩
structure CS (w : World) (B Q G : Nat) (t r : Pic) (W H : Nat) (a b b2 : Option Addr) (n c l d l2 d2 : Nat) (Z ms : List Int) (wx : World) : Prop where
 ex:Ext w wx
 f1:wx.heap[B]?=some (.cells #[.int .i64 t.w,.int .i64 t.h,.slice a n c] 30 (0,0))
 f2:wx.heap[B+1]?=some (.cells #[.int .i64 r.w,.int .i64 r.h,.slice b l d] 30 (0,0))
 f3:wx.heap[B+1+1]?=some (.cells #[.int .i64 W,.int .i64 H,.slice b2 l2 d2] 30 (0,0))
 rs:IB wx (B+1+1+1) 50 (zl 71)
 be:IB wx Q 50 ms
 li:IB wx G 50 Z
 od:w.heap.size≤B∧B+1+1+1<Q∧Q<G
theorem CS.e {w wx wy:World}{B Q G W H n c l d l2 d2:Nat}{t r:Pic}{a b b2:Option Addr}{Z ms:List Int}(h:CS w B Q G t r W H a b b2 n c l d l2 d2 Z ms wx)(e:Ext wx wy):CS w B Q G t r W H a b b2 n c l d l2 d2 Z ms wy :=
 ⟨h.ex.trans e,e.blk h.f1,e.blk h.f2,e.blk h.f3,h.rs.ext e,h.be.ext e,h.li.ext e,h.od⟩
theorem CS.set {w wx wy:World}{B Q G W H n c l d l2 d2:Nat}{t r:Pic}{a b b2:Option Addr}{Z ms ms':List Int}(h:CS w B Q G t r W H a b b2 n c l d l2 d2 Z ms wx)(i:IB wy Q 50 ms')(g:wx.grownBy wy (some Q)):CS w B Q G t r W H a b b2 n c l d l2 d2 Z ms' wy:=by
 have:=h.od;exact⟨Ext.grown h.ex g (fun k e=>by cases e;omega),Ar h.f1 g (by simp;omega),Ar h.f2 g (by simp;omega),Ar h.f3 g (by simp;omega),h.rs.gr g (by simp;omega),i,h.li.gr g (by simp;omega),h.od⟩
theorem PL (z0 z1:List Int)(h:z0.length=71):sub (z0++z1) 0 71=z0:=by unfold sub;rw[List.drop_zero,←h,List.take_left]
theorem OQ (z0 z1:List Int)(h:z0.length=71)(h1:z1.length=71):sub (z0++z1) 71 71=z1:=by
 unfold sub;rw[List.drop_append,h,List.drop_of_length_le (by omega),Nat.sub_self,List.drop_zero,List.nil_append,List.take_of_length_le (by omega)]
theorem K8 (t r:Pic)(W H x y q:Nat)(px:List Int)(top:Int)(a b b2:Option Addr)(c d d2 n l l2:Nat)(w:World)(h1:AS t r)(h2:AS t ⟨W,H,px⟩)(h3:BJ t x y)(hq:q<16)(htop:0≤top∧top≤(y:Int))(hn:n=t.px.length)(hl:l=r.px.length)(hl2:l2=px.length)(s:Sl w a n (t.px.map (Value.int .i64)))(u:Sl w b l (r.px.map (Value.int .i64)))(v:Sl w b2 l2 (px.map (Value.int .i64))):
 Calls Tryz.prog 34 #[.agg #[.int .i64 t.w,.int .i64 t.h,.slice a n c],.agg #[.int .i64 r.w,.int .i64 r.h,.slice b l d],.agg #[.int .i64 W,.int .i64 H,.slice b2 l2 d2],.int .i64 (x:Nat),.int .i64 (y:Nat),.int .i64 (q:Nat),.int .i64 top] w fun e w'=>e= .returned (.agg (ic (chM t r ⟨W,H,px⟩ x y q top).zs))∧Ext w w':=by
 have HO:=Aa (fun(m:Mac) (hm:m.valid)=>Pu (q:=(q:Int)) h1 h2 h3 (by omega) htop hm);have hln:=Pic.len_le h1.1;have hll:=Pic.len_le h1.2.1;have hlp:=Pic.len_le h2.2.1;simp only at hlp;rw[←hn]at hln;rw[←hl]at hll;rw[←hl2]at hlp;have hxy:x≤24∧y≤24:=by
  have g1:=h1.1.1.2.1;have g2:=h1.1.2.1.2.1;have g3:=h3.2.2.1;have g4:=h3.2.2.2.1;have g5:=h3.2.2.2.2.2.1;have g6:=h3.2.2.2.2.2.2;omega
 have hW8:x+8≤W∧y+8≤H∧W≤32∧H≤32:=by
  have p1:=h2.2.1.1;have p2:=h2.2.1.2.1;have e1:=h2.2.2.1;have e2:=h2.2.2.2;simp only at p1 p2 e1 e2;have g3:=h3.2.2.1;have g5:=h3.2.2.2.2.2.1;have k1:=Im h1.1.1 e1 g3 h3.2.2.2.1;have k2:=Im h1.1.2.1 e2 g5 h3.2.2.2.2.2.2;have:=p1.2.1;have:=p2.2.1;omega
 have HTv:=Aa h1.1;have HRv:=Aa h1.2.1;have HPv:=Aa h2.2.1;have HN:=Aa hn;have HL:=Aa hl;have HL2:=Aa hl2;have ht0:=htop.1;obtain⟨m1,hm1e⟩:∃ m,m=can1 t r x y q:=⟨_,rfl⟩;obtain⟨m2,hm2e⟩:∃ m,m=can2 t ⟨W,H,px⟩ x y q top:=⟨_,rfl⟩;have hm1:=Aa (show m1.ok by rw[hm1e];exact Ge _ _ _ _ _);have hm2:=Aa (show m2.ok by rw[hm2e];exact Gf _ _ _ _ _ _);have vm1:=Aa (show m1.valid by rw[hm1e];exact GK h1.1 h1.2.1 x y hq);have vm2:=Aa (show m2.valid by rw[hm2e];exact GL h1.1 h2.2.1 x y hq top);have hl1:=Aa (Mac.zs_len hm1.out);have hl2':=Aa (Mac.zs_len hm2.out);have HB0:=Aa (show(m1.zs++m2.zs).length=142 by rw[List.length_append,hl1.out,hl2'.out]);have HB1:=Aa (PL m1.zs m2.zs hl1.out);have HB2:=Aa (OQ m1.zs m2.zs hl1.out hl2'.out);have hvv:=OZ h1.1 h1.2.1 x y;obtain⟨⟨p0,p1⟩,hpv⟩:∃ z,z=bv t r x y:=⟨_,rfl⟩;rw[←hpv]at hvv;simp only at hvv;have HBV:=Aa (show(stS (cV t r x y) 81).1=(p0,p1) by rw[hpv];exact Of _ (fun u v=>(KP h1.1 h1.2.1 (x:Int) (y:Int) u v).1));have Hm1:=Aa (show macI p0 p1 (intL t r x y p0 p1 q 4)=m1 by rw[hm1e];unfold can1;rw[←hpv]);have Hm2:=Aa (show BP t ⟨W,H,px⟩ x y q top 4=m2 by rw[hm2e];rfl);have HR:=Aa (show stC t r ⟨W,H,px⟩ x y q top m1 m2 2=chM t r ⟨W,H,px⟩ x y q top by rw[hm1e,hm2e];rfl);clear hn hl hl2 h1 h2 h3 htop hm1e hm2e hpv;have a0:=Ext.alloc w (.cells #[.int .i64 t.w,.int .i64 t.h,.slice a n c] 30);have a1:=Ext.alloc (w.alloc (.cells #[.int .i64 t.w,.int .i64 t.h,.slice a n c] 30)) (.cells #[.int .i64 r.w,.int .i64 r.h,.slice b l d] 30);have a2:=Ext.alloc ((w.alloc (.cells #[.int .i64 t.w,.int .i64 t.h,.slice a n c] 30)).alloc (.cells #[.int .i64 r.w,.int .i64 r.h,.slice b l d] 30)) (.cells #[.int .i64 W,.int .i64 H,.slice b2 l2 d2] 30);have a3:=Ext.alloc (((w.alloc (.cells #[.int .i64 t.w,.int .i64 t.h,.slice a n c] 30)).alloc (.cells #[.int .i64 r.w,.int .i64 r.h,.slice b l d] 30)).alloc (.cells #[.int .i64 W,.int .i64 H,.slice b2 l2 d2] 30)) (.cells (ic (zl 71)) 50);have X0:=a3.blk (a2.blk (a1.blk (Aj w (.cells #[.int .i64 t.w,.int .i64 t.h,.slice a n c] 30))));have X1:=a3.blk (a2.blk (Aj (w.alloc (.cells #[.int .i64 t.w,.int .i64 t.h,.slice a n c] 30)) (.cells #[.int .i64 r.w,.int .i64 r.h,.slice b l d] 30)));have X2:=a3.blk (Aj ((w.alloc (.cells #[.int .i64 t.w,.int .i64 t.h,.slice a n c] 30)).alloc (.cells #[.int .i64 r.w,.int .i64 r.h,.slice b l d] 30)) (.cells #[.int .i64 W,.int .i64 H,.slice b2 l2 d2] 30));have X3:=IB.new (((w.alloc (.cells #[.int .i64 t.w,.int .i64 t.h,.slice a n c] 30)).alloc (.cells #[.int .i64 r.w,.int .i64 r.h,.slice b l d] 30)).alloc (.cells #[.int .i64 W,.int .i64 H,.slice b2 l2 d2] 30)) 50 (zl 71);have E0:=((a0.trans a1).trans a2).trans a3;simp only[World.size_alloc]at X1 X2 X3;obtain⟨B,hB⟩:∃ B,B=w.heap.size:=⟨_,rfl⟩;rw[←hB]at X0 X1 X2 X3;have hwB:w.heap.size≤B:=by omega
 have hB3:=X3.lt;clear a0 a1 a2 a3;go_enter Tryz.func34,Tryz.ntmps34
 go_upto_region 1 with(first|(refine Au 50 rfl rfl 71 Bf ?_;(try simp only[World.size_alloc]))|fail)
 try simp only[World.size_alloc]
 rw[←hB];clear hB;generalize ((((w.alloc (.cells #[.int .i64 t.w,.int .i64 t.h,.slice a n c] 30)).alloc (.cells #[.int .i64 r.w,.int .i64 r.h,.slice b l d] 30)).alloc (.cells #[.int .i64 W,.int .i64 H,.slice b2 l2 d2] 30)).alloc (.cells (ic (zl 71)) 50))=w1 at *;have q0:=IB.new w1 50 (zl 71);have e1:=Ext.alloc w1 (.cells (ic (zl 71)) 50);go_upto_region 2 with(first|(refine Au 50 rfl rfl 71 Bf ?_;(try simp only[World.size_alloc]))|(refine Af 50 _ _ rfl rfl q0 0 71 rfl _ rfl (zl 71) Ls Ah (AB 71) (by rw[AB];omega) ?_;intro w2 r2 g2;refine Hid.out ?_))
 rw[Ap (by rw[AB])]at r2;obtain⟨Q,hQ⟩:∃ Q,Q=w1.heap.size:=⟨_,rfl⟩;rw[←hQ]at r2 g2 hB3⊢;have hQl:=r2.lt;have Y0:=Ar (e1.blk X0) g2 (by simp;omega);have Y1:=Ar (e1.blk X1) g2 (by simp;omega);have Y2:=Ar (e1.blk X2) g2 (by simp;omega);have Y3:=(X3.ext e1).gr g2 (by simp;omega);have E2:Ext w w2:=Ext.grown (E0.trans e1) g2 (fun k e=>by cases e;omega);clear X0 X1 X2 X3 E0 q0 e1 g2 hQ;refine Aa ?_;obtain⟨-,k0,k1,k2,-⟩:=bx3 Y0;obtain⟨-,j0,j1,j2,-⟩:=bx3 Y1;obtain⟨-,i0,i1,i2,-⟩:=bx3 Y2;go_wp2_with (refine Ab 50 _ rfl rfl r2 0 71 rfl _ Ro rfl Ah (by rw[AB];omega) _ (by rw[Ak _ _ (AB 71)]) ?_)
 have hc:=EX t r W H x y px mac0 q top a b b2 c d d2 n l l2 w2 HN.out HL.out HL2.out (by omega) (s.ext E2) (u.ext E2) (v.ext E2) Ie HTv.out (HO.out _ If);rw[Ja]at hc;refine hc.mono ?_;clear hc
 rintro e w3 ⟨rfl,e3⟩
 rw[show sqS t ⟨W,H,bldS r ⟨W,H,px⟩ x y mac0 q top 4⟩ x y 64+stp q*(macN mac0:Int)=cst t r ⟨W,H,px⟩ x y q top (stC t r ⟨W,H,px⟩ x y q top m1 m2 0)from rfl];obtain⟨D0,hD0⟩:∃ D,D=cst t r ⟨W,H,px⟩ x y q top (stC t r ⟨W,H,px⟩ x y q top m1 m2 0):=⟨_,rfl⟩;rw[←hD0];have HD0:=Aa hD0;have Z0:=e3.blk Y0;have Z1:=e3.blk Y1;have Z2:=e3.blk Y2;have Z3:=Y3.ext e3;have r3:=r2.ext e3;have E3:=E2.trans e3;have hQ3:=r3.lt;clear Y0 Y1 Y2 Y3 r2 E2 e3 k0 k1 k2 j0 j1 j2 i0 i1 i2 hD0 hQl;go_wp2_with fail
 have hext:Stab (fun wa wb=>Ext wa wb) (fun i own ys wx=>match i with|0=>own= .agg #[.int .i64 t.w,.int .i64 t.h,.slice a n c]|1=>own= .agg #[.int .i64 r.w,.int .i64 r.h,.slice b l d]|2=>own= .int .i64 (x:Nat)|3=>own= .int .i64 (y:Nat)|4=>own= .agg #[.int .i64 t.w,.int .i64 t.h,.slice a n c]|5=>own= .agg #[.int .i64 r.w,.int .i64 r.h,.slice b l d]|6=>own= .int .i64 (x:Nat)|7=>own= .int .i64 (y:Nat)|8=>own= .agg #[.int .i64 p0,.int .i64 p1]|9=>own= .int .i64 (q:Nat)|10=>own= .agg (ic m1.zs)|11=>own= .agg #[.int .i64 t.w,.int .i64 t.h,.slice a n c]|12=>own= .agg #[.int .i64 W,.int .i64 H,.slice b2 l2 d2]|13=>own= .int .i64 (x:Nat)|14=>own= .int .i64 (y:Nat)|15=>own= .int .i64 (q:Nat)|16=>own= .int .i64 top|17=>own= .agg (ic m2.zs)|18=>∃ g:Nat,own= .slice (some ⟨g,0,none⟩) 2 2∧IB wx g 50 (m1.zs++m2.zs)∧Q<g|19=>∃ g:Nat,own= .slice (some ⟨g,0,none⟩) 2 2∧IB wx g 50 (m1.zs++m2.zs)∧Q<g|_=>True):=by
  intro i own ys wa wb e h
  match i,h with
  | 0,h|1,h|2,h|3,h|4,h|5,h|6,h|7,h|8,h|9,h|10,h|11,h|12,h|13,h|14,h|15,h|16,h|17,h=>exact h
  | 18,h|19,h=>obtain⟨g9,h1,h2,h3⟩:=h;exact⟨g9,h1,h2.ext e,h3⟩
  | _+20,_=>trivial
 have Hext:=Aa hext;clear hext;refine An (by kernel_rfl) [(17,19),(30,0),(31,1),(32,2),(33,3),(34,4),(35,5),(36,6),(37,7),(38,8),(39,9),(40,10),(41,11),(42,12),(43,13),(44,14),(45,15),(46,16),(47,17),(48,18)] [[],[],[],[],[],[],[],[],[4,5,6,7],[],[0,1,2,3,4,5,6,7,8,9],[],[],[],[],[],[],[0,1,2,3,4,5,6,7,8,9,10,11,12,13,14,15,16],[0,1,2,3,4,5,6,7,8,9,10,11,12,13,14,15,16,17],[0,1,2,3,4,5,6,7,8,9,10,11,12,13,14,15,16,17,18]] (fun i own ys wx=>match i with|0=>own= .agg #[.int .i64 t.w,.int .i64 t.h,.slice a n c]|1=>own= .agg #[.int .i64 r.w,.int .i64 r.h,.slice b l d]|2=>own= .int .i64 (x:Nat)|3=>own= .int .i64 (y:Nat)|4=>own= .agg #[.int .i64 t.w,.int .i64 t.h,.slice a n c]|5=>own= .agg #[.int .i64 r.w,.int .i64 r.h,.slice b l d]|6=>own= .int .i64 (x:Nat)|7=>own= .int .i64 (y:Nat)|8=>own= .agg #[.int .i64 p0,.int .i64 p1]|9=>own= .int .i64 (q:Nat)|10=>own= .agg (ic m1.zs)|11=>own= .agg #[.int .i64 t.w,.int .i64 t.h,.slice a n c]|12=>own= .agg #[.int .i64 W,.int .i64 H,.slice b2 l2 d2]|13=>own= .int .i64 (x:Nat)|14=>own= .int .i64 (y:Nat)|15=>own= .int .i64 (q:Nat)|16=>own= .int .i64 top|17=>own= .agg (ic m2.zs)|18=>∃ g:Nat,own= .slice (some ⟨g,0,none⟩) 2 2∧IB wx g 50 (m1.zs++m2.zs)∧Q<g|19=>∃ g:Nat,own= .slice (some ⟨g,0,none⟩) 2 2∧IB wx g 50 (m1.zs++m2.zs)∧Q<g|_=>True) (fun kx wx=>Ext w3 wx) (by kernel_rfl) (by kernel_rfl) (by kernel_rfl) ?g0_r1 ?gop_r1 ?gend_r1
 case g0_r1=>exact Ext.drewN _ 1
 case gop_r1 =>
  refine⟨?o0,?o1,?_,?_,?o4,?o5,?_,?_,?o8,?_,?o10,?o11,?o12,?_,?_,?_,?_,?o17,?o18,?o19,trivial⟩ <;> (intro kx xs wx hk hG hD hI Qo Kx hK hQo;simp only[Ad,Nat.reduceAdd,Nat.reduceEqDiff,↓reduceIte]at hQo⊢)
  case o0 =>
   clear hD hI;obtain⟨-,k0,k1,k2,-⟩:=bx3 (hG.blk Z0);go_wp2;exact hK.out _ _ ⟨rfl,hG,kkp⟩
  case o1 =>
   clear hD hI;obtain⟨-,k0,k1,k2,-⟩:=bx3 (hG.blk Z1);go_wp2;exact hK.out _ _ ⟨rfl,hG,kkp⟩
  case o4 =>
   clear hD hI;obtain⟨-,k0,k1,k2,-⟩:=bx3 (hG.blk Z0);go_wp2;exact hK.out _ _ ⟨rfl,hG,kkp⟩
  case o5 =>
   clear hD hI;obtain⟨-,k0,k1,k2,-⟩:=bx3 (hG.blk Z1);go_wp2;exact hK.out _ _ ⟨rfl,hG,kkp⟩
  case o8 =>
   rw[ddq (hD 4 rfl),ddq (hD 5 rfl),ddq (hD 6 rfl),ddq (hD 7 rfl)]at hQo⊢;clear hD hI;go_wp2_with fail
   refine(LU t r x y a b c d n l _ HTv.out HRv.out HN.out HL.out (s.ext (E3.trans hG)) (u.ext (E3.trans hG)) (by omega) (by omega)).mono ?_;rw[HBV.out]
   rintro e wz ⟨rfl,ez⟩
   go_wp2;exact hK.out _ _ ⟨rfl,hG.trans ez,fun i _ _ _ own ys h=>Hext.out i own ys _ _ ez h⟩
  case o10 =>
   rw[ddq (hD 0 rfl),ddq (hD 1 rfl),ddq (hD 2 rfl),ddq (hD 3 rfl),ddq (hD 8 rfl),ddq (hD 9 rfl)]at hQo⊢;clear hD hI;go_wp2_with fail
   refine(LV t r x y p0 p1 q a b c d n l _ HN.out HL.out (by omega) (by omega) (s.ext (E3.trans hG)) (u.ext (E3.trans hG)) HRv.out HTv.out (by omega) (by omega) hvv hq).mono ?_;rw[Hm1.out]
   rintro e wz ⟨rfl,ez⟩
   go_wp2;exact hK.out _ _ ⟨rfl,hG.trans ez,fun i _ _ _ own ys h=>Hext.out i own ys _ _ ez h⟩
  case o11 =>
   clear hD hI;obtain⟨-,k0,k1,k2,-⟩:=bx3 (hG.blk Z0);go_wp2;exact hK.out _ _ ⟨rfl,hG,kkp⟩
  case o12 =>
   clear hD hI;obtain⟨-,k0,k1,k2,-⟩:=bx3 (hG.blk Z2);go_wp2;exact hK.out _ _ ⟨rfl,hG,kkp⟩
  case o17 =>
   rw[ddq (hD 11 rfl),ddq (hD 12 rfl),ddq (hD 13 rfl),ddq (hD 14 rfl),ddq (hD 15 rfl),ddq (hD 16 rfl)]at hQo⊢;clear hD hI;go_wp2_with fail
   refine(IK t W H x y px q top a b2 c d2 n l2 _ HN.out HL2.out (by omega) (by omega) (s.ext (E3.trans hG)) (v.ext (E3.trans hG)) HTv.out HPv.out hW8.1 hW8.2.1 hW8.2.2.1 hW8.2.2.2 hq ht0).mono ?_;rw[Hm2.out]
   rintro e wz ⟨rfl,ez⟩
   go_wp2;exact hK.out _ _ ⟨rfl,hG.trans ez,fun i _ _ _ own ys h=>Hext.out i own ys _ _ ez h⟩
  case o18 =>
   rw[ddq (hD 10 rfl),ddq (hD 17 rfl)]at hQo⊢;clear hD hI;refine Ns _ _ rfl rfl m1.zs m2.zs rfl rfl hl1.out hl2'.out ?_;exact hQo _ _ (hK.out _ _ ⟨⟨_,rfl,IB.new _ _ _,by have:=hG.size;omega⟩,hG.trans (Ext.alloc _ _),fun i _ _ _ own ys h=>Hext.out i own ys _ _ (Ext.alloc _ _) h⟩)
  case o19 =>
   have d18:∃ g:Nat,(xs 18) = .slice (some ⟨g,0,none⟩) 2 2∧IB wx g 50 (m1.zs++m2.zs)∧Q<g:=hD 18 rfl;clear hD hI;generalize xs 18=y18 at *;obtain⟨g18,rfl,i18,hg18⟩:=d18;go_wp2;exact hK.out _ _ ⟨⟨_,rfl,i18,hg18⟩,hG,fun _ _ _ _ _ _ h=>h⟩
  all_goals
   clear hD hI;go_wp2;exact hK.out _ _ ⟨rfl,hG,kkp⟩
 clear Hext;intro xs wx hV hG;have d19:∃ g:Nat,(xs 19) = .slice (some ⟨g,0,none⟩) 2 2∧IB wx g 50 (m1.zs++m2.zs)∧Q<g:=hV 19 (by decide);clear hV;simp only[Ad,Nat.reduceAdd,Nat.reduceEqDiff,↓reduceIte];generalize xs 0=y0,xs 1=y1,xs 2=y2,xs 3=y3,xs 4=y4,xs 5=y5,xs 6=y6,xs 7=y7,xs 8=y8,xs 9=y9,xs 10=y10,xs 11=y11,xs 12=y12,xs 13=y13,xs 14=y14,xs 15=y15,xs 16=y16,xs 17=y17,xs 18=y18,xs 19=y19 at *
 replace hG:Ext w3 wx:=hG
 obtain⟨G,rfl,iG,hQG⟩:=d19;have L0:CS w B Q G t r W H a b b2 n c l d l2 d2 (m1.zs++m2.zs) (stC t r ⟨W,H,px⟩ x y q top m1 m2 0).zs wx :=
  ⟨E3.trans hG,hG.blk Z0,hG.blk Z1,hG.blk Z2,Z3.ext hG,by rw[show stC t r ⟨W,H,px⟩ x y q top m1 m2 0=mac0 from rfl,Ja];exact r3.ext hG,iG,⟨hwB,hB3,hQG⟩⟩
 clear Z0 Z1 Z2 Z3 r3 E3 hG iG hQ3;generalize wx=w4 at *;go_wp2_with fail
 go_loopw [18,16] (fun k ls wr=>∃(K:Nat) (z:Int),K≤2∧k= .int .i64 z∧z=(K:Int)∧CS w B Q G t r W H a b b2 n c l d l2 d2 (m1.zs++m2.zs) (stC t r ⟨W,H,px⟩ x y q top m1 m2 K).zs wr∧ls= .int .i64 (cst t r ⟨W,H,px⟩ x y q top (stC t r ⟨W,H,px⟩ x y q top m1 m2 K))) (fun k _ _=>(2-intOf k).toNat)
 case atStart=>exact⟨0,0,by omega,rfl,rfl,L0,by rw[HD0.out]⟩
 case round =>
  obtain⟨K,z,hK,rfl,hz,Lk,rfl⟩:=hrel;clear L0;obtain rfl|rfl|rfl:K=0∨K=1∨K=2:=by omega
  ·obtain rfl:z=0:=hz;have hd:decide ((0:Int)<2)=true:=by decide
   obtain⟨C,hC⟩:∃ C,C=cst t r ⟨W,H,px⟩ x y q top (m1):=⟨_,rfl⟩;obtain⟨D,hD⟩:∃ D,D=cst t r ⟨W,H,px⟩ x y q top (stC t r ⟨W,H,px⟩ x y q top m1 m2 0):=⟨_,rfl⟩;have Hst:=Aa (show stC t r ⟨W,H,px⟩ x y q top m1 m2 1=if cst t r ⟨W,H,px⟩ x y q top (m1)<cst t r ⟨W,H,px⟩ x y q top (stC t r ⟨W,H,px⟩ x y q top m1 m2 0)then m1 else stC t r ⟨W,H,px⟩ x y q top m1 m2 0 from rfl);rw[←hC,←hD]at Hst;rw[←hD];have HC:=Aa (show sqS t ⟨W,H,bldS r ⟨W,H,px⟩ x y m1 q top 4⟩ x y 64+stp q*(macN m1:Int)=C from hC.symm);have HCc:=Aa hC;have HD:=Aa hD;clear hC hD;obtain⟨ms,hms⟩:∃ ms,ms=stC t r ⟨W,H,px⟩ x y q top m1 m2 0:=⟨_,rfl⟩;rw[←hms]at Lk;rw[←hms]at Hst;have Hml:=Aa (Mac.zs_len (JY (t:=t) (r:=r) (p:=⟨W,H,px⟩) (x:=x) (y:=y) (q:=q) (top:=top) hm1.out hm2.out 0));rw[←hms]at Hml;have Hms:=Aa hms;clear hms;go_upto_region 7 with fail
   refine An (by kernel_rfl) [(19,12),(53,0),(54,1),(55,2),(56,3),(57,4),(58,5),(59,6),(60,7),(61,8),(62,9),(63,10),(64,11)] [[],[],[],[],[],[],[],[5,6],[5,6,7],[],[],[0,1,2,3,4,5,6,7,8,9,10],[0,1,2,3,4,5,6,7,8,9,10,11]] (fun i own ys wx=>match i with|0=>own= .agg #[.int .i64 t.w,.int .i64 t.h,.slice a n c]|1=>own= .agg #[.int .i64 r.w,.int .i64 r.h,.slice b l d]|2=>own= .agg #[.int .i64 W,.int .i64 H,.slice b2 l2 d2]|3=>own= .int .i64 (x:Nat)|4=>own= .int .i64 (y:Nat)|5=>own= .slice (some ⟨G,0,none⟩) 2 2|6=>own= .int .i64 0|7=>own= .pointer (some ⟨G,0,none⟩)|8=>own= .agg (ic m1.zs)|9=>own= .int .i64 (q:Nat)|10=>own= .int .i64 top|11=>own= .int .i64 C|12=>own= .int .i64 C|_=>True) (fun kx wx=>CS w B Q G t r W H a b b2 n c l d l2 d2 (m1.zs++m2.zs) ms.zs wx) (by kernel_rfl) (by kernel_rfl) (by kernel_rfl) ?g0_r2 ?gop_r2 ?gend_r2
   case g0_r2=>exact Lk.e (Ext.drewN _ 1)
   case gop_r2 =>
    refine⟨?o0,?o1,?o2,?_,?_,?_,?_,?o7,?o8,?_,?_,?o11,?o12,trivial⟩ <;> (intro kx xs wx hk hG hD hI Qo Kx hK hQo;simp only[Ad,Nat.reduceAdd,Nat.reduceEqDiff,↓reduceIte]at hQo⊢)
    case o0 =>
     clear hD hI;obtain⟨-,k0,k1,k2,-⟩:=bx3 hG.f1;go_wp2;exact hK.out _ _ ⟨rfl,hG,kkp⟩
    case o1 =>
     clear hD hI;obtain⟨-,k0,k1,k2,-⟩:=bx3 hG.f2;go_wp2;exact hK.out _ _ ⟨rfl,hG,kkp⟩
    case o2 =>
     clear hD hI;obtain⟨-,k0,k1,k2,-⟩:=bx3 hG.f3;go_wp2;exact hK.out _ _ ⟨rfl,hG,kkp⟩
    case o7 =>
     rw[ddq (hD 5 rfl),ddq (hD 6 rfl)]at hQo⊢;clear hD hI;go_wp2;exact hK.out _ _ ⟨rfl,hG,kkp⟩
    case o8 =>
     rw[ddq (hD 7 rfl)]at hQo⊢;clear hD hI;go_wp2_with (refine Ab 50 _ rfl rfl hG.li 0 71 rfl _ Ro rfl Ah (by rw[HB0.out];omega) _ (by rw[HB1.out]) ?_)
     exact hK.out _ _ ⟨rfl,hG,kkp⟩
    case o11 =>
     rw[ddq (hD 0 rfl),ddq (hD 1 rfl),ddq (hD 2 rfl),ddq (hD 3 rfl),ddq (hD 4 rfl),ddq (hD 8 rfl),ddq (hD 9 rfl),ddq (hD 10 rfl)]at hQo⊢;clear hD hI;go_wp2_with fail
     refine(EX t r W H x y px m1 q top a b b2 c d d2 n l l2 _ HN.out HL.out HL2.out (by omega) (s.ext hG.ex) (u.ext hG.ex) (v.ext hG.ex) hm1.out HTv.out (HO.out _ vm1.out)).mono ?_
     rintro e wz ⟨rfl,ez⟩
     rw[HC.out];go_wp2;exact hK.out _ _ ⟨rfl,hG.e ez,fun _ _ _ _ _ _ h=>h⟩
    case o12 =>
     rw[ddq (hD 11 rfl)]at hQo⊢;clear hD hI;go_wp2;exact hK.out _ _ ⟨rfl,hG,kkp⟩
    all_goals
     clear hD hI;go_wp2;exact hK.out _ _ ⟨rfl,hG,kkp⟩
   intro xs wx hV hG;have d12:_=_:=hV 12 (by decide);clear hV;simp only[Ad,Nat.reduceAdd,Nat.reduceEqDiff,↓reduceIte];generalize xs 0=y0,xs 1=y1,xs 2=y2,xs 3=y3,xs 4=y4,xs 5=y5,xs 6=y6,xs 7=y7,xs 8=y8,xs 9=y9,xs 10=y10,xs 11=y11,xs 12=y12 at *
   replace hG:CS w B Q G t r W H a b b2 n c l d l2 d2 (m1.zs++m2.zs) ms.zs wx:=hG
   subst d12;have L9:=hG;clear Lk hG;generalize wx=w9 at *
   by_cases hlt:C<D
   ·have f1:decide (C<D)=true:=by simpa using hlt
    have Hst2:=Aa (Hst.out.trans (if_pos hlt));have li:=L9.li;have be:=L9.be;have HMl:=Aa (Mac.zs_len hm1.out);clear Hst;go_wp2_with (first|(refine Ab 50 _ rfl rfl li 0 71 rfl _ Ro rfl Ah (by rw[HB0.out];omega) _ (by rw[HB1.out]) ?_)|(refine Af 50 _ _ rfl rfl be 0 71 rfl _ rfl m1.zs rfl Ah HMl.out (by rw[Hml.out];omega) ?_;intro wf rf gf;refine Hid.out ?_))
    rw[Ap (by rw[HMl.out,Hml.out])]at rf;have LN:=L9.set rf gf;refine Aa ?_;go_wp2;go_roundw
    case rel=>exact⟨1,1,by omega,rfl,rfl,by rw[Hst2.out];exact LN,by rw[Hst2.out];exact congrArg (Value.int .i64) HCc.out⟩
    case measure=>simp[intOf]
   ·have f1:decide (C<D)=false:=by simpa using hlt
    have Hst2:=Aa (Hst.out.trans (if_neg hlt));clear Hst;go_wp2;go_roundw
    case rel=>exact⟨1,1,by omega,rfl,rfl,by rw[Hst2.out];exact L9,by rw[Hst2.out,Hms.out,HD.out]⟩
    case measure=>simp[intOf]
  ·obtain rfl:z=1:=hz;have hd:decide ((1:Int)<2)=true:=by decide
   obtain⟨C,hC⟩:∃ C,C=cst t r ⟨W,H,px⟩ x y q top (m2):=⟨_,rfl⟩;obtain⟨D,hD⟩:∃ D,D=cst t r ⟨W,H,px⟩ x y q top (stC t r ⟨W,H,px⟩ x y q top m1 m2 1):=⟨_,rfl⟩;have Hst:=Aa (show stC t r ⟨W,H,px⟩ x y q top m1 m2 2=if cst t r ⟨W,H,px⟩ x y q top (m2)<cst t r ⟨W,H,px⟩ x y q top (stC t r ⟨W,H,px⟩ x y q top m1 m2 1)then m2 else stC t r ⟨W,H,px⟩ x y q top m1 m2 1 from rfl);rw[←hC,←hD]at Hst;rw[←hD];have HC:=Aa (show sqS t ⟨W,H,bldS r ⟨W,H,px⟩ x y m2 q top 4⟩ x y 64+stp q*(macN m2:Int)=C from hC.symm);have HCc:=Aa hC;have HD:=Aa hD;clear hC hD;obtain⟨ms,hms⟩:∃ ms,ms=stC t r ⟨W,H,px⟩ x y q top m1 m2 1:=⟨_,rfl⟩;rw[←hms]at Lk;rw[←hms]at Hst;have Hml:=Aa (Mac.zs_len (JY (t:=t) (r:=r) (p:=⟨W,H,px⟩) (x:=x) (y:=y) (q:=q) (top:=top) hm1.out hm2.out 1));rw[←hms]at Hml;have Hms:=Aa hms;clear hms;go_upto_region 7 with fail
   refine An (by kernel_rfl) [(19,12),(53,0),(54,1),(55,2),(56,3),(57,4),(58,5),(59,6),(60,7),(61,8),(62,9),(63,10),(64,11)] [[],[],[],[],[],[],[],[5,6],[5,6,7],[],[],[0,1,2,3,4,5,6,7,8,9,10],[0,1,2,3,4,5,6,7,8,9,10,11]] (fun i own ys wx=>match i with|0=>own= .agg #[.int .i64 t.w,.int .i64 t.h,.slice a n c]|1=>own= .agg #[.int .i64 r.w,.int .i64 r.h,.slice b l d]|2=>own= .agg #[.int .i64 W,.int .i64 H,.slice b2 l2 d2]|3=>own= .int .i64 (x:Nat)|4=>own= .int .i64 (y:Nat)|5=>own= .slice (some ⟨G,0,none⟩) 2 2|6=>own= .int .i64 1|7=>own= .pointer (some ⟨G,71,none⟩)|8=>own= .agg (ic m2.zs)|9=>own= .int .i64 (q:Nat)|10=>own= .int .i64 top|11=>own= .int .i64 C|12=>own= .int .i64 C|_=>True) (fun kx wx=>CS w B Q G t r W H a b b2 n c l d l2 d2 (m1.zs++m2.zs) ms.zs wx) (by kernel_rfl) (by kernel_rfl) (by kernel_rfl) ?g0_r3 ?gop_r3 ?gend_r3
   case g0_r3=>exact Lk.e (Ext.drewN _ 1)
   case gop_r3 =>
    refine⟨?o0,?o1,?o2,?_,?_,?_,?_,?o7,?o8,?_,?_,?o11,?o12,trivial⟩ <;> (intro kx xs wx hk hG hD hI Qo Kx hK hQo;simp only[Ad,Nat.reduceAdd,Nat.reduceEqDiff,↓reduceIte]at hQo⊢)
    case o0 =>
     clear hD hI;obtain⟨-,k0,k1,k2,-⟩:=bx3 hG.f1;go_wp2;exact hK.out _ _ ⟨rfl,hG,kkp⟩
    case o1 =>
     clear hD hI;obtain⟨-,k0,k1,k2,-⟩:=bx3 hG.f2;go_wp2;exact hK.out _ _ ⟨rfl,hG,kkp⟩
    case o2 =>
     clear hD hI;obtain⟨-,k0,k1,k2,-⟩:=bx3 hG.f3;go_wp2;exact hK.out _ _ ⟨rfl,hG,kkp⟩
    case o7 =>
     rw[ddq (hD 5 rfl),ddq (hD 6 rfl)]at hQo⊢;clear hD hI;go_wp2;exact hK.out _ _ ⟨rfl,hG,kkp⟩
    case o8 =>
     rw[ddq (hD 7 rfl)]at hQo⊢;clear hD hI;go_wp2_with (refine Ab 50 _ rfl rfl hG.li 71 71 rfl _ Ro rfl Ah (by rw[HB0.out];omega) _ (by rw[HB2.out]) ?_)
     exact hK.out _ _ ⟨rfl,hG,kkp⟩
    case o11 =>
     rw[ddq (hD 0 rfl),ddq (hD 1 rfl),ddq (hD 2 rfl),ddq (hD 3 rfl),ddq (hD 4 rfl),ddq (hD 8 rfl),ddq (hD 9 rfl),ddq (hD 10 rfl)]at hQo⊢;clear hD hI;go_wp2_with fail
     refine(EX t r W H x y px m2 q top a b b2 c d d2 n l l2 _ HN.out HL.out HL2.out (by omega) (s.ext hG.ex) (u.ext hG.ex) (v.ext hG.ex) hm2.out HTv.out (HO.out _ vm2.out)).mono ?_
     rintro e wz ⟨rfl,ez⟩
     rw[HC.out];go_wp2;exact hK.out _ _ ⟨rfl,hG.e ez,fun _ _ _ _ _ _ h=>h⟩
    case o12 =>
     rw[ddq (hD 11 rfl)]at hQo⊢;clear hD hI;go_wp2;exact hK.out _ _ ⟨rfl,hG,kkp⟩
    all_goals
     clear hD hI;go_wp2;exact hK.out _ _ ⟨rfl,hG,kkp⟩
   intro xs wx hV hG;have d12:_=_:=hV 12 (by decide);clear hV;simp only[Ad,Nat.reduceAdd,Nat.reduceEqDiff,↓reduceIte];generalize xs 0=y0,xs 1=y1,xs 2=y2,xs 3=y3,xs 4=y4,xs 5=y5,xs 6=y6,xs 7=y7,xs 8=y8,xs 9=y9,xs 10=y10,xs 11=y11,xs 12=y12 at *
   replace hG:CS w B Q G t r W H a b b2 n c l d l2 d2 (m1.zs++m2.zs) ms.zs wx:=hG
   subst d12;have L9:=hG;clear Lk hG;generalize wx=w9 at *
   by_cases hlt:C<D
   ·have f1:decide (C<D)=true:=by simpa using hlt
    have Hst2:=Aa (Hst.out.trans (if_pos hlt));have li:=L9.li;have be:=L9.be;have HMl:=Aa (Mac.zs_len hm2.out);clear Hst;go_wp2_with (first|(refine Ab 50 _ rfl rfl li 71 71 rfl _ Ro rfl Ah (by rw[HB0.out];omega) _ (by rw[HB2.out]) ?_)|(refine Af 50 _ _ rfl rfl be 0 71 rfl _ rfl m2.zs rfl Ah HMl.out (by rw[Hml.out];omega) ?_;intro wf rf gf;refine Hid.out ?_))
    rw[Ap (by rw[HMl.out,Hml.out])]at rf;have LN:=L9.set rf gf;refine Aa ?_;go_wp2;go_roundw
    case rel=>exact⟨2,2,by omega,rfl,rfl,by rw[Hst2.out];exact LN,by rw[Hst2.out];exact congrArg (Value.int .i64) HCc.out⟩
    case measure=>simp[intOf]
   ·have f1:decide (C<D)=false:=by simpa using hlt
    have Hst2:=Aa (Hst.out.trans (if_neg hlt));clear Hst;go_wp2;go_roundw
    case rel=>exact⟨2,2,by omega,rfl,rfl,by rw[Hst2.out];exact L9,by rw[Hst2.out,Hms.out,HD.out]⟩
    case measure=>simp[intOf]
  ·obtain rfl:z=2:=hz;have hd:decide ((2:Int)<2)=false:=by decide
   rw[HR.out]at Lk;obtain⟨D,hD⟩:∃ D,D=cst t r ⟨W,H,px⟩ x y q top (stC t r ⟨W,H,px⟩ x y q top m1 m2 2):=⟨_,rfl⟩;rw[←hD];clear hD;obtain⟨R,hR⟩:∃ R,R=(chM t r ⟨W,H,px⟩ x y q top).zs:=⟨_,rfl⟩;have Hrl:=Aa (show R.length=71 by rw[hR];exact Mac.zs_len (KQ _ _ _ _ _ _ _));rw[←hR]at Lk;have HRR:=Aa hR;clear hR;have be:=Lk.be;have rs:=Lk.rs;have hex:=Lk.ex;have hod:=Lk.od;clear Lk;go_wp2_with (first|(refine Ab 50 _ rfl rfl be 0 71 rfl _ Ro rfl Ah (by rw[Hrl.out];omega) _ (by rw[Ak _ _ Hrl.out]) ?_)|(refine Af 50 _ _ rfl rfl rs 0 71 rfl _ rfl R rfl Ah Hrl.out (by rw[AB];omega) ?_;intro w6 p6 g6;refine Hid.out ?_))
   rw[Ap (by rw[Hrl.out,AB])]at p6;have E6:Ext w w6:=Ext.grown hex g6 (fun q hq=>by cases hq;omega);refine Aa ?_;go_wp2;exact bodyPost_ret (v := .agg (ic R)) (results_cell_row rfl _ _ (B+1+1+1) 50 (ic R) (0,0) _ rfl p6 Ro rfl (by rw[AJ,Hrl.out];exact Ah)) rfl ⟨by rw[HRR.out],E6⟩
attribute [local go_sem] Oper.semAt_some
theorem Kf (t r:Pic)(x y:Nat)(vx vy:Int)(a b:Option Addr)(c d n l:Nat)(w:World)(htv:t.valid)(hrv:r.valid)(hn:n=t.px.length)(hl:l=r.px.length)(s:Sl w a n (t.px.map (Value.int .i64)))(u:Sl w b l (r.px.map (Value.int .i64)))(hx:x≤100)(hy:y≤100)(v1 : -16≤vx)(v2:vx≤16)(v3 : -16≤vy)(v4:vy≤16):
 Calls Tryz.prog 100 #[.agg #[.int .i64 t.w,.int .i64 t.h,.slice a n c],.agg #[.int .i64 r.w,.int .i64 r.h,.slice b l d],.int .i64 (x:Nat),.int .i64 (y:Nat),.agg #[.int .i64 vx,.int .i64 vy]] w fun e w'=>e= .returned (.int .i64 (cV t r x y vx vy))∧Ext w w':=by
 have HN:=Aa hn;have HL:=Aa hl;have HS:=Aa (fun k (hk:k≤64)=>JS (Bz htv (x:Int) (y:Int) 0 0) (Bz hrv (x:Int) (y:Int) vx vy) (AQ _ _ _ _ _) (AQ _ _ _ _ _) hk);have HX:=Aa (fun k (hk:k<64)=>AD (Bz htv (x:Int) (y:Int) 0 0) (i:=k) (by rw[AQ];exact hk));have HY:=Aa (fun k (hk:k<64)=>AD (Bz hrv (x:Int) (y:Int) vx vy) (i:=k) (by rw[AQ];exact hk));have HP:=Aa (fun k (hk:k<64)=>JK t (x:Int) (y:Int) hk);clear hn hl;have Y0:=(Ext.alloc ((w.alloc (.cells #[.int .i64 t.w,.int .i64 t.h,.slice a n c] 30)).alloc (.cells #[.int .i64 r.w,.int .i64 r.h,.slice b l d] 30)) (.cells #[.int .i64 vx,.int .i64 vy] 45)).blk ((Ext.alloc (w.alloc (.cells #[.int .i64 t.w,.int .i64 t.h,.slice a n c] 30)) (.cells #[.int .i64 r.w,.int .i64 r.h,.slice b l d] 30)).blk (Aj w (.cells #[.int .i64 t.w,.int .i64 t.h,.slice a n c] 30)));have Y1:=(Ext.alloc ((w.alloc (.cells #[.int .i64 t.w,.int .i64 t.h,.slice a n c] 30)).alloc (.cells #[.int .i64 r.w,.int .i64 r.h,.slice b l d] 30)) (.cells #[.int .i64 vx,.int .i64 vy] 45)).blk (Aj (w.alloc (.cells #[.int .i64 t.w,.int .i64 t.h,.slice a n c] 30)) (.cells #[.int .i64 r.w,.int .i64 r.h,.slice b l d] 30));have Y2:=Aj ((w.alloc (.cells #[.int .i64 t.w,.int .i64 t.h,.slice a n c] 30)).alloc (.cells #[.int .i64 r.w,.int .i64 r.h,.slice b l d] 30)) (.cells #[.int .i64 vx,.int .i64 vy] 45);have F1:=((Ext.alloc w (.cells #[.int .i64 t.w,.int .i64 t.h,.slice a n c] 30)).trans (Ext.alloc _ (.cells #[.int .i64 r.w,.int .i64 r.h,.slice b l d] 30))).trans (Ext.alloc _ (.cells #[.int .i64 vx,.int .i64 vy] 45));simp only[World.size_alloc]at Y1 Y2;obtain⟨B,hB⟩:∃ B,B=w.heap.size:=⟨_,rfl⟩;rw[←hB]at Y0 Y1 Y2;go_enter Tryz.func100,Tryz.ntmps100
 go_upto_region 1 with fail
 try simp only[World.size_alloc]
 rw[←hB];clear hB;generalize (((w.alloc (.cells #[.int .i64 t.w,.int .i64 t.h,.slice a n c] 30)).alloc (.cells #[.int .i64 r.w,.int .i64 r.h,.slice b l d] 30)).alloc (.cells #[.int .i64 vx,.int .i64 vy] 45))=w1 at *;obtain⟨-,k1,k2,k3,-⟩:=bx3 Y1;obtain⟨-,k4,k5,-⟩:=bx2 Y2;go_wp2_with fail
 refine(Gl r x y vx vy b d l _ hrv HL.out (u.ext F1) (by omega) (by omega) (by omega) (by omega) v1 v2 v3 v4).mono ?_
 rintro e w4 ⟨a4,c4,rfl,o4,e4⟩
 obtain⟨g4,rfl⟩:=Bq o4 (by omega);have S4:=Sl.of_owns o4;have G0:=e4.blk Y0;have F2:=F1.trans e4;clear Y0 Y1 Y2 F1 e4 o4 k1 k2 k3 k4 k5;go_wp2_with fail
 go_loopw [11,20] (fun v i wr=>∃ k:Nat,k≤64∧i= .int .i64 k∧v= .int .i64 (sadS (blkL t x y 0 0) (blkL r x y vx vy) k)∧Ext w4 wr) (fun _ i _=>64-(intOf i).toNat)
 case atStart=>exact⟨0,by omega,rfl,by simp[sadS],Below.refl _ _⟩
 case round =>
  obtain⟨k,hk,rfl,rfl,Ek⟩:=hrel;have hsr:=HS.out k hk
  by_cases hlt:k<64
  ·have hd:decide ((k:Int)<64)=true:=by simp;omega
   have hp1:=HX.out k hlt;have hp2:=HY.out k hlt;have hp3:=HP.out k hlt;have Hnx:=Aa (show sadS (blkL t x y 0 0) (blkL r x y vx vy) (k+1)=_ by rw[sadS]);obtain⟨p,hp⟩:∃ p,p=nth (blkL t x y 0 0) k:=⟨_,rfl⟩;obtain⟨q,hq⟩:∃ q,q=nth (blkL r x y vx vy) k:=⟨_,rfl⟩;rw[←hp]at hp1 hp3;rw[←hq]at hp2;rw[←hp,←hq]at Hnx;obtain⟨S,hS⟩:∃ S,S=sadS (blkL t x y 0 0) (blkL r x y vx vy) k:=⟨_,rfl⟩;rw[←hS]at hsr Hnx;rw[←hS];have cx:=Lw (S4.ext Ek) hlt hq.symm;obtain⟨P,hP0⟩:∃ P,P=max (p-q) (q-p):=⟨_,rfl⟩;rw[←hP0]at Hnx;have HPQ:=Aa (show(if p-q<0 then -(p-q)else p-q)=P by rw[hP0];split <;> omega);have hPr:0≤P∧P≤255:=by omega
   obtain⟨ii,hi⟩:∃ ii,ii=k%8:=⟨_,rfl⟩;obtain⟨jj,hj⟩:∃ jj,jj=k/8:=⟨_,rfl⟩;rw[←hi,←hj]at hp3;have HPP:=Aa hp3;have Hi:=Aa (show(k:Int)%8=(ii:Int) by omega);have Hj:=Aa (show(k:Int)/8=(jj:Int) by omega);have hib:ii<8:=by omega
   have hjb:jj<8:=by omega
   clear hp hq hS hP0 hi hj hp3;have X0:=Aa (Ek.blk G0);go_upto_region 5 with fail
   clear cx;refine CQ [(11,15),(25,0),(26,1),(27,2),(28,3),(29,4),(30,5),(31,6),(32,7),(33,8),(34,9),(35,10),(36,11),(37,12),(38,13),(39,14)] [[],[0],[0,1],[0,1,2],[0,1,2,3],[0,1,2,3,4],[0,1,2,3,4,5],[0,1,2,3,4,5,6],[0,1,2,3,4,5,6,7],[0,1,2,3,4,5,6,7,8],[0,1,2,3,4,5,6,7,8,9],[0,1,2,3,4,5,6,7,8,9,10],[0,1,2,3,4,5,6,7,8,9,10,11],[0,1,2,3,4,5,6,7,8,9,10,11,12],[0,1,2,3,4,5,6,7,8,9,10,11,12,13],[0,1,2,3,4,5,6,7,8,9,10,11,12,13,14]] (fun i own ys wx=>match i with|0=>own= .int .i64 S|1=>own= .agg #[.int .i64 t.w,.int .i64 t.h,.slice a n c]|2=>own= .int .i64 (x:Nat)|3=>own= .int .i64 (k:Nat)|4=>own= .int .i64 ((k:Int)%8)|5=>own= .int .i64 ((x:Int)+(ii:Nat))|6=>own= .int .i64 (y:Nat)|7=>own= .int .i64 (k:Nat)|8=>own= .int .i64 ((k:Int)/8)|9=>own= .int .i64 ((y:Int)+(jj:Nat))|10=>own= .int .i64 p|11=>own= .int .i64 q|12=>own= .int .i64 (p-q)|13=>own= .int .i64 P|14=>own= .int .i64 (S+P)|15=>own= .int .i64 (S+P)|_=>True) (fun kx wx=>Ext wr wx) (by kernel_rfl) (by kernel_rfl) ?g0_r1 ?gop_r1 ?gend_r1
   case g0_r1=>exact Below.refl _ _
   case gop_r1 =>
    refine⟨?o0,?o1,?_,?_,?o4,?o5,?_,?_,?o8,?o9,?o10,?_,?o12,?o13,?o14,?o15,trivial⟩ <;> (intro kx xs wx hk hG hD hI Qo Kx hK hQo;simp only[Ad,Nat.reduceAdd,Nat.reduceEqDiff,↓reduceIte]at hQo⊢)
    case o0 =>
     have i15:=hI 15 11 rfl rfl;simp only[List.getD_cons_succ,List.getD_cons_zero]at i15;clear hD hI;rw[i15]at hQo⊢;clear i15;go_wp2;exact hK.out _ _ ⟨rfl,hG,kkp⟩
    case o1 =>
     clear hD hI;obtain⟨-,k0,k1,k2,-⟩:=bx3 (hG.blk X0.out);go_wp2;exact hK.out _ _ ⟨rfl,hG,kkp⟩
    case o4 =>
     rw[ddq (hD 3 rfl)]at hQo⊢;clear hD hI;go_wp2;exact hK.out _ _ ⟨rfl,hG,kkp⟩
    case o5 =>
     rw[ddq (hD 2 rfl),ddq (hD 4 rfl)]at hQo⊢;clear hD hI;go_wp2;exact hK.out _ _ ⟨by rw[←Hi.out],hG,fun _ _ _ _ _ _ h=>h⟩
    case o8 =>
     rw[ddq (hD 7 rfl)]at hQo⊢;clear hD hI;go_wp2;exact hK.out _ _ ⟨rfl,hG,kkp⟩
    case o9 =>
     rw[ddq (hD 6 rfl),ddq (hD 8 rfl)]at hQo⊢;clear hD hI;go_wp2;exact hK.out _ _ ⟨by rw[←Hj.out],hG,fun _ _ _ _ _ _ h=>h⟩
    case o10 =>
     rw[ddq (hD 1 rfl),ddq (hD 5 rfl),ddq (hD 9 rfl)]at hQo⊢;clear hD hI;go_wp2_with fail
     refine(BS t ((x:Int)+(ii:Nat)) ((y:Int)+(jj:Nat)) a c n _ htv HN.out (s.ext (F2.trans (Ek.trans hG)))).mono ?_
     rintro e wz ⟨rfl,ez⟩
     rw[←HPP.out];go_wp2;exact hK.out _ _ ⟨rfl,hG.trans ez,fun _ _ _ _ _ _ h=>h⟩
    case o12 =>
     rw[ddq (hD 10 rfl),ddq (hD 11 rfl)]at hQo⊢;clear hD hI;go_wp2;exact hK.out _ _ ⟨rfl,hG,kkp⟩
    case o13 =>
     rw[ddq (hD 12 rfl)]at hQo⊢;clear hD hI;go_wp2_with fail
     refine(Di (p-q) _ (by omega) (by omega)).mono ?_
     rintro e wz ⟨rfl,rfl⟩
     rw[HPQ.out];go_wp2;exact hK.out _ _ ⟨rfl,hG,kkp⟩
    case o14 =>
     rw[ddq (hD 0 rfl),ddq (hD 13 rfl)]at hQo⊢;clear hD hI;go_wp2;exact hK.out _ _ ⟨rfl,hG,kkp⟩
    case o15 =>
     rw[ddq (hD 14 rfl)]at hQo⊢;clear hD hI;go_wp2;exact hK.out _ _ ⟨rfl,hG,kkp⟩
    all_goals
     clear hD hI;go_wp2;exact hK.out _ _ ⟨rfl,hG,kkp⟩
   intro xs wx hV hG;have d15:_=_:=hV 15 (by decide);clear hV;simp only[Ad,Nat.reduceAdd,Nat.reduceEqDiff,↓reduceIte];generalize xs 0=y0,xs 1=y1,xs 2=y2,xs 3=y3,xs 4=y4,xs 5=y5,xs 6=y6,xs 7=y7,xs 8=y8,xs 9=y9,xs 10=y10,xs 11=y11,xs 12=y12,xs 13=y13,xs 14=y14,xs 15=y15 at *
   replace hG:Ext wr wx:=hG
   subst d15;go_wp2;go_roundw
   case rel=>exact⟨k+1,by omega,by go_num,by rw[Hnx.out],Ek.trans hG⟩
   case measure=>simp[intOf];omega
  ·obtain rfl:k=64:=by omega
   have Hc:=Aa (show cV t r x y vx vy=_ from rfl);unfold cV at Hc;obtain⟨S,hS⟩:∃ S,S=sadS (blkL t x y 0 0) (blkL r x y vx vy) 64:=⟨_,rfl⟩;rw[←hS]at hsr⊢;have HS2:=Aa hS;clear hS;go_wp2;go_ret
   exact⟨BY (by rw[HS2.out];rfl),F2.trans Ek⟩
abbrev Vc := { v : Int × Int // boxV v.1 v.2 }
def encV (x:Vc):Array Value := #[.agg #[.int .i64 x.1.1,.int .i64 x.1.2]]
theorem Mh (s j:Nat):(rowV s j).length≤2*j:=by
 induction j with
 | zero=>simp[rowV]
 | succ j ih =>
  have:(oneV s (-(min (s:Int) 4)+j)).length≤2:=by unfold oneV;split <;> (try split) <;> simp
  simp only[rowV,List.length_append];omega
theorem PV (s:Nat):(vecS s).length≤18*s:=by
 induction s with
 | zero=>simp[vecS]
 | succ s ih =>
  have:=Mh s (2*min s 4+1);simp only[vecS,List.length_append];omega
end Go.Proofs.YtijnbalgnhigbaaGreatDoor
namespace Go.Proofs.YtijnbalgnhigbaaGreatDoor
open Go.RowKit
attribute [local go_sem] Oper.semAt_some
theorem Px (s:Nat){j k:Nat}(h:j≤k):rowV s j <+: rowV s k:=by
 induction h with
 | refl=>exact List.prefix_refl _
 | step _ ih=>exact ih.trans (List.prefix_append _ _)
theorem PW {s k:Nat}(h:s≤k):vecS s <+: vecS k:=by
 induction h with
 | refl=>exact List.prefix_refl _
 | step _ ih=>exact ih.trans (List.prefix_append _ _)
theorem Qx {s j:Nat}(hs:s<9)(hj:j<2*min s 4+1){p:List (Int×Int)}(hp:p <+: oneV s (-(min (s:Int) 4)+j)):vecS s++rowV s j++p <+: vecL:=by
 have h1:rowV s j++p <+: rowV s (2*min s 4+1):=((List.prefix_append_right_inj _).2 hp).trans (Px s (show j+1≤_ by omega));have h2:vecS s++rowV s j++p <+: vecS (s+1):=by
  rw[List.append_assoc];exact(List.prefix_append_right_inj _).2 h1
 exact h2.trans (PW (show s+1≤9 by omega))
theorem Em {b:Bool}(h:some undef=some (Value.bool b)):False:=by cases h
theorem Ip (w:World):
 Calls Tryz.prog 99 #[.int .i64 4] w fun e w'=>e= .returned (.func (.func 137) #[] #[.pointer (some ⟨w.heap.size,0,none⟩)])∧w'=w.alloc (.cells #[.int .i64 4] 3):=by
 go_enter Tryz.func99,Tryz.ntmps99
 go_wp2;go_ret
 exact⟨rfl,rfl⟩
theorem Kk (n:Nat)(hn:1≤n)(Bs:Nat)(w:World)(hI:w.heap[Bs]?=some (.cells #[.int .i64 4] 3 (0,0))):
 SeqStopsK Fence.wide n Tryz.prog 137 #[.pointer (some ⟨Bs,0,none⟩)] encV (keepB Bs) (fun xs=>xs.map (·.1)=vecL) (fun xs=>xs.map (·.1) <+: vecL) 1000 w:=by
 intro l J Jx V hW hJ hJx hY h0;have hB0:=Ext.blk hW hI;refine callsIn_wide.2 ?_;have HY:=Aa hY;clear hY hI hJx hW hJ;obtain⟨-,c0,-⟩:=bx1 hB0;go_enter Tryz.func137,Tryz.ntmps137
 go_wp2_with fail
 go_loopw [9] (fun y wr=>∃(s:Nat) (pre:List Vc),s≤9∧y= .int .i64 s∧Hid (pre.map (·.1)=vecS s)∧J pre wr∧wr.heap[Bs]?=some (.cells #[.int .i64 4] 3 (0,0))) (fun y _=>9-(intOf y).toNat)
 case atStart=>exact⟨0,[],by omega,rfl,Aa rfl,h0,hB0⟩
 case round =>
  obtain⟨s,pre,hs,rfl,HP,Ju,Bu⟩:=hrel;clear h0 hB0 c0;obtain⟨-,c0,-⟩:=bx1 Bu
  by_cases hlt:s<9
  ·have hd:decide ((s:Int)<9)=true:=by simp;omega
   have hmm:min (s:Int) 4=((min s 4:Nat):Int):=by omega
   obtain⟨m,hm⟩:∃ m,m=min s 4:=⟨_,rfl⟩;rw[←hm]at hmm;have hms:m≤s∧m≤4:=by omega
   have Hmm:=Aa hmm;have Hm:=Aa hm;clear hm hmm;go_upto_region 3 with fail
   refine CQ [(4,4),(12,0),(13,1),(14,2),(15,3)] [[],[0],[0,1],[0,1,2],[0,1,2,3]] (fun i own ys wx=>match i with|0=>own= .int .i64 (s:Nat)|1=>own= .int .i64 4|2=>own= .int .i64 (m:Nat)|3=>own= .int .i64 (-(m:Int))|4=>own= .int .i64 (-(m:Int))|_=>True) (fun kx wx=>Hid (wx=wr)) (by kernel_rfl) (by kernel_rfl) ?g0_r1 ?gop_r1 ?gend_r1
   case g0_r1=>exact Aa rfl
   case gop_r1 =>
    refine⟨?o0,?o1,?o2,?o3,?o4,trivial⟩ <;> (intro kx xs wx hk hG hD hI Qo Kx hK hQo;simp only[Ad,Nat.reduceAdd,Nat.reduceEqDiff,↓reduceIte]at hQo⊢)
    case o0 =>
     clear hD hI;go_wp2;exact hK.out _ _ ⟨rfl,hG,kkp⟩
    case o1 =>
     clear hD hI;have cx:wx.cell? ⟨Bs,0,none⟩=some (.int .i64 4):=by rw[hG.out];exact c0
     go_wp2;exact hK.out _ _ ⟨rfl,hG,kkp⟩
    case o2 =>
     rw[ddq (hD 0 rfl),ddq (hD 1 rfl)]at hQo⊢;clear hD hI;go_wp2;all_goals exact hK.out _ _ ⟨by have:=Hmm.out;congr 1 <;> omega,hG,fun _ _ _ _ _ _ h=>h⟩
    case o3 =>
     rw[ddq (hD 2 rfl)]at hQo⊢;clear hD hI;go_wp2;exact hK.out _ _ ⟨rfl,hG,kkp⟩
    case o4 =>
     rw[ddq (hD 3 rfl)]at hQo⊢;clear hD hI;go_wp2;exact hK.out _ _ ⟨rfl,hG,kkp⟩
   intro xs wx hV hG;have d4:_=_:=hV 4 (by decide);clear hV;simp only[Ad,Nat.reduceAdd,Nat.reduceEqDiff,↓reduceIte];generalize xs 0=y0,xs 1=y1,xs 2=y2,xs 3=y3,xs 4=y4 at *
   replace hG:Hid (wx=wr):=hG
   subst d4;obtain rfl:wr=wx:=hG.out.symm;go_wp2_with fail
   go_loopw [4] (fun y wr2=>∃(j:Nat) (pre:List Vc),j≤2*m+1∧y= .int .i64 ((j:Int)-(m:Nat))∧Hid (pre.map (·.1)=vecS s++rowV s j)∧J pre wr2∧wr2.heap[Bs]?=some (.cells #[.int .i64 4] 3 (0,0))) (fun y _=>(2*m+1:Nat)-(intOf y+(m:Nat)).toNat)
   case atStart=>exact⟨0,pre,by omega,by congr 1;omega,Aa (by rw[HP.out];simp[rowV]),Ju,Bu⟩
   case round =>
    obtain⟨j,pre2,hj,rfl,HP2,Jj,Bj⟩:=hrel;clear HP Ju Bu c0 pre;obtain⟨-,c0,-⟩:=bx1 Bj;obtain⟨u,hu⟩:∃ u:Int,u=(j:Int)-(m:Nat):=⟨_,rfl⟩;rw[←hu]
    by_cases hlj:j<2*m+1
    ·have hur : -(m:Int)≤u∧u≤(m:Int):=by omega
     have hle:decide (u≤(m:Int))=true:=by simp;omega
     have Hu:=Aa hu;have hlen:=congrArg List.length HP2.out;rw[List.length_map,List.length_append]at hlen;have hlb:pre2.length+1<1000:=by
      have h8:=PV s;have h9:=Mh s j;omega
     have hsuc:rowV s (j+1)=rowV s j++oneV s u:=by
      rw[rowV]
      congr 2
      have:=Hmm.out;omega
     have hpre:∀ p:List (Int×Int),p <+: oneV s u→vecS s++rowV s j++p <+: vecL:=fun p hp=>Qx hlt (by have:=Hm.out;omega) (by
      rw[show -(min (s:Int) 4)+(j:Int)=u by have:=Hmm.out;omega];exact hp)
     obtain⟨X,hX⟩:∃ X:Int,X=(s:Int)-max u (-u):=⟨_,rfl⟩;have hone:oneV s u=if X>4 then []else if X>0 then [(-X,u),(X,u)]else [(-X,u)]:=by rw[hX];rfl
     have hX0:0≤X:=by omega
     have hX9:X≤9:=by omega
     have HA:=Aa (show(if u<0 then -u else u)=(s:Int)-X by rw[hX];split <;> omega);have HXs:=Aa (show(s:Int)-((s:Int)-X)=X by omega);have Hsuc:=Aa hsuc;have Hone:=Aa hone;have Hpre:=Aa hpre;clear hu hlen hsuc hone hpre hX;go_upto_region 4 with fail
     refine CQ [(16,0),(17,1),(18,2),(19,3),(20,4)] [[],[0],[0,1],[0,1,2],[0,1,2,3]] (fun i own ys wx=>match i with|0=>own= .int .i64 u|1=>own= .int .i64 (s:Nat)|2=>own= .int .i64 4|3=>own= .int .i64 (m:Nat)|4=>own= .bool true|_=>True) (fun kx wx=>Hid (wx=wr)) (by kernel_rfl) (by kernel_rfl) ?g0_r2 ?gop_r2 ?gend_r2
     case g0_r2=>exact Aa rfl
     case gop_r2 =>
      refine⟨?_,?_,?o2,?o3,?o4,trivial⟩ <;> (intro kx xs wx hk hG hD hI Qo Kx hK hQo;simp only[Ad,Nat.reduceAdd,Nat.reduceEqDiff,↓reduceIte]at hQo⊢)
      case o2 =>
       clear hD hI;have cx:wx.cell? ⟨Bs,0,none⟩=some (.int .i64 4):=by rw[hG.out];exact c0
       go_wp2;exact hK.out _ _ ⟨rfl,hG,kkp⟩
      case o3 =>
       rw[ddq (hD 1 rfl),ddq (hD 2 rfl)]at hQo⊢;clear hD hI;go_wp2;all_goals exact hK.out _ _ ⟨by have:=Hmm.out;congr 1 <;> omega,hG,fun _ _ _ _ _ _ h=>h⟩
      case o4 =>
       rw[ddq (hD 0 rfl),ddq (hD 3 rfl)]at hQo⊢;clear hD hI;go_wp2;exact hK.out _ _ ⟨rfl,hG,kkp⟩
      all_goals
       clear hD hI;go_wp2;exact hK.out _ _ ⟨rfl,hG,kkp⟩
     intro xs wx hV hG;have d4:_=_:=hV 4 (by decide);clear hV;simp only[Ad,Nat.reduceAdd,Nat.reduceEqDiff,↓reduceIte];generalize xs 0=y0,xs 1=y1,xs 2=y2,xs 3=y3,xs 4=y4 at *
     replace hG:Hid (wx=wr):=hG
     subst d4;obtain rfl:wr=wx:=hG.out.symm;go_wp2_with fail
     refine(Di u _ (by omega) (by omega)).mono ?_
     rintro e wz ⟨rfl,rfl⟩
     rw[HA.out];go_upto_region 7 with fail
     rw[HXs.out]
     by_cases hx4:4<X
     ·have hd4:decide (4<X)=true:=by simpa using hx4
      have hone:=Hone.out;rw[if_pos hx4]at hone;have HP3:=Aa (show pre2.map (·.1)=vecS s++rowV s (j+1) by rw[HP2.out,Hsuc.out,hone,List.append_nil]);clear hone;go_wp2;go_roundw
      case rel=>exact⟨j+1,pre2,by omega,by have:=Hu.out;congr 1;omega,HP3,Jj,Bj⟩
      case measure=>have:=Hu.out;simp[intOf];omega
     ·have hd4:decide (4<X)=false:=by simpa using hx4
      have hone0:=Hone.out;rw[if_neg hx4]at hone0;obtain⟨fn,tmps,assign,body,hy,hR⟩:=HY.out pre2 ⟨(-X,u),by unfold boxV;simp only;omega⟩ wr Jj (by omega);dsimp only[encV]at hy
      by_cases hx0:0<X
      ·have hd0:decide (0<X)=true:=by simpa using hx0
       have hone:=hone0;rw[if_pos hx0]at hone;have Hon:=Aa hone;clear hone hone0;go_upto_region 8 with fail
       refine(wpIn_wide (n:=n)).1 ?_
       gi_wp2
       refine hR.mono ?_
       rintro e W3 (⟨rfl,hJ3,hk3⟩|⟨rfl,hJx3⟩)
       ·have B3:W3.heap[Bs]?=some (.cells #[.int .i64 4] 3 (0,0)):=hk3.trans Bj;obtain⟨fn2,tmps2,assign2,body2,hy2,hR2⟩:=HY.out (pre2 ++ [(⟨(-X,u),by unfold boxV;simp only;omega⟩:Vc)]) ⟨(X,u),by unfold boxV;simp only;omega⟩ W3 hJ3 (by simp;omega);dsimp only[encV]at hy2;clear hy hR
        gi_wp2
        refine hR2.mono ?_
        rintro e W4 (⟨rfl,hJ4,hk4⟩|⟨rfl,hJx4⟩)
        ·have B4:W4.heap[Bs]?=some (.cells #[.int .i64 4] 3 (0,0)):=hk4.trans B3;have HP3:=Aa (show((pre2 ++ [(⟨(-X,u),by unfold boxV;simp only;omega⟩:Vc)]) ++ [(⟨(X,u),by unfold boxV;simp only;omega⟩:Vc)]).map (·.1)=vecS s++rowV s (j+1) by rw[List.map_append,List.map_append,HP2.out,Hsuc.out,Hon.out];simp)
         gi_wp2
         go_wp2;go_roundw
         case rel=>exact⟨j+1,_,by omega,by have:=Hu.out;congr 1;omega,HP3,hJ4,B4⟩
         case measure=>have:=Hu.out;simp[intOf];omega
        ·have hst:=Hpre.out [(-X,u),(X,u)] (by rw[Hon.out];exact List.prefix_refl _);have Hst:=Aa (show((pre2 ++ [(⟨(-X,u),by unfold boxV;simp only;omega⟩:Vc)]) ++ [(⟨(X,u),by unfold boxV;simp only;omega⟩:Vc)]).map (·.1) <+: vecL by rw[List.map_append,List.map_append,HP2.out];simpa using hst);clear hst
         gi_wp2
         go_wp2;refine bodyPost_ret (results_none rfl _ _ _) rfl ?_;exact⟨⟨_,rfl⟩,.inr ⟨_,Hst.out,hJx4⟩⟩
       ·have hst:=Hpre.out [(-X,u)] (by rw[Hon.out];exact List.prefix_append [(-X,u)] [(X,u)]);have Hst:=Aa (show(pre2 ++ [(⟨(-X,u),by unfold boxV;simp only;omega⟩:Vc)]).map (·.1) <+: vecL by rw[List.map_append,HP2.out];exact hst);clear hst
        gi_wp2
        all_goals (try exact(Em (by assumption)).elim)
        refine⟨fun _ h=>(by cases h),?_⟩
        gi_wp2
        all_goals (try exact(Em (by assumption)).elim)
        go_wp2;refine bodyPost_ret (results_none rfl _ _ _) rfl ?_;exact⟨⟨_,rfl⟩,.inr ⟨_,Hst.out,hJx3⟩⟩
      ·have hd0:decide (0<X)=false:=by simpa using hx0
       have hone:=hone0;rw[if_neg hx0]at hone;have Hon:=Aa hone;clear hone hone0;go_upto_region 8 with fail
       refine(wpIn_wide (n:=n)).1 ?_
       gi_wp2
       refine hR.mono ?_
       rintro e W3 (⟨rfl,hJ3,hk3⟩|⟨rfl,hJx3⟩)
       ·have B3:W3.heap[Bs]?=some (.cells #[.int .i64 4] 3 (0,0)):=hk3.trans Bj;have HP3:=Aa (show(pre2 ++ [(⟨(-X,u),by unfold boxV;simp only;omega⟩:Vc)]).map (·.1)=vecS s++rowV s (j+1) by rw[List.map_append,HP2.out,Hsuc.out,Hon.out];simp)
        gi_wp2
        all_goals (try exact(Em (by assumption)).elim)
        refine⟨fun _ h=>(by cases h),?_⟩
        gi_wp2
        all_goals (try exact(Em (by assumption)).elim)
        go_wp2;go_roundw
        case rel=>exact⟨j+1,_,by omega,by have:=Hu.out;congr 1;omega,HP3,hJ3,B3⟩
        case measure=>have:=Hu.out;simp[intOf];omega
       ·have hst:=Hpre.out [(-X,u)] (by rw[Hon.out];exact List.prefix_refl _);have Hst:=Aa (show(pre2 ++ [(⟨(-X,u),by unfold boxV;simp only;omega⟩:Vc)]).map (·.1) <+: vecL by rw[List.map_append,HP2.out];exact hst);clear hst
        gi_wp2
        all_goals (try exact(Em (by assumption)).elim)
        refine⟨fun _ h=>(by cases h),?_⟩
        gi_wp2
        all_goals (try exact(Em (by assumption)).elim)
        go_wp2;refine bodyPost_ret (results_none rfl _ _ _) rfl ?_;exact⟨⟨_,rfl⟩,.inr ⟨_,Hst.out,hJx3⟩⟩
    ·obtain rfl:j=2*m+1:=by omega
     have hle:decide (u≤(m:Int))=false:=by simp;omega
     have hub:u≤5∧0≤u:=by omega
     have HP3:=Aa (show pre2.map (·.1)=vecS (s+1) by rw[HP2.out];show _=vecS s++rowV s (2*min s 4+1);rw[←Hm.out]);clear hu;go_upto_region 4 with fail
     refine CQ [(16,0),(17,1),(18,2),(19,3),(20,4)] [[],[0],[0,1],[0,1,2],[0,1,2,3]] (fun i own ys wx=>match i with|0=>own= .int .i64 u|1=>own= .int .i64 (s:Nat)|2=>own= .int .i64 4|3=>own= .int .i64 (m:Nat)|4=>own= .bool false|_=>True) (fun kx wx=>Hid (wx=wr)) (by kernel_rfl) (by kernel_rfl) ?g0_r3 ?gop_r3 ?gend_r3
     case g0_r3=>exact Aa rfl
     case gop_r3 =>
      refine⟨?_,?_,?o2,?o3,?o4,trivial⟩ <;> (intro kx xs wx hk hG hD hI Qo Kx hK hQo;simp only[Ad,Nat.reduceAdd,Nat.reduceEqDiff,↓reduceIte]at hQo⊢)
      case o2 =>
       clear hD hI;have cx:wx.cell? ⟨Bs,0,none⟩=some (.int .i64 4):=by rw[hG.out];exact c0
       go_wp2;exact hK.out _ _ ⟨rfl,hG,kkp⟩
      case o3 =>
       rw[ddq (hD 1 rfl),ddq (hD 2 rfl)]at hQo⊢;clear hD hI;go_wp2;all_goals exact hK.out _ _ ⟨by have:=Hmm.out;congr 1 <;> omega,hG,fun _ _ _ _ _ _ h=>h⟩
      case o4 =>
       rw[ddq (hD 0 rfl),ddq (hD 3 rfl)]at hQo⊢;clear hD hI;go_wp2;exact hK.out _ _ ⟨rfl,hG,kkp⟩
      all_goals
       clear hD hI;go_wp2;exact hK.out _ _ ⟨rfl,hG,kkp⟩
     intro xs wx hV hG;have d4:_=_:=hV 4 (by decide);clear hV;simp only[Ad,Nat.reduceAdd,Nat.reduceEqDiff,↓reduceIte];generalize xs 0=y0,xs 1=y1,xs 2=y2,xs 3=y3,xs 4=y4 at *
     replace hG:Hid (wx=wr):=hG
     subst d4;obtain rfl:wr=wx:=hG.out.symm;go_wp2;go_roundw
     case rel=>exact⟨s+1,pre2,by omega,by go_num,HP3,Jj,Bj⟩
     case measure=>simp[intOf];omega
  ·obtain rfl:s=9:=by omega
   have HP9:pre.map (·.1)=vecL:=HP.out;have HP8:=Aa HP9;clear HP9 HP;go_wp2;go_end0
   exact⟨⟨_,rfl⟩,.inl ⟨pre,HP8.out,Ju⟩⟩
end Go.Proofs.YtijnbalgnhigbaaGreatDoor
namespace Go.Proofs.YtijnbalgnhigbaaGreatDoor
open Go.RowKit
attribute [local go_sem] Oper.semAt_some
theorem Ext.ko {w w':World}(e:Ext w w'):KeepsOthers w w':=⟨e.size,fun _ _ h _=>e.blk h⟩
structure MS (w : World) (B Q S : Nat) (t r : Pic) (a b : Option Addr) (n c l d x y : Nat) (z : (Int × Int) × Int) (wx : World) : Prop where
 ex:Ext w wx
 ht:wx.heap[B]?=some (.cells #[.int .i64 t.w,.int .i64 t.h,.slice a n c] 30 (0,0))
 hr:wx.heap[B+1]?=some (.cells #[.int .i64 r.w,.int .i64 r.h,.slice b l d] 30 (0,0))
 hx:wx.heap[B+1+1]?=some (.cells #[.int .i64 (x:Nat)] 3 (0,0))
 hy:wx.heap[B+1+1+1]?=some (.cells #[.int .i64 (y:Nat)] 3 (0,0))
 rs:wx.heap[B+1+1+1+1]?=some (.cells #[.int .i64 0,.int .i64 0] 45 (0,0))
 be:wx.heap[Q]?=some (.cells #[.int .i64 z.1.1,.int .i64 z.1.2] 45 (0,0))
 le:wx.heap[Q+1]?=some (.cells #[.int .i64 z.2] 3 (0,0))
 sp:wx.heap[S]?=some (.cells #[.int .i64 4] 3 (0,0))
theorem MS.e {w:World}{B Q S:Nat}{t r:Pic}{a b:Option Addr}{n c l d x y:Nat}{z:(Int×Int)×Int}{wx wy:World}(h:MS w B Q S t r a b n c l d x y z wx)(e:Ext wx wy):MS w B Q S t r a b n c l d x y z wy :=
 ⟨h.ex.trans e,e.blk h.ht,e.blk h.hr,e.blk h.hx,e.blk h.hy,e.blk h.rs,e.blk h.be,e.blk h.le,e.blk h.sp⟩
theorem MS.own {w:World}{B Q S:Nat}{t r:Pic}{a b:Option Addr}{n c l d x y:Nat}{z:(Int×Int)×Int}{M:Nat}{wx wy:World}(h:MS w B Q S t r a b n c l d x y z wx)(hM:w.heap.size≤M){row:Option Nat}(g:wx.grownBy wy row)(hr:∀ r,row=some r→M≤r∧∃ o:Obj,wx.heap[r]?=some o∧o.isCells=false):MS w B Q S t r a b n c l d x y z wy :=
 ⟨Ext.grown h.ex g (fun k e=>by have:=(hr k e).1;omega),Db h.ht g hr,Db h.hr g hr,Db h.hx g hr,Db h.hy g hr,Db h.rs g hr,Db h.be g hr,Db h.le g hr,Db h.sp g hr⟩
theorem MS.set {w:World}{B Q S:Nat}{t r:Pic}{a b:Option Addr}{n c l d x y:Nat}{z:(Int×Int)×Int}{wx:World}(h:MS w B Q S t r a b n c l d x y z wx)(u v C:Int)(h1:w.heap.size≤Q)(h2:B+1+1+1+1<Q)(h3:Q+1<S):
 MS w B Q S t r a b n c l d x y ((u,v),C) (((wx.setCell ⟨Q,0,none⟩ (.int .i64 u)).setCell ⟨Q,1,none⟩ (.int .i64 v)).setCell ⟨Q+1,0,none⟩ (.int .i64 C)):=by
 have k:∀ {j:Nat} {o:Obj},wx.heap[j]?=some o→j≠Q→j≠Q+1→(((wx.setCell ⟨Q,0,none⟩ (.int .i64 u)).setCell ⟨Q,1,none⟩ (.int .i64 v)).setCell ⟨Q+1,0,none⟩ (.int .i64 C)).heap[j]?=some o:=fun hj n1 n2=>Ai (Ai (Ai hj n1) n1) n2
 exact⟨Ext.grown (Ext.grown (Ext.grown h.ex (Ax _ _ _ _) (fun k e=>by cases e;omega)) (Ax _ _ _ _) (fun k e=>by cases e;omega)) (Ax _ _ _ _) (fun k e=>by cases e;omega),
  k h.ht (by omega) (by omega),k h.hr (by omega) (by omega),k h.hx (by omega) (by omega),k h.hy (by omega) (by omega),k h.rs (by omega) (by omega),
  Ai (Ft h.be) (by omega),heap_setCell_same _ _ 0 _ _ (.int .i64 C) (Ai (Ai h.le (by omega)) (by omega)),k h.sp (by omega) (by omega)⟩
theorem QS (l:List Value)(h:l.length=57):l=(List.range 57).map (fun i=>l.getD i undef):=by
 refine List.ext_getElem (by simp[h]) fun i h1 h2 => ?_
 simp[List.getD,h1]
def AV (B Q:Nat)(wL:World)(v:Vc)(a':Act)(W:World):Prop:=∃(Rx:Nat) (l:List Value),wL.heap.size≤Rx∧W.heap[Rx]?=some (.cells #[.int .i64 v.1.1,.int .i64 v.1.2] 45 (0,0))∧a'=⟨l.toArray,[]⟩∧l.length=57∧l[5]?=some (.pointer (some ⟨B,0,none⟩))∧l[6]?=some (.pointer (some ⟨B+1,0,none⟩))∧l[7]?=some (.pointer (some ⟨B+1+1,0,none⟩))∧l[8]?=some (.pointer (some ⟨B+1+1+1,0,none⟩))∧l[11]?=some (.pointer (some ⟨Q,0,none⟩))∧l[12]?=some (.pointer (some ⟨Q+1,0,none⟩))∧l[13]?=some (.pointer (some ⟨Rx,0,none⟩))
theorem AV.own (B Q:Nat)(wL:World)(v:Vc)(a':Act):OwnFrom wL.heap.size (fun(_:Unit) W=>AV B Q wL v a' W):=fun _ W W' row h g hr=>by
 obtain⟨Rx,l,h1,h2,h3⟩:=h;exact⟨Rx,l,h1,Db h2 g hr,h3⟩
theorem AV.elim {B Q:Nat}{wL:World}{v:Vc}{a':Act}{W:World}(h:AV B Q wL v a' W):∃(Rx:Nat) (f:Nat→Value),wL.heap.size≤Rx∧W.heap[Rx]?=some (.cells #[.int .i64 v.1.1,.int .i64 v.1.2] 45 (0,0))∧a'=⟨(f 0::f 1::f 2::f 3::f 4::(.pointer (some ⟨B,0,none⟩))::(.pointer (some ⟨B+1,0,none⟩))::(.pointer (some ⟨B+1+1,0,none⟩))::(.pointer (some ⟨B+1+1+1,0,none⟩))::f 9::f 10::(.pointer (some ⟨Q,0,none⟩))::(.pointer (some ⟨Q+1,0,none⟩))::(.pointer (some ⟨Rx,0,none⟩))::f 14::f 15::f 16::f 17::f 18::f 19::f 20::f 21::f 22::f 23::f 24::f 25::f 26::f 27::f 28::f 29::f 30::f 31::f 32::f 33::f 34::f 35::f 36::f 37::f 38::f 39::f 40::f 41::f 42::f 43::f 44::f 45::f 46::f 47::f 48::f 49::f 50::f 51::f 52::f 53::f 54::f 55::f 56 :: []).toArray,[]⟩:=by
 obtain⟨Rx,l,h1,h2,rfl,hl,h5,h6,h7,h8,h11,h12,h13⟩:=h;refine⟨Rx,fun i=>l.getD i undef,h1,h2,?_⟩;have e:=QS l hl;have g5:l.getD 5 undef=(.pointer (some ⟨B,0,none⟩)):=by simp[List.getD,h5]
 have g6:l.getD 6 undef=(.pointer (some ⟨B+1,0,none⟩)):=by simp[List.getD,h6]
 have g7:l.getD 7 undef=(.pointer (some ⟨B+1+1,0,none⟩)):=by simp[List.getD,h7]
 have g8:l.getD 8 undef=(.pointer (some ⟨B+1+1+1,0,none⟩)):=by simp[List.getD,h8]
 have g11:l.getD 11 undef=(.pointer (some ⟨Q,0,none⟩)):=by simp[List.getD,h11]
 have g12:l.getD 12 undef=(.pointer (some ⟨Q+1,0,none⟩)):=by simp[List.getD,h12]
 have g13:l.getD 13 undef=(.pointer (some ⟨Rx,0,none⟩)):=by simp[List.getD,h13]
 rw[←g5,←g6,←g7,←g8,←g11,←g12,←g13];exact congrArg (fun z:List Value=>(⟨z.toArray,[]⟩:Act)) e
theorem IR (t r:Pic)(x y:Nat)(a b:Option Addr)(c d n l:Nat)(w:World)(ha:AS t r)(hb:(0≤(x:Int))∧((x:Int)<t.w)∧((x:Int)%8=0)∧(0≤(y:Int))∧((y:Int)<t.h)∧((y:Int)%8=0))(hn:n=t.px.length)(hl:l=r.px.length)(s:Sl w a n (t.px.map (Value.int .i64)))(u:Sl w b l (r.px.map (Value.int .i64))):
 Calls Tryz.prog 54 #[.agg #[.int .i64 t.w,.int .i64 t.h,.slice a n c],.agg #[.int .i64 r.w,.int .i64 r.h,.slice b l d],.int .i64 (x:Nat),.int .i64 (y:Nat),.int .i64 4] w fun e w'=>e= .returned (.agg #[.int .i64 (stI (cV t r x y) vecL).1.1,.int .i64 (stI (cV t r x y) vecL).1.2])∧Ext w w':=by
 have hln:=Pic.len_le ha.1;have hll:=Pic.len_le ha.2.1;rw[←hn]at hln;rw[←hl]at hll;have hx100:x≤100:=by have h1:=ha.1.1.2.1;have h2:=hb.2.1;omega
 have hy100:y≤100:=by have h1:=ha.1.2.1.2.1;have h2:=hb.2.2.2.2.1;omega
 have HTv:=Aa ha.1;have HRv:=Aa ha.2.1;have D0:=Aa (show decide (AS t r)=true from decide_eq_true ha);have D1:=Aa (show decide ((0≤(x:Int))∧((x:Int)<t.w)∧((x:Int)%8=0)∧(0≤(y:Int))∧((y:Int)<t.h)∧((y:Int)%8=0))=true from decide_eq_true hb);have HN:=Aa hn;have HL:=Aa hl;clear hn hl ha hb;have a0:=Ext.alloc w (.cells #[.int .i64 t.w,.int .i64 t.h,.slice a n c] 30);have a1:=Ext.alloc (w.alloc (.cells #[.int .i64 t.w,.int .i64 t.h,.slice a n c] 30)) (.cells #[.int .i64 r.w,.int .i64 r.h,.slice b l d] 30);have a2:=Ext.alloc ((w.alloc (.cells #[.int .i64 t.w,.int .i64 t.h,.slice a n c] 30)).alloc (.cells #[.int .i64 r.w,.int .i64 r.h,.slice b l d] 30)) (.cells #[.int .i64 (x:Nat)] 3);have a3:=Ext.alloc (((w.alloc (.cells #[.int .i64 t.w,.int .i64 t.h,.slice a n c] 30)).alloc (.cells #[.int .i64 r.w,.int .i64 r.h,.slice b l d] 30)).alloc (.cells #[.int .i64 (x:Nat)] 3)) (.cells #[.int .i64 (y:Nat)] 3);have a4:=Ext.alloc ((((w.alloc (.cells #[.int .i64 t.w,.int .i64 t.h,.slice a n c] 30)).alloc (.cells #[.int .i64 r.w,.int .i64 r.h,.slice b l d] 30)).alloc (.cells #[.int .i64 (x:Nat)] 3)).alloc (.cells #[.int .i64 (y:Nat)] 3)) (.cells #[.int .i64 0,.int .i64 0] 45);have X0:=a4.blk (a3.blk (a2.blk (a1.blk (Aj w (.cells #[.int .i64 t.w,.int .i64 t.h,.slice a n c] 30)))));have X1:=a4.blk (a3.blk (a2.blk (Aj (w.alloc (.cells #[.int .i64 t.w,.int .i64 t.h,.slice a n c] 30)) (.cells #[.int .i64 r.w,.int .i64 r.h,.slice b l d] 30))));have X2:=a4.blk (a3.blk (Aj ((w.alloc (.cells #[.int .i64 t.w,.int .i64 t.h,.slice a n c] 30)).alloc (.cells #[.int .i64 r.w,.int .i64 r.h,.slice b l d] 30)) (.cells #[.int .i64 (x:Nat)] 3)));have X3:=a4.blk (Aj (((w.alloc (.cells #[.int .i64 t.w,.int .i64 t.h,.slice a n c] 30)).alloc (.cells #[.int .i64 r.w,.int .i64 r.h,.slice b l d] 30)).alloc (.cells #[.int .i64 (x:Nat)] 3)) (.cells #[.int .i64 (y:Nat)] 3));have X4:=Aj ((((w.alloc (.cells #[.int .i64 t.w,.int .i64 t.h,.slice a n c] 30)).alloc (.cells #[.int .i64 r.w,.int .i64 r.h,.slice b l d] 30)).alloc (.cells #[.int .i64 (x:Nat)] 3)).alloc (.cells #[.int .i64 (y:Nat)] 3)) (.cells #[.int .i64 0,.int .i64 0] 45);have E0:=(((a0.trans a1).trans a2).trans a3).trans a4;simp only[World.size_alloc]at X1 X2 X3 X4;obtain⟨B,hB⟩:∃ B,B=w.heap.size:=⟨_,rfl⟩;rw[←hB]at X0 X1 X2 X3 X4;have hwB:w.heap.size≤B:=by omega
 have hB4:=lt_of_block X4;clear a0 a1 a2 a3 a4;refine Ck 4 Tryz.func54 rfl ?_;simp only[Tryz.ntmps54,List.size_toArray,List.length_cons,List.length_nil,Nat.reduceAdd,Nat.reduceSub,Array.replicate_succ,Array.replicate_zero,List.push_toArray,List.append_toArray,List.nil_append,List.cons_append];go_upto_region 1 with fail
 try simp only[World.size_alloc]
 rw[←hB];clear hB;generalize (((((w.alloc (.cells #[.int .i64 t.w,.int .i64 t.h,.slice a n c] 30)).alloc (.cells #[.int .i64 r.w,.int .i64 r.h,.slice b l d] 30)).alloc (.cells #[.int .i64 (x:Nat)] 3)).alloc (.cells #[.int .i64 (y:Nat)] 3)).alloc (.cells #[.int .i64 0,.int .i64 0] 45))=w1 at *;obtain⟨-,k0,k1,k2,-⟩:=bx3 X0;obtain⟨-,j0,j1,j2,-⟩:=bx3 X1;go_wp2_with fail
 refine(Du t r a b c d n l _ HN.out HL.out (by omega) (by omega) (s.ext E0) (u.ext E0)).mono ?_;rw[D0.out]
 rintro e w2 ⟨rfl,e2⟩
 have Y0:=e2.blk X0;have Y1:=e2.blk X1;have Y2:=e2.blk X2;have Y3:=e2.blk X3;have Y4:=e2.blk X4;have E2:=E0.trans e2;have hB5:=Nat.lt_of_lt_of_le hB4 e2.size;clear X0 X1 X2 X3 X4 E0 e2 k0 k1 k2 j0 j1 j2 hB4;obtain⟨-,k0,k1,k2,-⟩:=bx3 Y0;obtain⟨-,i0,-⟩:=bx1 Y2;obtain⟨-,i1,-⟩:=bx1 Y3;go_wp2_with fail
 refine(Ev t x y a c n _).mono ?_;rw[D1.out]
 rintro e w3 ⟨rfl,e3⟩
 have Z0:=e3.blk Y0;have Z1:=e3.blk Y1;have Z2:=e3.blk Y2;have Z3:=e3.blk Y3;have Z4:=e3.blk Y4;have E3:=E2.trans e3;have hB6:=Nat.lt_of_lt_of_le hB5 e3.size;clear Y0 Y1 Y2 Y3 Y4 E2 e3 k0 k1 k2 i0 i1 hB5;have q0:=Ext.alloc w3 (.cells #[.int .i64 0,.int .i64 0] 45);have q1:=Ext.alloc (w3.alloc (.cells #[.int .i64 0,.int .i64 0] 45)) (.cells #[.int .i64 (-1)] 3);have b0:=q1.blk (Aj w3 (.cells #[.int .i64 0,.int .i64 0] 45));have b1:=Aj (w3.alloc (.cells #[.int .i64 0,.int .i64 0] 45)) (.cells #[.int .i64 (-1)] 3);have F4:=(E3.trans q0).trans q1;have e34:=q0.trans q1;simp only[World.size_alloc]at b1;obtain⟨Q,hQ⟩:∃ Q,Q=w3.heap.size:=⟨_,rfl⟩;rw[←hQ]at b0 b1 hB6;have hwQ:w.heap.size≤Q:=by omega
 go_upto_region 4 with fail
 try simp only[World.size_alloc]
 rw[←hQ];have U0:=e34.blk Z0;have U1:=e34.blk Z1;have U2:=e34.blk Z2;have U3:=e34.blk Z3;have U4:=e34.blk Z4;clear hQ Z0 Z1 Z2 Z3 Z4 E3 q0 q1 e34;generalize (w3.alloc (.cells #[.int .i64 0,.int .i64 0] 45)).alloc (.cells #[.int .i64 (-1)] 3)=w4 at *;go_wp2_with fail
 refine(Ip _).mono ?_
 rintro e w5' ⟨rfl,rfl⟩
 have e5:=Ext.alloc w4 (.cells #[.int .i64 4] 3);have c5:=Aj w4 (.cells #[.int .i64 4] 3);have hsS:(w4.alloc (.cells #[.int .i64 4] 3)).heap.size=w4.heap.size+1:=World.size_alloc _ _;have hQS:=lt_of_block b1;obtain⟨S,hS⟩:∃ S,S=w4.heap.size:=⟨_,rfl⟩;rw[←hS]at c5 hsS hQS⊢;have M0:MS w B Q S t r a b n c l d x y (stI (cV t r x y) []) (w4.alloc (.cells #[.int .i64 4] 3)) :=
  ⟨F4.trans e5,e5.blk U0,e5.blk U1,e5.blk U2,e5.blk U3,e5.blk U4,e5.blk b0,e5.blk b1,c5⟩
 clear hS e5 U0 U1 U2 U3 U4 F4 b0 b1;generalize w4.alloc (.cells #[.int .i64 4] 3)=w5 at *;have hSl:S<w5.heap.size:=by omega
 have hwM:w.heap.size≤w5.heap.size:=by omega
 have HNN:=Aa (fun u v=>(KP HTv.out HRv.out (x:Int) (y:Int) u v));go_upto_region 99 with fail
 refine(wpIn_wide (n:=4)).1 ?_;refine wpIn_rangeFunc_ownH rfl (by omega) (gf:=137) (lb := #[.pointer (some ⟨S,0,none⟩)]) rfl trivial (enters_of Tryz.func137 (by kernel_rfl) rfl)
  (Kk 3 (by omega) S w5 c5) keepB.t (keepB.b hSl) (Below.refl _ _) (fun _=>rfl)
  (fun(pre:List Vc) W=>MS w B Q S t r a b n c l d x y (stI (cV t r x y) (pre.map (fun(v:Vc)=>v.1))) W∧w5.heap.size≤W.heap.size)
  (fun cd (pre:List Vc) W=>cd= .exit 0∧(stI (cV t r x y) (pre.map (fun(v:Vc)=>v.1))).2=0∧MS w B Q S t r a b n c l d x y (stI (cV t r x y) (pre.map (fun(v:Vc)=>v.1))) W)
  (fun pre W W' row hI hg hr=>⟨hI.1.own hwM hg hr,Nat.le_trans hI.2 hg.size⟩) (fun cd pre W W' row hI hg hr=>⟨hI.1,hI.2.1,hI.2.2.own hwM hg hr⟩) ⟨M0,Nat.le_refl _⟩ (AV B Q w5) (AV.own B Q w5) ?assign ?body ?done ?stop
 case assign =>
  rintro l' pre v W K ⟨hI,hIs⟩ hK
  simp[encV]
  gi_wp2
  have e:=Ext.alloc W (.cells #[.int .i64 v.1.1,.int .i64 v.1.2] 45);exact hK _ _ ((KeepsOthers.alloc _ _).from _) ((e.blk hI.sp).trans hI.sp.symm) ⟨hI.e e,Nat.le_trans hIs e.size⟩ ⟨W.heap.size,_,hIs,Aj _ _,rfl,rfl,rfl,rfl,rfl,rfl,rfl,rfl,rfl⟩
 case body =>
  rintro l' pre v a' W hl' ⟨rr,hrr⟩ ⟨hI,hIs⟩ hAV hlen
  obtain⟨Rx,f,hRx,bR,rfl⟩:=hAV.elim;have hbx:=v.2;have hnx:stI (cV t r x y) ((pre ++ [v]).map (·.1))=nxI (cV t r x y) (stI (cV t r x y) (pre.map (·.1))) v.1:=by rw[List.map_append];exact PH _ _ _
  obtain⟨⟨p,q⟩,hpq⟩:∃ p,p=v.1:=⟨_,rfl⟩;rw[←hpq]at bR hbx hnx;simp only at bR hbx;unfold boxV at hbx;obtain⟨z,hz⟩:∃ z,z=stI (cV t r x y) (pre.map (·.1)):=⟨_,rfl⟩;rw[←hz]at hI hnx;unfold nxI at hnx;simp only at hnx;have hCr:=HNN.out p q;obtain⟨C,hC⟩:∃ C,C=cV t r x y p q:=⟨_,rfl⟩;rw[←hC]at hnx hCr;have HC:=Aa hC;have HNX:=Aa hnx;clear hpq hz hC hnx hAV;obtain⟨-,k0,k1,k2,-⟩:=bx3 hI.ht;obtain⟨-,j0,j1,j2,-⟩:=bx3 hI.hr;obtain⟨-,i0,-⟩:=bx1 hI.hx;obtain⟨-,i1,-⟩:=bx1 hI.hy;obtain⟨-,r0,r1,-⟩:=bx2 bR
  gi_wp2_with fail
  refine⟨trivial,?_⟩;refine(CallsIn.inRound _ (callsIn_wide.2 (Kf t r x y p q a b c d n l _ HTv.out HRv.out HN.out HL.out (s.ext hI.ex) (u.ext hI.ex) hx100 hy100 (by omega) (by omega) (by omega) (by omega)))).mono ?_
  rintro e w6 ⟨rfl,e6⟩
  rw[←HC.out];have I6:=hI.e e6;have bR6:=e6.blk bR;have MN:=I6.set p q C hwQ hB6 hQS;clear k0 k1 k2 j0 j1 j2 i0 i1 r0 r1;obtain⟨-,r0,r1,-⟩:=bx2 bR6;obtain⟨-,b0,b1,b2,b3⟩:=bx2 I6.be;obtain⟨-,t0,t1⟩:=bx1 I6.le;obtain⟨-,n0,-⟩:=bx1 MN.le
  by_cases h1:z.2<0
  ·have f1:decide (z.2<0)=true:=by simpa using h1
   have Hnx:=Aa (HNX.out.trans (if_pos (.inl h1)));clear HNX
   by_cases h0:C=0
   ·subst h0
    gi_wp2
    exact⟨(((e6.ko.trans (KeepsOthers.setCell _ _ _)).trans (KeepsOthers.setCell _ _ _)).trans (KeepsOthers.setCell _ _ _)).from _,rfl,congrArg Prod.snd Hnx.out,by rw[Hnx.out];exact MN⟩
   ·have f3:(C == 0)=false:=by simpa using h0
    gi_wp2
    exact⟨(((e6.ko.trans (KeepsOthers.setCell _ _ _)).trans (KeepsOthers.setCell _ _ _)).trans (KeepsOthers.setCell _ _ _)).from _,MN.sp.trans hI.sp.symm,by rw[Hnx.out];exact MN,by simp only[World.size_setCell];exact Nat.le_trans hIs e6.size⟩
  ·have f1:decide (z.2<0)=false:=by simpa using h1
   by_cases h2:C<z.2
   ·have f2:decide (C<z.2)=true:=by simpa using h2
    have Hnx:=Aa (HNX.out.trans (if_pos (.inr h2)));clear HNX
    by_cases h0:C=0
    ·subst h0
     gi_wp2
     exact⟨(((e6.ko.trans (KeepsOthers.setCell _ _ _)).trans (KeepsOthers.setCell _ _ _)).trans (KeepsOthers.setCell _ _ _)).from _,rfl,congrArg Prod.snd Hnx.out,by rw[Hnx.out];exact MN⟩
    ·have f3:(C == 0)=false:=by simpa using h0
     gi_wp2
     exact⟨(((e6.ko.trans (KeepsOthers.setCell _ _ _)).trans (KeepsOthers.setCell _ _ _)).trans (KeepsOthers.setCell _ _ _)).from _,MN.sp.trans hI.sp.symm,by rw[Hnx.out];exact MN,by simp only[World.size_setCell];exact Nat.le_trans hIs e6.size⟩
   ·have f2:decide (C<z.2)=false:=by simpa using h2
    have Hnx:=Aa (HNX.out.trans (if_neg (fun h=>h.elim h1 h2)));clear HNX
    gi_wp2
    exact⟨e6.ko.from _,I6.sp.trans hI.sp.symm,by rw[Hnx.out];exact I6,Nat.le_trans hIs e6.size⟩
 case done =>
  rintro D ys W hD hS ⟨hI,hIs⟩ hK
  have hS2:ys.map (·.1)=vecL:=hS;rw[hS2]at hI;obtain⟨z,hz⟩:∃ z,z=stI (cV t r x y) vecL:=⟨_,rfl⟩;rw[←hz]at hI;have Hz:=Aa hz;clear hz hS hS2;obtain⟨-,b0,b1,-⟩:=bx2 hI.be;obtain⟨-,r0,r1,p0,p1⟩:=bx2 hI.rs;have hres:=Ft (x' := .int .i64 z.1.1) (y' := .int .i64 z.1.2) hI.rs;have hext:=Ext.grown (Ext.grown hI.ex (Ax _ (B+1+1+1+1) 0 (.int .i64 z.1.1)) (fun k e=>by cases e;omega)) (Ax _ (B+1+1+1+1) 1 (.int .i64 z.1.2)) (fun k e=>by cases e;omega);have hK2:((W.setCell ⟨B+1+1+1+1,0,none⟩ (.int .i64 z.1.1)).setCell ⟨B+1+1+1+1,1,none⟩ (.int .i64 z.1.2)).heap[D]?=some (.deferred (some [])):=Ai (Ai hK (by omega)) (by omega);go_wp2;refine⟨by simp,.inl ⟨_,_,rfl,run_takeDeferred hK2,?_⟩⟩;exact⟨_,results_cell_row rfl _ _ (B+1+1+1+1) 45 #[.int .i64 z.1.1,.int .i64 z.1.2] (0,0) _ rfl (Jt hres (by omega) _) Rr rfl Av,by rw[Hz.out],GN hext (by omega) _⟩
 case stop =>
  rintro D cd pre W hD hSp ⟨rfl,h0,hI⟩ hK
  have hst:=PI (cV t r x y) (fun p q=>(HNN.out p q).1) hSp h0;rw[←hst]at hI;obtain⟨z,hz⟩:∃ z,z=stI (cV t r x y) vecL:=⟨_,rfl⟩;rw[←hz]at hI;have Hz:=Aa hz;clear hz hst h0 hSp;obtain⟨-,b0,b1,-⟩:=bx2 hI.be;obtain⟨-,r0,r1,p0,p1⟩:=bx2 hI.rs;have hres:=Ft (x' := .int .i64 z.1.1) (y' := .int .i64 z.1.2) hI.rs;have hext:=Ext.grown (Ext.grown hI.ex (Ax _ (B+1+1+1+1) 0 (.int .i64 z.1.1)) (fun k e=>by cases e;omega)) (Ax _ (B+1+1+1+1) 1 (.int .i64 z.1.2)) (fun k e=>by cases e;omega);have hK2:((W.setCell ⟨B+1+1+1+1,0,none⟩ (.int .i64 z.1.1)).setCell ⟨B+1+1+1+1,1,none⟩ (.int .i64 z.1.2)).heap[D]?=some (.deferred (some [])):=Ai (Ai hK (by omega)) (by omega)
  gi_wp2
  go_wp2;refine⟨by simp,.inl ⟨_,_,rfl,run_takeDeferred hK2,?_⟩⟩;exact⟨_,results_cell_row rfl _ _ (B+1+1+1+1) 45 #[.int .i64 z.1.1,.int .i64 z.1.2] (0,0) _ rfl (Jt hres (by omega) _) Rr rfl Av,by rw[Hz.out],GN hext (by omega) _⟩
end Go.Proofs.YtijnbalgnhigbaaGreatDoor
namespace Go.Proofs.YtijnbalgnhigbaaGreatDoor
open Go.RowKit
structure C7 (B : Nat) (t r : Pic) (W H : Nat) (a b b2 : Option Addr) (n c l d l2 d2 x y q : Nat) (top : Int) (wx : World) : Prop where
 g0:wx.heap[B]?=some (.cells #[.int .i64 t.w,.int .i64 t.h,.slice a n c] 30 (0,0))
 g1:wx.heap[B+1]?=some (.cells #[.int .i64 r.w,.int .i64 r.h,.slice b l d] 30 (0,0))
 g2:wx.heap[B+1+1]?=some (.cells #[.int .i64 W,.int .i64 H,.slice b2 l2 d2] 30 (0,0))
 g3:wx.heap[B+1+1+1]?=some (.cells #[.int .i64 (x:Nat)] 3 (0,0))
 g4:wx.heap[B+1+1+1+1]?=some (.cells #[.int .i64 (y:Nat)] 3 (0,0))
 g5:wx.heap[B+1+1+1+1+1]?=some (.cells #[.int .i64 (q:Nat)] 3 (0,0))
 g6:wx.heap[B+1+1+1+1+1+1]?=some (.cells #[.int .i64 top] 3 (0,0))
theorem C7.e {B W H x y q:Nat}{top:Int}{t r:Pic}{a b b2:Option Addr}{n c l d l2 d2:Nat}{wx wy:World}(h:C7 B t r W H a b b2 n c l d l2 d2 x y q top wx)(e:Ext wx wy):C7 B t r W H a b b2 n c l d l2 d2 x y q top wy:=⟨e.blk h.g0,e.blk h.g1,e.blk h.g2,e.blk h.g3,e.blk h.g4,e.blk h.g5,e.blk h.g6⟩
theorem C7.gr {B W H x y q:Nat}{top:Int}{t r:Pic}{a b b2:Option Addr}{n c l d l2 d2:Nat}{wx wy:World}(h:C7 B t r W H a b b2 n c l d l2 d2 x y q top wx){Q:Nat}(g:wx.grownBy wy (some Q))(hQ:B+1+1+1+1+1+1<Q):C7 B t r W H a b b2 n c l d l2 d2 x y q top wy:=⟨Ar h.g0 g (by simp;omega),Ar h.g1 g (by simp;omega),Ar h.g2 g (by simp;omega),Ar h.g3 g (by simp;omega),Ar h.g4 g (by simp;omega),Ar h.g5 g (by simp;omega),Ar h.g6 g (by simp;omega)⟩
theorem C7.lt {B W H x y q:Nat}{top:Int}{t r:Pic}{a b b2:Option Addr}{n c l d l2 d2:Nat}{wx:World}(h:C7 B t r W H a b b2 n c l d l2 d2 x y q top wx):B+1+1+1+1+1+1<wx.heap.size:=lt_of_block h.g6
theorem Lt (w:World):Calls Tryz.prog 51 #[] w fun e w'=>e= .returned (.agg (ic (zl 71)))∧Ext w w':=by
 have q0:=IB.new w 50 (zl 71);have e1:=Ext.alloc w (.cells (ic (zl 71)) 50);go_enter Tryz.func51,Tryz.ntmps51
 go_wp2_with (first|(refine Au 50 rfl rfl 71 Bf ?_;(try simp only[World.size_alloc]))|(refine Af 50 _ _ rfl rfl q0 0 71 rfl _ rfl (zl 71) (by kernel_rfl) Ah (AB 71) (by rw[AB];omega) ?_;intro w2 r2 g2;refine Hid.out ?_))
 rw[Ap (by rw[AB])]at r2;have E2:Ext w w2:=Ext.grown e1 g2 (fun k e=>by cases e;omega);refine Aa ?_;go_wp2;exact bodyPost_ret (v := .agg (ic (zl 71))) (results_cell_row rfl _ _ w.heap.size 50 (ic (zl 71)) (0,0) _ rfl r2 Ro rfl (by rw[AJ,AB];exact Ah)) rfl ⟨rfl,E2⟩
theorem Ms (t r:Pic)(W H x y q:Nat)(px:List Int)(top:Int)(a b b2:Option Addr)(c d d2 n l l2:Nat)(B:Nat)(w:World)(hT:TabQ w)(h:C7 B t r W H a b b2 n c l d l2 d2 x y q top w)(h1:AS t r)(h2:AS t ⟨W,H,px⟩)(h3:BJ t x y)(hq:q<16)(htop:0≤top∧top≤(y:Int))(hn:n=t.px.length)(hl:l=r.px.length)(hl2:l2=px.length)(s:Sl w a n (t.px.map (Value.int .i64)))(u:Sl w b l (r.px.map (Value.int .i64)))(v:Sl w b2 l2 (px.map (Value.int .i64))):
 Calls Tryz.prog 52 #[.pointer (some ⟨B,0,none⟩),.pointer (some ⟨B+1,0,none⟩),.pointer (some ⟨B+1+1+1,0,none⟩),.pointer (some ⟨B+1+1+1+1,0,none⟩),.pointer (some ⟨B+1+1+1+1+1,0,none⟩)] w fun e w'=>e= .returned (.agg (ic (can1 t r x y q).zs))∧Ext w w':=by
 have hln:=Pic.len_le h1.1;have hll:=Pic.len_le h1.2.1;have hlp:=Pic.len_le h2.2.1;simp only at hlp;rw[←hn]at hln;rw[←hl]at hll;rw[←hl2]at hlp;have hxy:x≤24∧y≤24:=by
  have e1:=h1.1.1.2.1;have e2:=h1.1.2.1.2.1;have e3:=h3.2.2.1;have e4:=h3.2.2.2.1;have e5:=h3.2.2.2.2.2.1;have e6:=h3.2.2.2.2.2.2;omega
 have hbeg:(0≤(x:Int))∧((x:Int)<t.w)∧((x:Int)%8=0)∧(0≤(y:Int))∧((y:Int)<t.h)∧((y:Int)%8=0):=h3.2;have HTv:=Aa h1.1;have HRv:=Aa h1.2.1;have H1:=Aa h1;have HB:=Aa hbeg;have HN:=Aa hn;have HL:=Aa hl;obtain⟨m1,hm1e⟩:∃ m,m=can1 t r x y q:=⟨_,rfl⟩;have hm1:=Aa (Mac.zs_len (show m1.ok by rw[hm1e];exact Ge _ _ _ _ _));have hvv:=OZ h1.1 h1.2.1 x y;obtain⟨⟨p0,p1⟩,hpv⟩:∃ z,z=bv t r x y:=⟨_,rfl⟩;rw[←hpv]at hvv;simp only at hvv;have HBV:=Aa (show(stI (cV t r x y) vecL).1=(p0,p1) by rw[hpv];unfold bv;rfl);have Hm1:=Aa (show macI p0 p1 (intL t r x y p0 p1 q 4)=m1 by rw[hm1e];unfold can1;rw[←hpv]);rw[←hm1e];have hBl:=h.lt;have e0:=Ext.alloc w (.cells (ic (zl 71)) 50);have i0:=IB.new w 50 (zl 71);obtain⟨R,hR⟩:∃ R,R=w.heap.size:=⟨_,rfl⟩;rw[←hR]at i0 hBl;have hRw:w.heap.size≤R:=by omega
 clear h1 h2 h3 htop hn hl hl2 hm1e hpv hbeg;go_enter Tryz.func52,Tryz.ntmps52
 go_upto_region 1 with(first|(refine Au 50 rfl rfl 71 Bf ?_;(try simp only[World.size_alloc]))|fail)
 rw[←hR];have F0:C7 B t r W H a b b2 n c l d l2 d2 x y q top (w.alloc (.cells (ic (zl 71)) 50))∧Ext w (w.alloc (.cells (ic (zl 71)) 50))∧IB (w.alloc (.cells (ic (zl 71)) 50)) R 50 (zl 71):=⟨h.e e0,e0,i0⟩;clear h e0 i0 hR;generalize w.alloc (.cells (ic (zl 71)) 50)=w1 at *;simp only[Act.put,List.setIfInBounds_toArray,List.set_cons_succ,List.set_cons_zero];refine Am (by kernel_rfl) [(6,0),(7,1),(8,2),(9,3),(10,4),(11,5),(12,6),(13,7),(14,8),(15,9),(16,10)] [[],[],[],[],[],[],[],[],[4,5,6,7],[],[0,1,2,3,4,5,6,7,8,9],[0,1,2,3,4,5,6,7,8,9,10]] (fun i own ys wx=>match i with|0=>own= .agg #[.int .i64 t.w,.int .i64 t.h,.slice a n c]|1=>own= .agg #[.int .i64 r.w,.int .i64 r.h,.slice b l d]|2=>own= .int .i64 (x:Nat)|3=>own= .int .i64 (y:Nat)|4=>own= .agg #[.int .i64 t.w,.int .i64 t.h,.slice a n c]|5=>own= .agg #[.int .i64 r.w,.int .i64 r.h,.slice b l d]|6=>own= .int .i64 (x:Nat)|7=>own= .int .i64 (y:Nat)|8=>own= .agg #[.int .i64 p0,.int .i64 p1]|9=>own= .int .i64 (q:Nat)|10=>own= .agg (ic m1.zs)|11=>True|_=>True) (fun Lx wx=>C7 B t r W H a b b2 n c l d l2 d2 x y q top wx∧Ext w wx∧IB wx R 50 (if Lx 11=true then m1.zs else zl 71)) (by kernel_rfl) (by kernel_rfl) (by kernel_rfl) ?g0_r1 ?gop_r1 ?gend_r1
 case g0_r1=>exact⟨F0.1.e (Ext.drewN _ 1),F0.2.1.trans_drewN 1,F0.2.2.drewN 1⟩
 case gop_r1 =>
  refine⟨?_,?o1,?o2,?o3,?_,?o5,?o6,?o7,?o8,?o9,?o10,?o11,trivial⟩ <;> (intro Lx xs wx hG hl ha hb hD hI Qo Kx hK hQo;simp only[Ad,Nat.reduceAdd,Nat.reduceEqDiff,↓reduceIte]at hQo⊢)
  case o1 =>
   clear hl ha hb hD hI;obtain⟨-,k10,k11,k12,-⟩:=bx3 hG.1.g1;go_wp2;exact hK.out _ _ ⟨rfl,hG,kkp⟩
  case o2 =>
   clear hl ha hb hD hI;obtain⟨-,k30,-⟩:=bx1 hG.1.g3;go_wp2;exact hK.out _ _ ⟨rfl,hG,kkp⟩
  case o3 =>
   clear hl ha hb hD hI;obtain⟨-,k40,-⟩:=bx1 hG.1.g4;go_wp2;exact hK.out _ _ ⟨rfl,hG,kkp⟩
  case o5 =>
   clear hl ha hb hD hI;obtain⟨-,k10,k11,k12,-⟩:=bx3 hG.1.g1;go_wp2;exact hK.out _ _ ⟨rfl,hG,kkp⟩
  case o6 =>
   clear hl ha hb hD hI;obtain⟨-,k30,-⟩:=bx1 hG.1.g3;go_wp2;exact hK.out _ _ ⟨rfl,hG,kkp⟩
  case o7 =>
   clear hl ha hb hD hI;obtain⟨-,k40,-⟩:=bx1 hG.1.g4;go_wp2;exact hK.out _ _ ⟨rfl,hG,kkp⟩
  case o8 =>
   clear hl ha hb;rw[ddq (hD 4 rfl),ddq (hD 5 rfl),ddq (hD 6 rfl),ddq (hD 7 rfl)]at hQo⊢;clear hD hI;go_wp2_with fail
   refine(IR t r x y a b c d n l _ H1.out HB.out HN.out HL.out (s.ext hG.2.1) (u.ext hG.2.1)).mono ?_;rw[HBV.out]
   rintro e wz ⟨rfl,ez⟩
   go_wp2;exact hK.out _ _ ⟨rfl,⟨hG.1.e ez,hG.2.1.trans ez,hG.2.2.ext ez⟩,kkp⟩
  case o9 =>
   clear hl ha hb hD hI;obtain⟨-,k50,-⟩:=bx1 hG.1.g5;go_wp2;exact hK.out _ _ ⟨rfl,hG,kkp⟩
  case o10 =>
   clear hl ha hb;rw[ddq (hD 0 rfl),ddq (hD 1 rfl),ddq (hD 2 rfl),ddq (hD 3 rfl),ddq (hD 8 rfl),ddq (hD 9 rfl)]at hQo⊢;clear hD hI;go_wp2_with fail
   refine(Fj t r x y p0 p1 q a b c d n l _ (hT.ext hG.2.1) HN.out HL.out (by omega) (by omega) (s.ext hG.2.1) (u.ext hG.2.1) HRv.out HTv.out (by omega) (by omega) hvv hq H1.out HB.out hvv (by omega)).mono ?_;rw[Hm1.out]
   rintro e wz ⟨rfl,ez⟩
   go_wp2;exact hK.out _ _ ⟨rfl,⟨hG.1.e ez,hG.2.1.trans ez,hG.2.2.ext ez⟩,kkp⟩
  case o11 =>
   have l11:Lx 11=false:=hl;clear hl ha hb;rw[ddq (hD 10 rfl)]at hQo⊢;clear hD hI;rw[l11,ifF]at hG;have ib:=hG.2.2;refine Af 50 _ _ rfl rfl ib 0 71 rfl _ rfl m1.zs rfl Ah hm1.out (by rw[AB];omega) ?_;intro w9 i9 g9;rw[Ap (by rw[hm1.out,AB])]at i9;exact hQo undef _ (hK.out _ _ ⟨trivial,⟨hG.1.gr g9 hBl,Ext.grown hG.2.1 g9 (fun k e=>by cases e;exact hRw),i9⟩,fun _ _ _ _ _ _ h=>h⟩)
  all_goals
   clear hl ha hb hD hI;obtain⟨-,k00,k01,k02,-⟩:=bx3 hG.1.g0;go_wp2;exact hK.out _ _ ⟨rfl,hG,kkp⟩
 intro xs wx hV hG0;obtain⟨Lx,hL,hG⟩:=hG0;have l11:Lx 11=true:=hL 11 (by decide);clear hL hV;simp only[Ad,Nat.reduceAdd,Nat.reduceEqDiff,↓reduceIte];generalize xs 0=y0,xs 1=y1,xs 2=y2,xs 3=y3,xs 4=y4,xs 5=y5,xs 6=y6,xs 7=y7,xs 8=y8,xs 9=y9,xs 10=y10,xs 11=y11 at *
 replace hG:C7 B t r W H a b b2 n c l d l2 d2 x y q top wx∧Ext w wx∧IB wx R 50 (if Lx 11=true then m1.zs else zl 71):=hG
 rw[l11,ifT]at hG;obtain⟨-,hE,hI⟩:=hG;go_wp2;exact bodyPost_ret (v := .agg (ic m1.zs)) (results_cell_row rfl _ _ R 50 (ic m1.zs) (0,0) _ rfl hI Ro rfl (by rw[AJ,hm1.out];exact Ah)) rfl ⟨rfl,hE⟩
theorem Mt (t r:Pic)(W H x y q:Nat)(px:List Int)(top:Int)(a b b2:Option Addr)(c d d2 n l l2:Nat)(B:Nat)(w:World)(hT:TabQ w)(h:C7 B t r W H a b b2 n c l d l2 d2 x y q top w)(h1:AS t r)(h2:AS t ⟨W,H,px⟩)(h3:BJ t x y)(hq:q<16)(htop:0≤top∧top≤(y:Int))(hn:n=t.px.length)(hl:l=r.px.length)(hl2:l2=px.length)(s:Sl w a n (t.px.map (Value.int .i64)))(u:Sl w b l (r.px.map (Value.int .i64)))(v:Sl w b2 l2 (px.map (Value.int .i64))):
 Calls Tryz.prog 55 #[.pointer (some ⟨B,0,none⟩),.pointer (some ⟨B+1+1,0,none⟩),.pointer (some ⟨B+1+1+1,0,none⟩),.pointer (some ⟨B+1+1+1+1,0,none⟩),.pointer (some ⟨B+1+1+1+1+1,0,none⟩),.pointer (some ⟨B+1+1+1+1+1+1,0,none⟩)] w fun e w'=>e= .returned (.agg (ic (can2 t ⟨W,H,px⟩ x y q top).zs))∧Ext w w':=by
 have hln:=Pic.len_le h1.1;have hll:=Pic.len_le h1.2.1;have hlp:=Pic.len_le h2.2.1;simp only at hlp;rw[←hn]at hln;rw[←hl]at hll;rw[←hl2]at hlp;have hxy:x≤24∧y≤24:=by
  have e1:=h1.1.1.2.1;have e2:=h1.1.2.1.2.1;have e3:=h3.2.2.1;have e4:=h3.2.2.2.1;have e5:=h3.2.2.2.2.2.1;have e6:=h3.2.2.2.2.2.2;omega
 have hbeg:(0≤(x:Int))∧((x:Int)<t.w)∧((x:Int)%8=0)∧(0≤(y:Int))∧((y:Int)<t.h)∧((y:Int)%8=0):=h3.2;have hW8:x+8≤W∧y+8≤H∧W≤32∧H≤32:=by
  have p1:=h2.2.1.1;have p2:=h2.2.1.2.1;have e1:=h2.2.2.1;have e2:=h2.2.2.2;simp only at p1 p2 e1 e2;have g3:=h3.2.2.1;have g5:=h3.2.2.2.2.2.1;have k1:=Im h1.1.1 e1 g3 h3.2.2.2.1;have k2:=Im h1.1.2.1 e2 g5 h3.2.2.2.2.2.2;have:=p1.2.1;have:=p2.2.1;omega
 have hm2:=Aa (Mac.zs_len (Gf t ⟨W,H,px⟩ x y q top));have hc:=fun(w:World) (hT:TabQ w) (s:Sl w a n (t.px.map (Value.int .i64))) (v:Sl w b2 l2 (px.map (Value.int .i64)))=>Cw t W H x y px q top a b2 c d2 n l2 w hT hn hl2 (by omega) (by omega) s v h1.1 h2.2.1 hW8.1 hW8.2.1 hW8.2.2.1 hW8.2.2.2 hq htop.1 h2 hbeg (by omega) htop.1 htop.2
 rw[show BP t ⟨W,H,px⟩ x y q top 4=can2 t ⟨W,H,px⟩ x y q top from rfl]at hc;obtain⟨m2,hm2e⟩:∃ m,m=can2 t ⟨W,H,px⟩ x y q top:=⟨_,rfl⟩;rw[←hm2e]at hc hm2⊢;have HC:=Aa hc;have hBl:=h.lt;have e0:=Ext.alloc w (.cells (ic (zl 71)) 50);have i0:=IB.new w 50 (zl 71);obtain⟨R,hR⟩:∃ R,R=w.heap.size:=⟨_,rfl⟩;rw[←hR]at i0 hBl;have hRw:w.heap.size≤R:=by omega
 have h9:=h.e e0;clear h1 h2 h3 htop hn hl hl2 hm2e hbeg hc h;go_enter Tryz.func55,Tryz.ntmps55
 go_upto_region 1 with(first|(refine Au 50 rfl rfl 71 Bf ?_;(try simp only[World.size_alloc]))|fail)
 rw[←hR];clear hR;generalize w.alloc (.cells (ic (zl 71)) 50)=w1 at *;obtain⟨-,k00,k01,k02,-⟩:=bx3 h9.g0;obtain⟨-,k20,k21,k22,-⟩:=bx3 h9.g2;obtain⟨-,k30,-⟩:=bx1 h9.g3;obtain⟨-,k40,-⟩:=bx1 h9.g4;obtain⟨-,k50,-⟩:=bx1 h9.g5;obtain⟨-,k60,-⟩:=bx1 h9.g6;go_wp2_with fail
 refine(HC.out _ (hT.ext e0) (s.ext e0) (v.ext e0)).mono ?_
 rintro e w2 ⟨rfl,e2⟩
 have i2:=i0.ext e2;have E2:=e0.trans e2;clear i0 e0 e2 h9 HC k00 k20 k30 k40 k50 k60 k01 k02 k21 k22;go_wp2_with (refine Af 50 _ _ rfl rfl i2 0 71 rfl _ rfl m2.zs rfl Ah hm2.out (by rw[AB];omega) ?_;intro w3 i3 g3;refine Hid.out ?_)
 rw[Ap (by rw[hm2.out,AB])]at i3;have E3:Ext w w3:=Ext.grown E2 g3 (fun k e=>by cases e;exact hRw);refine Aa ?_;go_wp2;exact bodyPost_ret (v := .agg (ic m2.zs)) (results_cell_row rfl _ _ R 50 (ic m2.zs) (0,0) _ rfl i3 Ro rfl (by rw[AJ,hm2.out];exact Ah)) rfl ⟨rfl,E3⟩
theorem Mu (m:Mac)(t r:Pic)(W H x y q:Nat)(px:List Int)(top:Int)(a b b2:Option Addr)(c d d2 n l l2:Nat)(B:Nat)(w:World)(hT:TabQ w)(h:C7 B t r W H a b b2 n c l d l2 d2 x y q top w)(hm:m.ok)(hv:m.valid)(h1:AS t r)(h2:AS t ⟨W,H,px⟩)(h3:BJ t x y)(hq:q<16)(htop:0≤top∧top≤(y:Int))(hn:n=t.px.length)(hl:l=r.px.length)(hl2:l2=px.length)(s:Sl w a n (t.px.map (Value.int .i64)))(u:Sl w b l (r.px.map (Value.int .i64)))(v:Sl w b2 l2 (px.map (Value.int .i64))):
 Calls Tryz.prog 57 #[.agg (ic m.zs),.pointer (some ⟨B,0,none⟩),.pointer (some ⟨B+1,0,none⟩),.pointer (some ⟨B+1+1,0,none⟩),.pointer (some ⟨B+1+1+1,0,none⟩),.pointer (some ⟨B+1+1+1+1,0,none⟩),.pointer (some ⟨B+1+1+1+1+1,0,none⟩),.pointer (some ⟨B+1+1+1+1+1+1,0,none⟩)] w fun e w'=>e= .returned (.int .i64 (cst t r ⟨W,H,px⟩ x y q top m))∧Ext w w':=by
 have hln:=Pic.len_le h1.1;have hll:=Pic.len_le h1.2.1;have hlp:=Pic.len_le h2.2.1;simp only at hlp;rw[←hn]at hln;rw[←hl]at hll;rw[←hl2]at hlp;have hxy:x≤24∧y≤24:=by
  have e1:=h1.1.1.2.1;have e2:=h1.1.2.1.2.1;have e3:=h3.2.2.1;have e4:=h3.2.2.2.1;have e5:=h3.2.2.2.2.2.1;have e6:=h3.2.2.2.2.2.2;omega
 have hml:=Aa (Mac.zs_len hm);have ho:=Pu (q:=(q:Int)) h1 h2 h3 (by omega) htop hv;have hc:=fun(w:World) (hT:TabQ w) (s:Sl w a n (t.px.map (Value.int .i64))) (u:Sl w b l (r.px.map (Value.int .i64))) (v:Sl w b2 l2 (px.map (Value.int .i64)))=>KY t r W H x y px m q top a b b2 c d d2 n l l2 w hT hn hl hl2 (by omega) s u v hm h1.1 ho
 rw[show sqS t ⟨W,H,bldS r ⟨W,H,px⟩ x y m q top 4⟩ x y 64+stp q*(macN m:Int)=cst t r ⟨W,H,px⟩ x y q top m from rfl]at hc;obtain⟨C,hC⟩:∃ C,C=cst t r ⟨W,H,px⟩ x y q top m:=⟨_,rfl⟩;rw[←hC]at hc⊢;have HC:=Aa hc;have e0:=Ext.alloc w (.cells (ic m.zs) 50);have i0:=IB.new w 50 m.zs;have h9:=h.e e0;obtain⟨R,hR⟩:∃ R,R=w.heap.size:=⟨_,rfl⟩;rw[←hR]at i0;clear h1 h2 h3 htop hn hl hl2 hc h ho hC hm hv;go_enter Tryz.func57,Tryz.ntmps57
 go_upto_region 1 with fail
 rw[←hR];clear hR;generalize w.alloc (.cells (ic m.zs) 50)=w1 at *;obtain⟨-,k00,k01,k02,-⟩:=bx3 h9.g0;obtain⟨-,k10,k11,k12,-⟩:=bx3 h9.g1;obtain⟨-,k20,k21,k22,-⟩:=bx3 h9.g2;obtain⟨-,k30,-⟩:=bx1 h9.g3;obtain⟨-,k40,-⟩:=bx1 h9.g4;obtain⟨-,k50,-⟩:=bx1 h9.g5;obtain⟨-,k60,-⟩:=bx1 h9.g6;go_wp2_with (refine Ab 50 _ rfl rfl i0 0 71 rfl _ Ro rfl Ah (by rw[hml.out];omega) _ (by rw[Ak _ _ hml.out]) ?_)
 refine(HC.out _ (hT.ext e0) (s.ext e0) (u.ext e0) (v.ext e0)).mono ?_
 rintro e w2 ⟨rfl,e2⟩
 go_wp2;go_ret
 exact⟨rfl,e0.trans e2⟩
theorem KF {t r p:Pic}{x y q:Nat}{top:Int}{m1 m2:Mac}(h1:m1.valid)(h2:m2.valid)(k:Nat):(stC t r p x y q top m1 m2 k).valid:=by
 induction k with
 | zero=>exact If
 | succ k ih =>
  have hc:(if k=0 then m1 else m2).valid:=by split <;> assumption
  unfold stC
  by_cases hlt:cst t r p x y q top (if k=0 then m1 else m2)<cst t r p x y q top (stC t r p x y q top m1 m2 k)
  ·rw[if_pos hlt];exact hc
  ·rw[if_neg hlt];exact ih
theorem QH {t r p:Pic}(ht:t.valid)(hp:p.valid)(x y:Nat){q:Nat}(hq:q<16)(top:Int){m:Mac}(hm:m.ok)(hv:m.valid):0≤cst t r p x y q top m∧cst t r p x y q top m≤9000000:=by
 have h1:=Jl ht (BM hp r x y m q top 4) (x:Int) (y:Int) 64;have h2:=JP hm hv hq;unfold cst;omega
structure ME (w : World) (B Q R g : Nat) (t r : Pic) (W H : Nat) (a b b2 : Option Addr) (n c l d l2 d2 x y q : Nat) (top : Int) (Z : List Int) (wx : World) : Prop where
 ex:Ext w wx
 c7:C7 B t r W H a b b2 n c l d l2 d2 x y q top wx
 rs:IB wx R 50 (zl 71)
 be:IB wx Q 50 Z
 fs:wx.heap[g]?=some (.cells #[.func (.func 51) #[] #[],.func (.func 52) #[] #[.pointer (some ⟨B,0,none⟩),.pointer (some ⟨B+1,0,none⟩),.pointer (some ⟨B+1+1+1,0,none⟩),.pointer (some ⟨B+1+1+1+1,0,none⟩),.pointer (some ⟨B+1+1+1+1+1,0,none⟩)],.func (.func 55) #[] #[.pointer (some ⟨B,0,none⟩),.pointer (some ⟨B+1+1,0,none⟩),.pointer (some ⟨B+1+1+1,0,none⟩),.pointer (some ⟨B+1+1+1+1,0,none⟩),.pointer (some ⟨B+1+1+1+1+1,0,none⟩),.pointer (some ⟨B+1+1+1+1+1+1,0,none⟩)]] 74 (0,0))
 od:w.heap.size≤R∧B+1+1+1+1+1+1<R∧g<R∧R<Q
theorem ME.e {w:World}{Q R g:Nat}{Z:List Int}{B W H x y q:Nat}{top:Int}{t r:Pic}{a b b2:Option Addr}{n c l d l2 d2:Nat}{wx wy:World}(h:ME w B Q R g t r W H a b b2 n c l d l2 d2 x y q top Z wx)(e:Ext wx wy):ME w B Q R g t r W H a b b2 n c l d l2 d2 x y q top Z wy :=
 ⟨h.ex.trans e,h.c7.e e,h.rs.ext e,h.be.ext e,e.blk h.fs,h.od⟩
theorem ME.gr {w:World}{Q R g:Nat}{Z:List Int}{B W H x y q:Nat}{top:Int}{t r:Pic}{a b b2:Option Addr}{n c l d l2 d2:Nat}{wx wy:World}(h:ME w B Q R g t r W H a b b2 n c l d l2 d2 x y q top Z wx){X:Nat}(k:wx.grownBy wy (some X))(hX:Q<X):ME w B Q R g t r W H a b b2 n c l d l2 d2 x y q top Z wy:=by
 have:=h.od;exact⟨Ext.grown h.ex k (fun j e=>by cases e;omega),h.c7.gr k (by omega),h.rs.gr k (by simp;omega),h.be.gr k (by simp;omega),Ar h.fs k (by simp;omega),h.od⟩
theorem ME.set {w:World}{Q R g:Nat}{Z Z':List Int}{B W H x y q:Nat}{top:Int}{t r:Pic}{a b b2:Option Addr}{n c l d l2 d2:Nat}{wx wy:World}(h:ME w B Q R g t r W H a b b2 n c l d l2 d2 x y q top Z wx)(i:IB wy Q 50 Z')(k:wx.grownBy wy (some Q)):ME w B Q R g t r W H a b b2 n c l d l2 d2 x y q top Z' wy:=by
 have:=h.od;exact⟨Ext.grown h.ex k (fun j e=>by cases e;omega),h.c7.gr k (by omega),h.rs.gr k (by simp;omega),i,Ar h.fs k (by simp;omega),h.od⟩
theorem Lz (t r:Pic)(W H x y q:Nat)(px:List Int)(top:Int)(a b b2:Option Addr)(c d d2 n l l2:Nat)(B:Nat)(w:World)(g:Nat)(hT:TabQ w)(h:C7 B t r W H a b b2 n c l d l2 d2 x y q top w)(hg:w.heap[g]?=some (.cells #[.func (.func 51) #[] #[],.func (.func 52) #[] #[.pointer (some ⟨B,0,none⟩),.pointer (some ⟨B+1,0,none⟩),.pointer (some ⟨B+1+1+1,0,none⟩),.pointer (some ⟨B+1+1+1+1,0,none⟩),.pointer (some ⟨B+1+1+1+1+1,0,none⟩)],.func (.func 55) #[] #[.pointer (some ⟨B,0,none⟩),.pointer (some ⟨B+1+1,0,none⟩),.pointer (some ⟨B+1+1+1,0,none⟩),.pointer (some ⟨B+1+1+1+1,0,none⟩),.pointer (some ⟨B+1+1+1+1+1,0,none⟩),.pointer (some ⟨B+1+1+1+1+1+1,0,none⟩)]] 74 (0,0)))(h1:AS t r)(h2:AS t ⟨W,H,px⟩)(h3:BJ t x y)(hq:q<16)(htop:0≤top∧top≤(y:Int))(hn:n=t.px.length)(hl:l=r.px.length)(hl2:l2=px.length)(s:Sl w a n (t.px.map (Value.int .i64)))(u:Sl w b l (r.px.map (Value.int .i64)))(v:Sl w b2 l2 (px.map (Value.int .i64))):
 Calls Tryz.prog 56 #[.slice (some ⟨g,0,none⟩) 3 3,.func (.func 57) #[] #[.pointer (some ⟨B,0,none⟩),.pointer (some ⟨B+1,0,none⟩),.pointer (some ⟨B+1+1,0,none⟩),.pointer (some ⟨B+1+1+1,0,none⟩),.pointer (some ⟨B+1+1+1+1,0,none⟩),.pointer (some ⟨B+1+1+1+1+1,0,none⟩),.pointer (some ⟨B+1+1+1+1+1+1,0,none⟩)]] w fun e w'=>e= .returned (.agg (ic (chM t r ⟨W,H,px⟩ x y q top).zs))∧Ext w w':=by
 have HC2:=Aa (fun(w:World) (hT:TabQ w) (h:C7 B t r W H a b b2 n c l d l2 d2 x y q top w) (s:Sl w a n (t.px.map (Value.int .i64))) (u:Sl w b l (r.px.map (Value.int .i64))) (v:Sl w b2 l2 (px.map (Value.int .i64)))=>Ms t r W H x y q px top a b b2 c d d2 n l l2 B w hT h h1 h2 h3 hq htop hn hl hl2 s u v);have HC3:=Aa (fun(w:World) (hT:TabQ w) (h:C7 B t r W H a b b2 n c l d l2 d2 x y q top w) (s:Sl w a n (t.px.map (Value.int .i64))) (u:Sl w b l (r.px.map (Value.int .i64))) (v:Sl w b2 l2 (px.map (Value.int .i64)))=>Mt t r W H x y q px top a b b2 c d d2 n l l2 B w hT h h1 h2 h3 hq htop hn hl hl2 s u v);have HC4:=Aa (fun(m:Mac) (w:World) (hT:TabQ w) (h:C7 B t r W H a b b2 n c l d l2 d2 x y q top w) (hm:m.ok) (hv:m.valid) (s:Sl w a n (t.px.map (Value.int .i64))) (u:Sl w b l (r.px.map (Value.int .i64))) (v:Sl w b2 l2 (px.map (Value.int .i64)))=>Mu m t r W H x y q px top a b b2 c d d2 n l l2 B w hT h hm hv h1 h2 h3 hq htop hn hl hl2 s u v);have HK:=Aa (fun(m:Mac) (hm:m.ok) (hv:m.valid)=>QH (r:=r) h1.1 h2.2.1 x y hq top hm hv);have v1:=Aa (GK h1.1 h1.2.1 x y hq);have v2:=Aa (GL h1.1 h2.2.1 x y hq top);have hB7:=h.lt;have hgl:=lt_of_block hg;have a0:=Ext.alloc w (.cells (ic (zl 71)) 50);have a1:=Ext.alloc (w.alloc (.cells (ic (zl 71)) 50)) (.cells (ic (zl 71)) 50);have i0:=(IB.new w 50 (zl 71)).ext a1;have i1:=IB.new (w.alloc (.cells (ic (zl 71)) 50)) 50 (zl 71);rw[World.size_alloc]at i1;have N0:ME w B (w.heap.size+1) w.heap.size g t r W H a b b2 n c l d l2 d2 x y q top mac0.zs ((w.alloc (.cells (ic (zl 71)) 50)).alloc (.cells (ic (zl 71)) 50)) :=
  ⟨a0.trans a1,(h.e a0).e a1,i0,by rw[Ja];exact i1,a1.blk (a0.blk hg),⟨Nat.le_refl _,hB7,hgl,Nat.lt_succ_self _⟩⟩
 clear h hg h1 h2 h3 htop hn hl hl2 a0 a1 i0 i1 hB7 hgl;obtain⟨R,hR⟩:∃ R,R=w.heap.size:=⟨_,rfl⟩;rw[←hR]at N0;go_enter Tryz.func56,Tryz.ntmps56
 go_upto_region 2 with(first|(refine Au 50 rfl rfl 71 Bf ?_;(try simp only[World.size_alloc]))|fail)
 try simp only[World.size_alloc]
 rw[←hR];clear hR;generalize (w.alloc (.cells (ic (zl 71)) 50)).alloc (.cells (ic (zl 71)) 50)=w1 at *;go_wp2_with fail
 go_loopw [6,13] (fun ls i wr=>∃ K:Nat,K≤3∧i= .int .i64 (K:Nat)∧(K=0→ls= .int .i64 (-1))∧(∀ k,K=k+1→ls= .int .i64 (cst t r ⟨W,H,px⟩ x y q top (stC t r ⟨W,H,px⟩ x y q top (can1 t r x y q) (can2 t ⟨W,H,px⟩ x y q top) k)))∧ME w B (R+1) R g t r W H a b b2 n c l d l2 d2 x y q top (match K with|0=>mac0|k+1=>stC t r ⟨W,H,px⟩ x y q top (can1 t r x y q) (can2 t ⟨W,H,px⟩ x y q top) k).zs wr) (fun _ i _=>(3-intOf i).toNat)
 case atStart=>exact⟨0,by omega,rfl,fun _=>rfl,fun k hk=>by omega,N0⟩
 case round =>
  obtain⟨K,hK,rfl,hl0,hl1,M0⟩:=hrel;clear N0;obtain rfl|rfl|rfl|rfl:K=0∨K=1∨K=2∨K=3:=by omega
  ·obtain rfl:=hl0 rfl;clear hl0 hl1;have hd:decide ((0:Int)<3)=true:=by decide
   obtain⟨-,e0,e1,e2,-⟩:=bx3 M0.fs;go_wp2_with fail
   refine(Lt _).mono ?_
   rintro e w2 ⟨rfl,E2⟩
   rw[←Ja];have M1:=M0.e E2;clear e0 e1 e2 M0 E2;obtain⟨mk,hmk⟩:∃ m,m=mac0:=⟨_,rfl⟩;have hok:mk.ok:=by rw[hmk];exact Ie
   have hvl:mk.valid:=by rw[hmk];exact If
   have Hml:=Aa (Mac.zs_len hok);have Hok:=Aa hok;have Hvl:=Aa hvl;rw[←hmk];have Hmk:=Aa hmk;clear hmk hok hvl;have M2:=M1.e (Ext.alloc w2 (.cells (ic (zl 71)) 50));have i0:=IB.new w2 50 (zl 71);have hQX:=M1.be.lt;obtain⟨X,hX⟩:∃ X,X=w2.heap.size:=⟨_,rfl⟩;rw[←hX]at i0 hQX;have HX:=Aa hX.symm;clear hX M1;go_upto_region 7 with(first|(refine Au 50 rfl rfl 71 Bf ?_;rw[HX.out])|(refine Af 50 _ _ rfl rfl i0 0 71 rfl _ rfl mk.zs rfl Ah Hml.out (by rw[AB];omega) ?_;intro w3 i3 g3;refine Hid.out ?_))
   rw[Ap (by rw[Hml.out,AB])]at i3;have M3:=M2.gr g3 hQX;clear M2 i0 g3 HX;refine Aa ?_;go_wp2_with (refine Ab 50 _ rfl rfl i3 0 71 rfl _ Ro rfl Ah (by rw[Hml.out];omega) _ (by rw[Ak _ _ Hml.out]) ?_)
   refine(HC4.out mk _ (hT.ext M3.ex) M3.c7 Hok.out Hvl.out (s.ext M3.ex) (u.ext M3.ex) (v.ext M3.ex)).mono ?_
   rintro e w4 ⟨rfl,e4⟩
   have M4:=M3.e e4;have i4:=i3.ext e4;have hCr:=HK.out mk Hok.out Hvl.out;obtain⟨C,hC⟩:∃ C,C=cst t r ⟨W,H,px⟩ x y q top (mk):=⟨_,rfl⟩;rw[←hC]at hCr⊢;have HCc:=Aa hC;clear hC M3 i3 e4;have Hpl:=Aa (Mac.zs_len Ie);have Hs2:stC t r ⟨W,H,px⟩ x y q top (can1 t r x y q) (can2 t ⟨W,H,px⟩ x y q top) 0=mk:=Hmk.out.symm;have Hs:=Hs2;have be:=M4.be;go_wp2_with (first|(refine Ab 50 _ rfl rfl i4 0 71 rfl _ Ro rfl Ah (by rw[Hml.out];omega) _ (by rw[Ak _ _ Hml.out]) ?_)|(refine Af 50 _ _ rfl rfl be 0 71 rfl _ rfl mk.zs rfl Ah Hml.out (by rw[Hpl.out];omega) ?_;intro w5 i5 g5;refine Hid.out ?_))
   rw[Ap (by rw[Hml.out,Hpl.out])]at i5;have M5:=M4.set i5 g5;refine Aa ?_;go_wp2;go_roundw
   case rel=>exact⟨1,by omega,by go_num,fun h=>by omega,fun k hk=>by obtain rfl:k=0:=(by omega);rw[Hs,HCc.out],by rw[show(match 1 with|0=>mac0|k+1=>stC t r ⟨W,H,px⟩ x y q top (can1 t r x y q) (can2 t ⟨W,H,px⟩ x y q top) k)=mk from Hs2];exact M5⟩
   case measure=>simp[intOf]
  ·obtain rfl:=hl1 0 rfl;clear hl0 hl1;have M0:ME w B (R+1) R g t r W H a b b2 n c l d l2 d2 x y q top (stC t r ⟨W,H,px⟩ x y q top (can1 t r x y q) (can2 t ⟨W,H,px⟩ x y q top) 0).zs wr:=M0;obtain⟨D,hD⟩:∃ D,D=cst t r ⟨W,H,px⟩ x y q top (stC t r ⟨W,H,px⟩ x y q top (can1 t r x y q) (can2 t ⟨W,H,px⟩ x y q top) 0):=⟨_,rfl⟩;rw[←hD];have HDd:=Aa hD;clear hD;have hd:decide ((1:Int)<3)=true:=by decide
   obtain⟨-,e0,e1,e2,-⟩:=bx3 M0.fs;go_wp2_with fail
   refine(HC2.out _ (hT.ext M0.ex) M0.c7 (s.ext M0.ex) (u.ext M0.ex) (v.ext M0.ex)).mono ?_
   rintro e w2 ⟨rfl,E2⟩
   have M1:=M0.e E2;clear e0 e1 e2 M0 E2;obtain⟨mk,hmk⟩:∃ m,m=(can1 t r x y q):=⟨_,rfl⟩;have hok:mk.ok:=by rw[hmk];exact(Ge _ _ _ _ _)
   have hvl:mk.valid:=by rw[hmk];exact v1.out
   have Hml:=Aa (Mac.zs_len hok);have Hok:=Aa hok;have Hvl:=Aa hvl;rw[←hmk];have Hmk:=Aa hmk;clear hmk hok hvl;have M2:=M1.e (Ext.alloc w2 (.cells (ic (zl 71)) 50));have i0:=IB.new w2 50 (zl 71);have hQX:=M1.be.lt;obtain⟨X,hX⟩:∃ X,X=w2.heap.size:=⟨_,rfl⟩;rw[←hX]at i0 hQX;have HX:=Aa hX.symm;clear hX M1;go_upto_region 7 with(first|(refine Au 50 rfl rfl 71 Bf ?_;rw[HX.out])|(refine Af 50 _ _ rfl rfl i0 0 71 rfl _ rfl mk.zs rfl Ah Hml.out (by rw[AB];omega) ?_;intro w3 i3 g3;refine Hid.out ?_))
   rw[Ap (by rw[Hml.out,AB])]at i3;have M3:=M2.gr g3 hQX;clear M2 i0 g3 HX;refine Aa ?_;go_wp2_with (refine Ab 50 _ rfl rfl i3 0 71 rfl _ Ro rfl Ah (by rw[Hml.out];omega) _ (by rw[Ak _ _ Hml.out]) ?_)
   refine(HC4.out mk _ (hT.ext M3.ex) M3.c7 Hok.out Hvl.out (s.ext M3.ex) (u.ext M3.ex) (v.ext M3.ex)).mono ?_
   rintro e w4 ⟨rfl,e4⟩
   have M4:=M3.e e4;have i4:=i3.ext e4;have hCr:=HK.out mk Hok.out Hvl.out;obtain⟨C,hC⟩:∃ C,C=cst t r ⟨W,H,px⟩ x y q top (mk):=⟨_,rfl⟩;rw[←hC]at hCr⊢;have HCc:=Aa hC;clear hC M3 i3 e4;have Hsv:=Aa (JY (t:=t) (r:=r) (p:=⟨W,H,px⟩) (x:=x) (y:=y) (q:=q) (top:=top) (Ge t r x y q) (Gf t ⟨W,H,px⟩ x y q top) 0);have Hpl:=Aa (Mac.zs_len Hsv.out);have hDr:=HK.out _ Hsv.out (KF v1.out v2.out 0);rw[←HDd.out]at hDr;have Hst:=Aa (show stC t r ⟨W,H,px⟩ x y q top (can1 t r x y q) (can2 t ⟨W,H,px⟩ x y q top) 1=if cst t r ⟨W,H,px⟩ x y q top (mk)<cst t r ⟨W,H,px⟩ x y q top (stC t r ⟨W,H,px⟩ x y q top (can1 t r x y q) (can2 t ⟨W,H,px⟩ x y q top) 0)then mk else stC t r ⟨W,H,px⟩ x y q top (can1 t r x y q) (can2 t ⟨W,H,px⟩ x y q top) 0 by rw[Hmk.out];rfl);rw[←HCc.out,←HDd.out]at Hst;have f0:decide (D<0)=false:=by simp;omega
   by_cases hlt:C<D
   ·have f1:decide (C<D)=true:=by simpa using hlt
    have Hs:=Hst.out.trans (if_pos hlt);have Hs2:=Hs;have HsH:=Aa Hs;clear Hs Hs2 Hst;have be:=M4.be;go_wp2_with (first|(refine Ab 50 _ rfl rfl i4 0 71 rfl _ Ro rfl Ah (by rw[Hml.out];omega) _ (by rw[Ak _ _ Hml.out]) ?_)|(refine Af 50 _ _ rfl rfl be 0 71 rfl _ rfl mk.zs rfl Ah Hml.out (by rw[Hpl.out];omega) ?_;intro w5 i5 g5;refine Hid.out ?_))
    rw[Ap (by rw[Hml.out,Hpl.out])]at i5;have M5:=M4.set i5 g5;refine Aa ?_;go_wp2;go_roundw
    case rel=>exact⟨2,by omega,by go_num,fun h=>by omega,fun k hk=>by obtain rfl:k=1:=(by omega);rw[HsH.out,HCc.out],by rw[show(match 2 with|0=>mac0|k+1=>stC t r ⟨W,H,px⟩ x y q top (can1 t r x y q) (can2 t ⟨W,H,px⟩ x y q top) k)=mk from HsH.out];exact M5⟩
    case measure=>simp[intOf]
   ·have f1:decide (C<D)=false:=by simpa using hlt
    have HsH:=Aa (Hst.out.trans (if_neg hlt));clear Hst;go_wp2;go_roundw
    case rel=>exact⟨2,by omega,by go_num,fun h=>by omega,fun k hk=>by obtain rfl:k=1:=(by omega);rw[HsH.out,HDd.out],by rw[show(match 2 with|0=>mac0|k+1=>stC t r ⟨W,H,px⟩ x y q top (can1 t r x y q) (can2 t ⟨W,H,px⟩ x y q top) k)=stC t r ⟨W,H,px⟩ x y q top (can1 t r x y q) (can2 t ⟨W,H,px⟩ x y q top) 0 from HsH.out];exact M4⟩
    case measure=>simp[intOf]
  ·obtain rfl:=hl1 1 rfl;clear hl0 hl1;have M0:ME w B (R+1) R g t r W H a b b2 n c l d l2 d2 x y q top (stC t r ⟨W,H,px⟩ x y q top (can1 t r x y q) (can2 t ⟨W,H,px⟩ x y q top) 1).zs wr:=M0;obtain⟨D,hD⟩:∃ D,D=cst t r ⟨W,H,px⟩ x y q top (stC t r ⟨W,H,px⟩ x y q top (can1 t r x y q) (can2 t ⟨W,H,px⟩ x y q top) 1):=⟨_,rfl⟩;rw[←hD];have HDd:=Aa hD;clear hD;have hd:decide ((2:Int)<3)=true:=by decide
   obtain⟨-,e0,e1,e2,-⟩:=bx3 M0.fs;go_wp2_with fail
   refine(HC3.out _ (hT.ext M0.ex) M0.c7 (s.ext M0.ex) (u.ext M0.ex) (v.ext M0.ex)).mono ?_
   rintro e w2 ⟨rfl,E2⟩
   have M1:=M0.e E2;clear e0 e1 e2 M0 E2;obtain⟨mk,hmk⟩:∃ m,m=(can2 t ⟨W,H,px⟩ x y q top):=⟨_,rfl⟩;have hok:mk.ok:=by rw[hmk];exact(Gf _ _ _ _ _ _)
   have hvl:mk.valid:=by rw[hmk];exact v2.out
   have Hml:=Aa (Mac.zs_len hok);have Hok:=Aa hok;have Hvl:=Aa hvl;rw[←hmk];have Hmk:=Aa hmk;clear hmk hok hvl;have M2:=M1.e (Ext.alloc w2 (.cells (ic (zl 71)) 50));have i0:=IB.new w2 50 (zl 71);have hQX:=M1.be.lt;obtain⟨X,hX⟩:∃ X,X=w2.heap.size:=⟨_,rfl⟩;rw[←hX]at i0 hQX;have HX:=Aa hX.symm;clear hX M1;go_upto_region 7 with(first|(refine Au 50 rfl rfl 71 Bf ?_;rw[HX.out])|(refine Af 50 _ _ rfl rfl i0 0 71 rfl _ rfl mk.zs rfl Ah Hml.out (by rw[AB];omega) ?_;intro w3 i3 g3;refine Hid.out ?_))
   rw[Ap (by rw[Hml.out,AB])]at i3;have M3:=M2.gr g3 hQX;clear M2 i0 g3 HX;refine Aa ?_;go_wp2_with (refine Ab 50 _ rfl rfl i3 0 71 rfl _ Ro rfl Ah (by rw[Hml.out];omega) _ (by rw[Ak _ _ Hml.out]) ?_)
   refine(HC4.out mk _ (hT.ext M3.ex) M3.c7 Hok.out Hvl.out (s.ext M3.ex) (u.ext M3.ex) (v.ext M3.ex)).mono ?_
   rintro e w4 ⟨rfl,e4⟩
   have M4:=M3.e e4;have i4:=i3.ext e4;have hCr:=HK.out mk Hok.out Hvl.out;obtain⟨C,hC⟩:∃ C,C=cst t r ⟨W,H,px⟩ x y q top (mk):=⟨_,rfl⟩;rw[←hC]at hCr⊢;have HCc:=Aa hC;clear hC M3 i3 e4;have Hsv:=Aa (JY (t:=t) (r:=r) (p:=⟨W,H,px⟩) (x:=x) (y:=y) (q:=q) (top:=top) (Ge t r x y q) (Gf t ⟨W,H,px⟩ x y q top) 1);have Hpl:=Aa (Mac.zs_len Hsv.out);have hDr:=HK.out _ Hsv.out (KF v1.out v2.out 1);rw[←HDd.out]at hDr;have Hst:=Aa (show stC t r ⟨W,H,px⟩ x y q top (can1 t r x y q) (can2 t ⟨W,H,px⟩ x y q top) 2=if cst t r ⟨W,H,px⟩ x y q top (mk)<cst t r ⟨W,H,px⟩ x y q top (stC t r ⟨W,H,px⟩ x y q top (can1 t r x y q) (can2 t ⟨W,H,px⟩ x y q top) 1)then mk else stC t r ⟨W,H,px⟩ x y q top (can1 t r x y q) (can2 t ⟨W,H,px⟩ x y q top) 1 by rw[Hmk.out];rfl);rw[←HCc.out,←HDd.out]at Hst;have f0:decide (D<0)=false:=by simp;omega
   by_cases hlt:C<D
   ·have f1:decide (C<D)=true:=by simpa using hlt
    have Hs:=Hst.out.trans (if_pos hlt);have Hs2:=Hs;have HsH:=Aa Hs;clear Hs Hs2 Hst;have be:=M4.be;go_wp2_with (first|(refine Ab 50 _ rfl rfl i4 0 71 rfl _ Ro rfl Ah (by rw[Hml.out];omega) _ (by rw[Ak _ _ Hml.out]) ?_)|(refine Af 50 _ _ rfl rfl be 0 71 rfl _ rfl mk.zs rfl Ah Hml.out (by rw[Hpl.out];omega) ?_;intro w5 i5 g5;refine Hid.out ?_))
    rw[Ap (by rw[Hml.out,Hpl.out])]at i5;have M5:=M4.set i5 g5;refine Aa ?_;go_wp2;go_roundw
    case rel=>exact⟨3,by omega,by go_num,fun h=>by omega,fun k hk=>by obtain rfl:k=2:=(by omega);rw[HsH.out,HCc.out],by rw[show(match 3 with|0=>mac0|k+1=>stC t r ⟨W,H,px⟩ x y q top (can1 t r x y q) (can2 t ⟨W,H,px⟩ x y q top) k)=mk from HsH.out];exact M5⟩
    case measure=>simp[intOf]
   ·have f1:decide (C<D)=false:=by simpa using hlt
    have HsH:=Aa (Hst.out.trans (if_neg hlt));clear Hst;go_wp2;go_roundw
    case rel=>exact⟨3,by omega,by go_num,fun h=>by omega,fun k hk=>by obtain rfl:k=2:=(by omega);rw[HsH.out,HDd.out],by rw[show(match 3 with|0=>mac0|k+1=>stC t r ⟨W,H,px⟩ x y q top (can1 t r x y q) (can2 t ⟨W,H,px⟩ x y q top) k)=stC t r ⟨W,H,px⟩ x y q top (can1 t r x y q) (can2 t ⟨W,H,px⟩ x y q top) 1 from HsH.out];exact M4⟩
    case measure=>simp[intOf]
  ·obtain rfl:=hl1 2 rfl;clear hl0 hl1;have M0:ME w B (R+1) R g t r W H a b b2 n c l d l2 d2 x y q top (chM t r ⟨W,H,px⟩ x y q top).zs wr:=M0;have hd:decide ((3:Int)<3)=false:=by decide
   obtain⟨Z,hZ⟩:∃ Z,Z=(chM t r ⟨W,H,px⟩ x y q top).zs:=⟨_,rfl⟩;have Hrl:=Aa (show Z.length=71 by rw[hZ];exact Mac.zs_len (KQ _ _ _ _ _ _ _));rw[←hZ]at M0;have HRR:=Aa hZ;clear hZ;obtain⟨D,hD⟩:∃ D,D=cst t r ⟨W,H,px⟩ x y q top (stC t r ⟨W,H,px⟩ x y q top (can1 t r x y q) (can2 t ⟨W,H,px⟩ x y q top) 2):=⟨_,rfl⟩;rw[←hD];clear hD;have be:=M0.be;have rs:=M0.rs;have hex:=M0.ex;have hod:=M0.od;clear M0;go_wp2_with (first|(refine Ab 50 _ rfl rfl be 0 71 rfl _ Ro rfl Ah (by rw[Hrl.out];omega) _ (by rw[Ak _ _ Hrl.out]) ?_)|(refine Af 50 _ _ rfl rfl rs 0 71 rfl _ rfl Z rfl Ah Hrl.out (by rw[AB];omega) ?_;intro w6 p6 g6;refine Hid.out ?_))
   rw[Ap (by rw[Hrl.out,AB])]at p6;have E6:Ext w w6:=Ext.grown hex g6 (fun q hq=>by cases hq;omega);refine Aa ?_;go_wp2;exact bodyPost_ret (v := .agg (ic Z)) (results_cell_row rfl _ _ R 50 (ic Z) (0,0) _ rfl p6 Ro rfl (by rw[AJ,Hrl.out];exact Ah)) rfl ⟨by rw[HRR.out],E6⟩
def okCh (t r p:Pic)(x y q top:Int):Prop:=AS t r∧AS t p∧BJ t x y∧(0≤q∧q≤15)∧(0≤top∧top≤y)
noncomputable instance (t r p : Pic) (x y q top : Int) : Decidable (okCh t r p x y q top) := Classical.propDecidable _
noncomputable def chP (t r p : Pic)(x y q top : Int): Mac := if okCh t r p x y q top then chM t r p x.toNat y.toNat q.toNat top else mac0
theorem Ny {t r p:Pic}{x y q top:Int}(h:okCh t r p x y q top):chP t r p x y q top=chM t r p x.toNat y.toNat q.toNat top:=if_pos h
end Go.Proofs.YtijnbalgnhigbaaGreatDoor
namespace Go.Proofs.YtijnbalgnhigbaaGreatDoor

def incR : List Int→List Int
 | [] => []
 | x::t=>if x=255 then 0::incR t else(x+1)::t
def inc (l:List Int):List Int:=(incR l.reverse).reverse
def valR : List Int→Int
 | []=>0
 | x::t=>x+256*valR t
def valB (l:List Int):Int:=valR l.reverse
def bytL (l:List Int):Prop:=∀ x∈l,0≤x∧x≤255
theorem Pg (l:List Int):(incR l).length=l.length:=by
 induction l with
 | nil=>rfl
 | cons x t ih=>unfold incR;split <;> simp[ih]
theorem Qf (l:List Int):(inc l).length=l.length:=by simp[inc,Pg]
theorem Pf {l:List Int}(h:bytL l):bytL (incR l):=by
 induction l with
 | nil=>exact h
 | cons x t ih =>
  have hx:=h x (by simp);have ht:bytL t:=fun y hy=>h y (by simp[hy])
  unfold incR
  split
  ·intro y hy;rcases List.mem_cons.1 hy with rfl|hy
   ·omega
   ·exact ih ht y hy
  ·intro y hy;rcases List.mem_cons.1 hy with rfl|hy
   ·omega
   ·exact ht y hy
theorem Jv {l:List Int}(h:bytL l):bytL l.reverse:=fun y hy=>h y (by simpa using hy)
theorem Qe {l:List Int}(h:bytL l):bytL (inc l):=Jv (Pf (Jv h))
theorem Qw {l:List Int}(h:bytL l):0≤valR l∧valR l<256^l.length:=by
 induction l with
 | nil=>simp[valR]
 | cons x t ih =>
  have hx:=h x (by simp);have ht:=ih (fun y hy=>h y (by simp[hy]));simp only[valR,List.length_cons,Int.pow_succ];omega
theorem PO {l:List Int}(h:bytL l)(hv:valR l+1<256^l.length):valR (incR l)=valR l+1:=by
 induction l with
 | nil=>simp[valR]at hv
 | cons x t ih =>
  have hx:=h x (by simp);have htb:bytL t:=fun y hy=>h y (by simp[hy])
  have ht:=Qw htb;simp only[valR,List.length_cons,Int.pow_succ]at hv;unfold incR
  split
  ·rename_i e
   have:=ih htb (by omega);simp only[valR];omega
  ·simp only[valR];omega
theorem Qd (m:Nat)(x:Int)(r:List Int)(hx:x≠255):incR (List.replicate m 255++x::r)=List.replicate m 0++(x+1)::r:=by
 induction m with
 | zero=>simp[incR,hx]
 | succ m ih=>simp[List.replicate_succ,incR,ih]
theorem Ph (l:List Int)(x:Int)(m:Nat)(hx:x≠255):inc (l++x::List.replicate m 255)=l++(x+1)::List.replicate m 0:=by
 have e:(l++x::List.replicate m 255).reverse=List.replicate m 255++x::l.reverse:=by simp
 unfold inc;rw[e,Qd m x _ hx];simp
theorem ML (l:List Int)(hv:∃ x∈l,x≠255):∃ m x r,l=List.replicate m 255++x::r∧x≠255:=by
 induction l with
 | nil=>obtain⟨x,hx,_⟩:=hv;cases hx
 | cons y t ih =>
  by_cases e:y=255
  ·subst e;obtain⟨m,x,r,h1,h2⟩:=ih (by
    obtain⟨x,hx,hn⟩:=hv;rcases List.mem_cons.1 hx with rfl|hx
    ·exact absurd rfl hn
    ·exact⟨x,hx,hn⟩)
   exact⟨m+1,x,r,by rw[h1];simp[List.replicate_succ],h2⟩
  ·exact⟨0,y,t,by simp,e⟩
theorem PP (m:Nat):valR (List.replicate m 255)+1=256^m:=by
 induction m with
 | zero=>rfl
 | succ m ih=>simp only[List.replicate_succ,valR,Int.pow_succ];omega
theorem Kv {l:List Int}(hv:valB l+1<256^l.length):∃ r x m,l=r++x::List.replicate m 255∧x≠255:=by
 by_cases h:∃ x∈l.reverse,x≠255
 ·obtain⟨m,x,r,h1,h2⟩:=ML _ h;refine⟨r.reverse,x,m,?_,h2⟩;have:=congrArg List.reverse h1
  simpa using this
 ·have h0:l.reverse=List.replicate l.length 255:=List.eq_replicate_iff.2 ⟨by simp,fun b hb=>Classical.byContradiction fun hn=>h ⟨b,hb,hn⟩⟩;have:=PP l.length;unfold valB at hv;rw[h0]at hv;omega
theorem PN {l:List Int}(h:bytL l)(hv:valB l+1<256^l.length):valB (inc l)=valB l+1:=by
 unfold valB inc at *;rw[List.reverse_reverse];exact PO (Jv h) (by simpa using hv)
theorem OS (l:List Int)(x:Int):valB (l ++ [x])=256*valB l+x:=by
 unfold valB;simp[valR];omega
structure Ac where
 low:Nat
 span:Nat
 out:List Int
 ch:List Nat
def Ac.lo (c:Ac):Nat:=if 4294967296≤c.low then c.low-4294967296 else c.low
def Ac.car (c:Ac):List Int:=if 4294967296≤c.low then inc c.out else c.out
def Ac.shift (c:Ac):Ac:=⟨c.lo%16777216*256,c.span,c.car ++ [((c.lo/16777216:Nat):Int)],c.ch⟩
def nch (p bit:Nat):Nat:=if bit=0 then p+(4096-p)/16 else p-p/16
def Ac.bnd (c:Ac)(x:Nat):Nat:=c.span/4096*c.ch.getD x 0
def Ac.upd (c:Ac)(x bit:Nat):Ac :=
 if bit=0 then⟨c.low,c.bnd x,c.out,c.ch.set x (nch (c.ch.getD x 0) bit)⟩else⟨c.low+c.bnd x,c.span-c.bnd x,c.out,c.ch.set x (nch (c.ch.getD x 0) bit)⟩
def Ac.wide (c:Ac):Ac := { c.shift with span:=c.span*256 }
def Ac.norm : Nat→Ac→Ac
 | 0,c=>c
 | k+1,c=>if c.span<16777216 then Ac.norm k c.wide else c
def Ac.put (c:Ac)(b:Nat×Nat):Ac:=Ac.norm 3 (c.upd b.1 b.2)
def Ac.init : Ac:=⟨0,4294967295,[],List.replicate 40 2048⟩
def encC (l:List (Nat×Nat)):Ac:=l.foldl Ac.put Ac.init
def encL (l:List (Nat×Nat)):List Int:=(encC l).shift.shift.shift.shift.out
def Ac.inv (c:Ac)(s:Nat):Prop:=bytL c.out∧c.low+s<8589934592∧valB c.out*4294967296+c.low+s≤256^c.out.length*4294967296
def Ac.chk (c:Ac):Prop:=c.ch.length=40∧∀ x∈c.ch,1≤x∧x≤4095
theorem Ac.car_len (c:Ac):c.car.length=c.out.length:=by unfold Ac.car;split <;> simp[Qf]
theorem Ac.carry {c:Ac}{s:Nat}(h:c.inv s)(hs:0<s)(hl:4294967296≤c.low):valB c.out+1<256^c.out.length:=by
 obtain⟨_,h2,h3⟩:=h;omega
theorem Ac.lo_lt {c:Ac}{s:Nat}(h:c.inv s):c.lo<4294967296:=by
 obtain⟨_,h2,h3⟩:=h;unfold Ac.lo
 split <;> omega
theorem Ac.car_ok {c:Ac}{s:Nat}(h:c.inv s)(hs:0<s):bytL c.car∧valB c.car*4294967296+c.lo=valB c.out*4294967296+c.low:=by
 unfold Ac.car Ac.lo
 by_cases hl:4294967296≤c.low
 ·rw[if_pos hl,if_pos hl];refine⟨Qe h.1,?_⟩;rw[PN h.1 (Ac.carry h hs hl)];omega
 ·rw[if_neg hl,if_neg hl];exact⟨h.1,rfl⟩
theorem Ac.shift_inv {c:Ac}{s:Nat}(h:c.inv s)(hs:0<s)(hs2:s<16777216):c.shift.inv (s*256):=by
 obtain⟨h1,h2⟩:=Ac.car_ok h hs;have h3:=Ac.lo_lt h;have h4:=h.2.2;refine⟨fun x hx => ?_,?_,?_⟩
 ·rcases List.mem_append.1 hx with hx|hx
  ·exact h1 x hx
  ·simp at hx;omega
 ·show c.lo%16777216*256+s*256<8589934592;omega
 ·show valB (c.car ++ [((c.lo/16777216:Nat):Int)])*4294967296+((c.lo%16777216*256:Nat):Int)+((s*256:Nat):Int)≤256^(c.car ++ [((c.lo/16777216:Nat):Int)]).length*4294967296;rw[OS,List.length_append,Ac.car_len];simp only[List.length_cons,List.length_nil,Int.pow_succ];omega
theorem Ql {p bit:Nat}(h1:1≤p)(h2:p≤4095):1≤nch p bit∧nch p bit≤4095:=by
 unfold nch
 split <;> omega
theorem Ac.bnd_rng {c:Ac}(h:c.chk)(h1:16777216≤c.span)(h2:c.span<4294967296){x:Nat}(hx:x<40):1≤c.bnd x∧c.bnd x<c.span∧1≤c.span/4096∧c.span/4096<1048576∧1≤c.ch.getD x 0∧c.ch.getD x 0≤4095:=by
 have hm:c.ch.getD x 0∈c.ch:=by
  have hl:x<c.ch.length:=by rw[h.1];exact hx
  rw[List.getD,List.getElem?_eq_getElem hl];exact List.getElem_mem _
 obtain⟨a,b⟩:=h.2 _ hm;unfold Ac.bnd;generalize c.ch.getD x 0=p at *;generalize hq:c.span/4096=q at *;have hq1:4096≤q:=by omega
 have h3:q*1≤q*p:=Nat.mul_le_mul_left q a;have h4:q*p≤q*4095:=Nat.mul_le_mul_left q b;omega
theorem Ac.upd_chk {c:Ac}(h:c.chk){x bit:Nat}(hx:x<40):(c.upd x bit).chk:=by
 have hm:c.ch.getD x 0∈c.ch:=by
  have hl:x<c.ch.length:=by rw[h.1];exact hx
  rw[List.getD,List.getElem?_eq_getElem hl];exact List.getElem_mem _
 obtain⟨a,b⟩:=h.2 _ hm;have:(c.ch.set x (nch (c.ch.getD x 0) bit)).length=40∧∀ y∈c.ch.set x (nch (c.ch.getD x 0) bit),1≤y∧y≤4095:=by
  refine⟨by rw[List.length_set];exact h.1,fun y hy => ?_⟩;rcases List.mem_or_eq_of_mem_set hy with hy|rfl
  ·exact h.2 y hy
  ·exact Ql a b
 unfold Ac.upd
 split <;> exact this
theorem Ac.upd_inv {c:Ac}(h:c.inv c.span)(hc:c.chk)(h1:16777216≤c.span)(h2:c.span<4294967296){x bit:Nat}(hx:x<40):(c.upd x bit).inv (c.upd x bit).span∧1≤(c.upd x bit).span∧(c.upd x bit).span<4294967296:=by
 obtain⟨b1,b2,-⟩:=Ac.bnd_rng hc h1 h2 hx;obtain⟨i1,i2,i3⟩:=h;unfold Ac.upd
 split
 ·exact⟨⟨i1,by show c.low+c.bnd x<_;omega,by show valB c.out*4294967296+(c.low:Int)+(c.bnd x:Nat)≤256^c.out.length*4294967296;omega⟩,by show 1≤c.bnd x;omega,by show c.bnd x<_;omega⟩
 ·refine⟨⟨i1,?_,?_⟩,?_,?_⟩
  ·show c.low+c.bnd x+(c.span-c.bnd x)<_;omega
  ·show valB c.out*4294967296+((c.low+c.bnd x:Nat):Int)+((c.span-c.bnd x:Nat):Int)≤256^c.out.length*4294967296;omega
  ·show 1≤c.span-c.bnd x;omega
  ·show c.span-c.bnd x<_;omega
theorem Ac.wide_inv {c:Ac}(h:c.inv c.span)(h1:1≤c.span)(h2:c.span<16777216):c.wide.inv c.wide.span:=Ac.shift_inv h h1 h2
theorem Ac.norm_ok (k:Nat):∀ {c:Ac},c.inv c.span→1≤c.span→c.span<4294967296→16777216≤c.span*256^k→c.chk →
 (Ac.norm k c).inv (Ac.norm k c).span∧16777216≤(Ac.norm k c).span∧(Ac.norm k c).span<4294967296∧(Ac.norm k c).chk∧(Ac.norm k c).out.length≤c.out.length+k:=by
 induction k with
 | zero=>intro c h h1 h2 h3 hc;simp at h3;exact⟨h,h3,h2,hc,Nat.le_refl _⟩
 | succ k ih =>
  intro c h h1 h2 h3 hc;unfold Ac.norm
  split
  ·rename_i hl
   have:=ih (c:=c.wide) (Ac.wide_inv h h1 hl) (by show 1≤c.span*256;omega) (by show c.span*256<_;omega) (by show 16777216≤c.span*256*256^k;rw[Nat.pow_succ]at h3;rw[Nat.mul_assoc,Nat.mul_comm 256];exact h3) hc;obtain⟨a,b,d,e,f⟩:=this;refine⟨a,b,d,e,?_⟩;have:c.wide.out.length=c.out.length+1:=by show(c.car ++ [_]).length=_;rw[List.length_append,Ac.car_len];rfl
   omega
  ·rename_i hl
   exact⟨h,by omega,h2,hc,by omega⟩
def Ac.good (c:Ac):Prop:=c.inv c.span∧16777216≤c.span∧c.span<4294967296∧c.chk
theorem Ac.put_ok {c:Ac}(h:c.good){b:Nat×Nat}(hb:b.1<40):(c.put b).good∧(c.put b).out.length≤c.out.length+3:=by
 obtain⟨a1,a2,a3⟩:=Ac.upd_inv h.1 h.2.2.2 h.2.1 h.2.2.1 (bit:=b.2) hb;obtain⟨b1,b2,b3,b4,b5⟩:=Ac.norm_ok 3 a1 a2 a3 (by omega) (Ac.upd_chk h.2.2.2 hb);have:(c.upd b.1 b.2).out=c.out:=by unfold Ac.upd;split <;> rfl
 rw[this]at b5;exact⟨⟨b1,b2,b3,b4⟩,b5⟩
theorem Ac.init_good : Ac.init.good:=by
 refine⟨⟨fun x hx=>(by cases hx),by decide,by decide⟩,by decide,by decide,by decide,fun x hx => ?_⟩;have:=(List.mem_replicate.1 hx).2;omega
theorem Ht (l:List (Nat×Nat))(h:∀ b∈l,b.1<40):(encC l).good∧(encC l).out.length≤3*l.length:=by
 suffices ∀(c:Ac) (k:Nat),c.good→c.out.length≤k→(l.foldl Ac.put c).good∧(l.foldl Ac.put c).out.length≤k+3*l.length by
  have:=this Ac.init 0 Ac.init_good (by decide);rw[Nat.zero_add]at this;exact this
 induction l with
 | nil=>intro c k h1 h2;exact⟨h1,by simpa using h2⟩
 | cons b l ih =>
  intro c k h1 h2;obtain⟨g1,g2⟩:=Ac.put_ok h1 (h b (by simp));have:=ih (fun x hx=>h x (by simp[hx])) (c.put b) (k+3) g1 (by omega);rw[List.foldl_cons];refine⟨this.1,?_⟩;have:=this.2;simp only[List.length_cons];omega
end Go.Proofs.YtijnbalgnhigbaaGreatDoor
namespace Go.Proofs.YtijnbalgnhigbaaGreatDoor
open Go.RowKit
theorem DU (p bit:Nat)(w:World)(h1:1≤p)(h2:p≤4095)(hb:bit≤1):
 Calls Tryz.prog 148 #[.int .i64 p,.int .i64 bit] w fun e w'=>e= .returned (.int .i64 (nch p bit))∧w=w':=by
 have hn:(nch p bit:Int)=if bit=0 then(p:Int)+(4096-p)/16 else(p:Int)-p/16:=by
  unfold nch
  split <;> omega
 have Hn:=Aa hn;clear hn;go_enter Tryz.func148,Tryz.ntmps148
 go_wp2_with fail
 refine(Az _ _ _ _ (by omega) (by omega)).mono ?_
 rintro e w1 ⟨rfl,rfl⟩
 go_wp2_with fail
 refine(Az _ _ _ _ (by omega) (by omega)).mono ?_
 rintro e w1 ⟨rfl,rfl⟩
 by_cases h0:bit=0
 ·have hd:decide ((bit:Int)=0)=true:=by simp;omega
  go_wp2;go_ret
  exact⟨by rw[Hn.out,if_pos h0];congr 2 <;> omega,rfl⟩
 ·have hd:decide ((bit:Int)=0)=false:=by simp;omega
  go_wp2;go_ret
  exact⟨by rw[Hn.out,if_neg h0];congr 2 <;> omega,rfl⟩
theorem Hd (w:World):
 Calls Tryz.prog 131 #[] w fun e w'=>∃ v,e= .returned v∧w'.ownsRow w.heap.size 3 1 v 40 ((List.replicate 40 (2048:Int)).map (Value.int .i64))∧Ext w w':=by
 go_enter Tryz.func131,Tryz.ntmps131
 have E1:Ext w (w.alloc (.cells #[] 3)):=(Below.refl _ _).alloc (Nat.le_refl _) _;have hown:=World.ownsRow_made (base:=w.heap.size) (e:=3) (size:=1) w #[] 0 (Nat.le_refl _) (by simp) rfl;go_wp2_with fail
 go_loopw [1,2] (fun v i wr=>∃ k:Nat,k≤40∧i= .int .i64 k∧Ext w wr∧wr.ownsRow w.heap.size 3 1 v k ((List.replicate k (2048:Int)).map (Value.int .i64))) (fun _ i _=>40-(intOf i).toNat)
 case atStart=>exact⟨0,by omega,rfl,E1,by simpa using hown⟩
 case round =>
  obtain⟨k,hk,rfl,E2,hown2⟩:=hrel;clear hown E1
  by_cases hlt:k<40
  ·have hsz:=E2.size;go_wp2_with (at_builtin;refine CH _ hown2 hsz _ rfl _ _ 22 rfl (.int .i64 0) 8 Rv Cp rfl rfl rfl rfl (by omega) (by omega) ?_;intro v2 w2 own3 gr2 _)
   go_roundw
   case rel =>
    refine⟨k+1,by omega,rfl,Ext.grown E2 gr2 (Bt hown2),?_⟩;rw[List.replicate_succ',List.map_append];exact own3
   case measure=>simp[intOf];omega
  ·obtain rfl:k=40:=by omega
   have hd:decide (((40:Nat):Int)<40)=false:=by simp
   go_wp2;go_ret
   exact⟨_,rfl,hown2,E2⟩
def u8s (l:List Int):List Value:=l.map (Value.int .u8)
def ch64 (l:List Nat):List Value:=l.map (fun(k:Nat)=>Value.int .i64 (k:Int))
structure CM (w : World) (H O : Nat) (c : Ac) (vo vc : Value) : Prop where
 bk:w.heap[O]?=some (.cells #[.int .i64 (c.low:Int),.int .i64 (c.span:Int),vo,vc] 145 (0,0))
 ro:w.ownsRow H 5 1 vo c.out.length (u8s c.out)
 rc:w.ownsRow H 3 1 vc 40 (ch64 c.ch)
 hO:H≤O
 hs:H≤w.heap.size
theorem neO {w:World}{H O n e:Nat}{v:Value}{xs:List Value}{arr:Array Value}(h:w.ownsRow H e 1 v n xs)(hq:w.heap[O]?=some (.cells arr 145 (0,0)))(hne:e≠145):v.ownBlock≠some O:=by
 rcases AU h hq hne with h0|h0
 ·rw[h0];exact fun h=>by cases h
 ·exact h0
theorem CM.oO {w:World}{H O:Nat}{c:Ac}{vo vc:Value}(h:CM w H O c vo vc):vo.ownBlock≠some O:=neO h.ro h.bk (by decide)
theorem CM.cO {w:World}{H O:Nat}{c:Ac}{vo vc:Value}(h:CM w H O c vo vc):vc.ownBlock≠some O:=neO h.rc h.bk (by decide)
theorem CM.low {w:World}{H O:Nat}{c:Ac}{vo vc:Value}(h:CM w H O c vo vc)(v:Nat):CM (w.setCell ⟨O,0,none⟩ (.int .i64 (v:Int))) H O ⟨v,c.span,c.out,c.ch⟩ vo vc:=by
 refine⟨?_,ownsRow_setCell_other h.ro h.oO _,ownsRow_setCell_other h.rc h.cO _,h.hO,by simpa using h.hs⟩;have:=heap_setCell_same w O 0 _ _ (.int .i64 (v:Int)) h.bk
 simpa using this
theorem CM.spn {w:World}{H O:Nat}{c:Ac}{vo vc:Value}(h:CM w H O c vo vc)(v:Nat):CM (w.setCell ⟨O,1,none⟩ (.int .i64 (v:Int))) H O ⟨c.low,v,c.out,c.ch⟩ vo vc:=by
 refine⟨?_,ownsRow_setCell_other h.ro h.oO _,ownsRow_setCell_other h.rc h.cO _,h.hO,by simpa using h.hs⟩;have:=heap_setCell_same w O 1 _ _ (.int .i64 (v:Int)) h.bk
 simpa using this
theorem FO {w:World}{b1 b2 e1 e2 s1 s2 n1 n2:Nat}{v1 v2:Value}{x1 x2:List Value}(h1:w.ownsRow b1 e1 s1 v1 n1 x1)(h2:w.ownsRow b2 e2 s2 v2 n2 x2)(hne:e1≠e2):v1.ownBlock=none∨v1.ownBlock≠v2.ownBlock:=by
 rcases h2.2 with⟨rfl,-⟩|⟨g',cap',cur',rfl,-,p2,-⟩
 ·rcases h1.2 with⟨rfl,-⟩|⟨g,cap,cur,rfl,-,p1,-⟩
  ·exact .inl rfl
  ·exact .inr (by simp[Value.ownBlock])
 ·exact AU h1 p2 hne
theorem CM.oc {w:World}{H O:Nat}{c:Ac}{vo vc:Value}(h:CM w H O c vo vc):vo.ownBlock=none∨vo.ownBlock≠vc.ownBlock:=FO h.ro h.rc (by decide)
theorem CM.byte {w:World}{H O g n cap:Nat}{c:Ac}{vc:Value}(h:CM w H O c (.slice (some ⟨g,0,none⟩) n cap) vc)(i:Nat)(v:Int):CM (w.setCell ⟨g,i,none⟩ (.int .u8 v)) H O ⟨c.low,c.span,c.out.set i v,c.ch⟩ (.slice (some ⟨g,0,none⟩) n cap) vc:=by
 have h1:=h.oO;have h2:=h.oc;have hn:n=c.out.length:=by rcases h.ro.2 with⟨h0,-⟩|⟨_,_,_,h0,-⟩ <;> cases h0 <;> rfl
 subst hn;refine⟨Ai h.bk (fun e=>h1 (by rw[e];rfl)),?_,ownsRow_setCell_other h.rc ?_ _,h.hO,by simpa using h.hs⟩
 ·have o2:=(h.ro.stored i (.int .u8 v)).1;unfold u8s at *;rw[←List.map_set]at o2
  simpa using o2
 ·rcases h2 with h2|h2
  ·cases h2
  ·exact fun e=>h2 (by rw[e];rfl)
theorem CM.app {w w2:World}{H O:Nat}{c:Ac}{vo vc v2:Value}{x:Int}(h:CM w H O c vo vc)(g:w.grownBy w2 vo.ownBlock)(o:w2.ownsRow H 5 1 v2 (c.out.length+1) (u8s c.out ++ [.int .u8 x])):CM (w2.setCell ⟨O,2,none⟩ v2) H O ⟨c.low,c.span,c.out ++ [x],c.ch⟩ v2 vc:=by
 have b2:=Ar h.bk g h.oO;have rc2:=h.rc.kept g (FO h.rc h.ro (by decide));refine⟨?_,?_,ownsRow_setCell_other rc2 (neO rc2 b2 (by decide)) _,h.hO,by have:=h.hs;have:=g.size;simp;omega⟩
 ·have:=heap_setCell_same w2 O 2 _ _ v2 b2
  simpa using this
 ·have o2:=ownsRow_setCell_other o (a:=⟨O,2,none⟩) (neO o b2 (by decide)) v2;have e:(c.out ++ [x]).length=c.out.length+1:=by simp
  show World.ownsRow _ _ _ _ _ (c.out ++ [x]).length _;rw[e];unfold u8s at *;rw[List.map_append];exact o2
theorem bx4 {w:World}{b:Nat}{x y z u:Value}{T:TypeId}(h:w.heap[b]?=some (.cells #[x,y,z,u] T (0,0))):b<w.heap.size∧(w.cell? ⟨b,0,none⟩=some x∧w.cell? ⟨b,1,none⟩=some y∧w.cell? ⟨b,2,none⟩=some z∧w.cell? ⟨b,3,none⟩=some u)∧w.frozen? ⟨b,0,none⟩=false∧w.frozen? ⟨b,1,none⟩=false∧w.frozen? ⟨b,2,none⟩=false∧w.frozen? ⟨b,3,none⟩=false :=
 ⟨lt_of_block h,⟨by simp[World.cell?,h],by simp[World.cell?,h],by simp[World.cell?,h],by simp[World.cell?,h]⟩,by simp[World.frozen?,h],by simp[World.frozen?,h],by simp[World.frozen?,h],by simp[World.frozen?,h]⟩
theorem gsO (w:World)(g o:Nat)(u:Value):w.grownBy (w.setCell ⟨g,o,none⟩ u) (some g):=⟨rfl,rfl,rfl,by simp,fun k _ hk=>heap_setCell_other w ⟨g,o,none⟩ k u (fun e=>hk (by simp[e]))⟩
theorem Jh {w w':World}{base e s n:Nat}{v:Value}{xs:List Value}{row:Option Nat}(h:w.ownsRow base e s v n xs)(g:w.grownBy w' row)(hb:∀ q,row=some q→q<base):w'.ownsRow base e s v n xs:=by
 refine h.kept g ?_;cases hv:v.ownBlock with
 | none=>exact .inl rfl
 | some k=>right;intro e;have h1:=Bt h k hv;have h2:=hb k e.symm;omega
theorem CM.ext {w w':World}{H O:Nat}{c:Ac}{vo vc:Value}(h:CM w H O c vo vc)(e:Ext w w'):CM w' H O c vo vc:=⟨e.blk h.bk,Ae h.ro e,Ae h.rc e,h.hO,Nat.le_trans h.hs e.size⟩
theorem CM.mk5 {w:World}{H O L S m:Nat}{out:List Int}{ch:List Nat}{x:Int}{vo vc:Value}(hb:w.heap[O]?=some (.cells #[.int .i64 (L:Int),.int .i64 (S:Int),vo,vc] 145 (0,0)))
 (ho:w.ownsRow H 5 1 vo (m+1) (u8s out ++ [.int .u8 x])) (hm:out.length=m) (hc:w.ownsRow H 3 1 vc 40 (ch64 ch)) (hO:H≤O) (hs:H≤w.heap.size):CM w H O ⟨L,S,out ++ [x],ch⟩ vo vc:=by
 refine⟨hb,?_,hc,hO,hs⟩;have e:(out ++ [x]).length=m+1:=by simp[hm]
 show World.ownsRow _ _ _ _ _ (out ++ [x]).length _;rw[e];unfold u8s at *;rw[List.map_append];exact ho
theorem CM.cellB {w:World}{H O g n cap:Nat}{c:Ac}{vc:Value}(h:CM w H O c (.slice (some ⟨g,0,none⟩) n cap) vc){i:Nat}{v:Int}(hv:c.out[i]?=some v):w.cell? ⟨g,i,none⟩=some (.int .u8 v):=by
 have:=h.ro.cells (g:=g) rfl i (.int .u8 v) (by simp[u8s,hv])
 by_cases h0:i=0 <;> simpa [Addr.add,h0] using this
theorem CM.form {w:World}{H O:Nat}{c:Ac}{vo vc:Value}(h:CM w H O c vo vc)(hn:0<c.out.length):∃ g cap,vo= .slice (some ⟨g,0,none⟩) c.out.length cap∧c.out.length≤cap∧cap≤maxLen∧H≤g:=by
 rcases h.ro.2 with⟨rfl,h0⟩|⟨g,cap,cur,rfl,p0,-,p2,p3,-⟩
 ·omega
 ·exact⟨g,cap,rfl,p2,p3,p0⟩
theorem CM.frozB {w:World}{H O g n cap:Nat}{c:Ac}{vc:Value}(h:CM w H O c (.slice (some ⟨g,0,none⟩) n cap) vc)(i:Nat):w.frozen? ⟨g,i,none⟩=false:=by
 have hn:n=c.out.length:=by rcases h.ro.2 with⟨h0,-⟩|⟨_,_,_,h0,-⟩ <;> cases h0 <;> rfl
 subst hn;exact h.ro.frozenAt i
def outL (r:List Int)(x:Int)(m i:Nat):List Int:=r++x::(List.replicate (m-i) 255++List.replicate i 0)
theorem En {r:List Int}{x:Int}{m i:Nat}(h:i≤m):(outL r x m i).length=r.length+1+m:=by simp[outL];omega
theorem Ma {r:List Int}{x:Int}{m i:Nat}(h:i<m):(outL r x m i)[r.length+(m-i)]?=some 255:=by
 unfold outL;obtain⟨q,hq⟩:∃ q,m-i=q+1:=⟨m-i-1,by omega⟩;rw[List.getElem?_append_right (by omega),show r.length+(m-i)-r.length=q+1 by omega,hq];simp[List.getElem?_append]
theorem Mb {r:List Int}{x:Int}{m:Nat}: (outL r x m m)[r.length]?=some x:=by
 unfold outL;rw[List.getElem?_append_right (by omega)];simp
theorem JN {r:List Int}{x:Int}{m i:Nat}(h:i<m):(outL r x m i).set (r.length+(m-i)) 0=outL r x m (i+1):=by
 unfold outL;obtain⟨q,hq⟩:∃ q,m-i=q+1:=⟨m-i-1,by omega⟩;have h2:m-(i+1)=q:=by omega
 rw[List.set_append_right _ _ (by omega),show r.length+(m-i)-r.length=q+1 by omega,hq,h2,List.replicate_succ' (n:=q)]
 congr 1
 simp[List.replicate_succ]
theorem Ki (w:World)(H O:Nat)(c:Ac)(vo vc:Value)(h:CM w H O c vo vc)(hn:c.out.length≤1000000)(hl:c.low<4294967296):
 Calls Tryz.prog 133 #[.pointer (some ⟨O,0,none⟩)] w fun e w'=>e= .returned (.tuple #[])∧(∃ vo',CM w' H O ⟨c.low%16777216*256,c.span,c.out ++ [((c.low/16777216:Nat):Int)],c.ch⟩ vo' vc)∧Below H w w':=by
 obtain⟨L,S0,out,ch⟩:=c;simp only at hl hn⊢;have hd:decide ((4294967296:Int)≤(L:Int))=false:=by simp;omega
 have HL:=Aa hl;obtain⟨m,hm⟩:∃ m,out.length=m:=⟨_,rfl⟩;rw[hm]at hn;obtain⟨bl,⟨k0,k1,k2,k3⟩,f0,f1,f2,f3⟩:=bx4 h.bk;simp only at k0;have HC:=Aa h;clear hl h;go_enter Tryz.func133,Tryz.ntmps133
 go_upto_region 7 with fail
 clear hd bl k0 k1 k2 k3 f0 f1 f2 f3;have hC:=HC.out;have hL:=HL.out;have hB:=Below.refl H w;obtain⟨wr,hwr⟩:∃ wr,wr=w:=⟨_,rfl⟩;rw[←hwr];rw[show CM w H O ⟨L,S0,out,ch⟩ vo vc=CM wr H O ⟨L,S0,out,ch⟩ vo vc by rw[hwr]]at hC;rw[show Below H w w=Below H w wr by rw[hwr]]at hB;clear hwr HC HL;obtain⟨HI,hHI0⟩:∃ HI,HI=wr.heap.size:=⟨_,rfl⟩;have hHI:H≤HI:=by rw[hHI0];exact hC.hs
 have hvl:∀ q,vo.ownBlock=some q→q<HI:=fun q hq=>by rw[hHI0];exact(hC.ro.lt q hq).2
 have hOI:O<HI:=by rw[hHI0];exact lt_of_block hC.bk
 have hHIs:HI≤wr.heap.size:=by omega
 have hrc:=hC.rc;have hro:=hC.ro;have hbk:=hC.bk;simp only at hbk;have hHO:=hC.hO;rw[show((⟨L,S0,out,ch⟩:Ac).out.length)=m from hm]at hro;have hq64:IntKind.i64.wrap ((L:Int)/16777216)=(L:Int)/16777216:=by rw[IntKind.wrap_i64];omega
 have hq8:IntKind.u8.wrap ((L:Int)/16777216)=(L:Int)/16777216:=by rw[IntKind.wrap_u8];omega
 clear hHI0 hC;have hext:Stab (fun wa wb=>Ext wa wb) (fun i own ys wx=>match i with|0=>own= .pointer (some ⟨O,0,none⟩)|1=>own= .pointer (some ⟨O,0,none⟩)|2=>own= .pointer (some ⟨O,0,none⟩)|3=>own= .pointer (some ⟨O,2,none⟩)|4=>own=vo|5=>own= .pointer (some ⟨O,0,none⟩)|6=>own= .pointer (some ⟨O,0,none⟩)|7=>own= .pointer (some ⟨O,0,none⟩)|8=>own= .int .i64 (L:Int)|9=>own= .int .i64 ((L:Int)/16777216)|10=>own= .int .u8 ((L:Int)/16777216)|11=>∃(q:Nat),own= .slice (some ⟨q,0,none⟩) 1 1∧wx.ownsRow HI 5 1 (.slice (some ⟨q,0,none⟩) 1 1) 1 [.int .u8 ((L:Int)/16777216)]|12=>∃(a3:Option Addr) (c3:Nat),own= .slice a3 (m+1) c3∧wx.ownsRow H 5 1 (.slice a3 (m+1) c3) (m+1) (u8s out ++ [.int .u8 ((L:Int)/16777216)])|13=>own= .pointer (some ⟨O,0,none⟩)|14=>own= .pointer (some ⟨O,2,none⟩)|15=>∃ v2,CM wx H O ⟨L,S0,out ++ [(L:Int)/16777216],ch⟩ v2 vc|_=>True):=by
  intro i own ys wa wb e h
  match i,h with
  | 0,h|1,h|2,h|3,h|4,h|5,h|6,h|7,h|8,h|9,h|10,h|13,h|14,h=>exact h
  | 11,h=>obtain⟨q9,h1,h2⟩:=h;exact⟨q9,h1,Ae h2 e⟩
  | 12,h=>obtain⟨a9,c9,h1,h2⟩:=h;exact⟨a9,c9,h1,Ae h2 e⟩
  | 15,h=>obtain⟨v9,h1⟩:=h;exact⟨v9,h1.ext e⟩
  | _+16,_=>trivial
 have Hext:=Aa hext;clear hext;refine Am (by kernel_rfl) [(52,0),(53,1),(54,2),(55,3),(56,4),(57,5),(58,6),(59,7),(60,8),(61,9),(62,10),(63,11),(64,12),(65,13),(66,14)] [[],[],[1],[1,2],[1,2,3],[],[5],[5,6],[5,6,7],[5,6,7,8],[5,6,7,8,9],[5,6,7,8,9,10],[1,2,3,4,5,6,7,8,9,10,11],[0,1,2,3,4,5,6,7,8,9,10,11,12],[0,1,2,3,4,5,6,7,8,9,10,11,12,13],[0,1,2,3,4,5,6,7,8,9,10,11,12,13,14]] (fun i own ys wx=>match i with|0=>own= .pointer (some ⟨O,0,none⟩)|1=>own= .pointer (some ⟨O,0,none⟩)|2=>own= .pointer (some ⟨O,0,none⟩)|3=>own= .pointer (some ⟨O,2,none⟩)|4=>own=vo|5=>own= .pointer (some ⟨O,0,none⟩)|6=>own= .pointer (some ⟨O,0,none⟩)|7=>own= .pointer (some ⟨O,0,none⟩)|8=>own= .int .i64 (L:Int)|9=>own= .int .i64 ((L:Int)/16777216)|10=>own= .int .u8 ((L:Int)/16777216)|11=>∃(q:Nat),own= .slice (some ⟨q,0,none⟩) 1 1∧wx.ownsRow HI 5 1 (.slice (some ⟨q,0,none⟩) 1 1) 1 [.int .u8 ((L:Int)/16777216)]|12=>∃(a3:Option Addr) (c3:Nat),own= .slice a3 (m+1) c3∧wx.ownsRow H 5 1 (.slice a3 (m+1) c3) (m+1) (u8s out ++ [.int .u8 ((L:Int)/16777216)])|13=>own= .pointer (some ⟨O,0,none⟩)|14=>own= .pointer (some ⟨O,2,none⟩)|15=>∃ v2,CM wx H O ⟨L,S0,out ++ [(L:Int)/16777216],ch⟩ v2 vc|_=>True) (fun Lx wx=>(Below H w wx∧HI≤wx.heap.size)∧(∃ z,wx.heap[O]?=some (.cells #[.int .i64 (L:Int),.int .i64 (S0:Int),z,vc] 145 (0,0))∧(Lx 15=false→z=vo))∧wx.ownsRow H 5 1 vo m (u8s out)∧wx.ownsRow H 3 1 vc 40 (ch64 ch)) (by kernel_rfl) (by kernel_rfl) (by kernel_rfl) ?g0_r1 ?gop_r1 ?gend_r1
 case g0_r1=>exact⟨⟨hB.drew,hHIs⟩,⟨_,hbk,fun _=>rfl⟩,Ae hro (Ext.drewN _ 1),Ae hrc (Ext.drewN _ 1)⟩
 case gop_r1 =>
  refine⟨?_,?_,?o2,?o3,?o4,?_,?o6,?o7,?o8,?o9,?o10,?o11,?o12,?o13,?o14,?o15,trivial⟩ <;> (intro Lx xs wx hG hl ha hb hD hI Qo Kx hK hQo;simp only[Ad,Nat.reduceAdd,Nat.reduceEqDiff,↓reduceIte]at hQo⊢)
  case o2 =>
   clear hl ha hb;rw[ddq (hD 1 rfl)]at hQo⊢;clear hD hI;go_wp2;exact hK.out _ _ ⟨rfl,hG,kkp⟩
  case o3 =>
   clear hl ha hb;rw[ddq (hD 2 rfl)]at hQo⊢;clear hD hI;go_wp2;exact hK.out _ _ ⟨rfl,hG,kkp⟩
  case o4 =>
   have l15:Lx 15=false:=hb 15 rfl;clear hl ha hb;rw[ddq (hD 3 rfl)]at hQo⊢;clear hD hI;obtain⟨z,g1,g2⟩:=hG.2.1;obtain rfl:=g2 l15;obtain⟨-,⟨k0,k1,k2,k3⟩,-⟩:=bx4 g1;go_wp2;exact hK.out _ _ ⟨rfl,hG,kkp⟩
  case o6 =>
   clear hl ha hb;rw[ddq (hD 5 rfl)]at hQo⊢;clear hD hI;go_wp2;exact hK.out _ _ ⟨rfl,hG,kkp⟩
  case o7 =>
   clear hl ha hb;rw[ddq (hD 6 rfl)]at hQo⊢;clear hD hI;go_wp2;exact hK.out _ _ ⟨rfl,hG,kkp⟩
  case o8 =>
   clear hl ha hb;rw[ddq (hD 7 rfl)]at hQo⊢;clear hD hI;obtain⟨z,g1,g2⟩:=hG.2.1;obtain⟨-,⟨k0,k1,k2,k3⟩,-⟩:=bx4 g1;go_wp2;exact hK.out _ _ ⟨rfl,hG,kkp⟩
  case o9 =>
   clear hl ha hb;rw[ddq (hD 8 rfl)]at hQo⊢;clear hD hI;go_wp2;exact hK.out _ _ ⟨rfl,hG,kkp⟩
  case o10 =>
   clear hl ha hb;rw[ddq (hD 9 rfl)]at hQo⊢;clear hD hI;go_wp2;exact hK.out _ _ ⟨rfl,hG,kkp⟩
  case o11 =>
   clear hl ha hb;rw[ddq (hD 10 rfl)]at hQo⊢;clear hD hI;have e8:=Ext.alloc wx (.cells #[.int .u8 ((L:Int)/16777216)] 5);have o9:=World.ownsRow_lit (base:=HI) (e:=5) (size:=1) wx #[.int .u8 ((L:Int)/16777216)] 1 hG.1.2 (by unfold maxLen;omega) rfl;go_wp2;obtain⟨⟨g0,gs⟩,⟨z,g3,g4⟩,g5,g6⟩:=hG;exact hK.out _ _ ⟨⟨_,rfl,o9⟩,⟨⟨g0.alloc (Nat.le_trans hHI gs) _,Nat.le_trans gs e8.size⟩,⟨z,e8.blk g3,g4⟩,Ae g5 e8,Ae g6 e8⟩,fun i _ _ _ own ys h=>Hext.out i own ys _ _ e8 h⟩
  case o12 =>
   clear hl ha hb;rw[ddq (hD 4 rfl)]at hQo⊢;have d11:∃(q:Nat),(xs 11) = .slice (some ⟨q,0,none⟩) 1 1∧wx.ownsRow HI 5 1 (.slice (some ⟨q,0,none⟩) 1 1) 1 [.int .u8 ((L:Int)/16777216)]:=hD 11 rfl;clear hD hI;generalize xs 11=y11 at *;obtain⟨q11,rfl,o11⟩:=d11;refine Aw _ rfl hG.2.2.1 (Nat.le_trans hHI hG.1.2) _ _ _ rfl (.int .u8 0) 1 Ry DD rfl (by decide) rfl ⟨q11,0,none⟩ 1 1 _ rfl rfl (o11.cells rfl) (by intro u hu;simp at hu;subst hu;rfl) (by omega) (by omega) ?_;intro v14 w14 own14 gr14 keep14;obtain⟨a14,c14,rfl⟩:=Al own14;have hst:∀(wy:World),(∀ e' own n' xs',wx.ownsRow HI e' 1 own n' xs'→wy.ownsRow HI e' 1 own n' xs')→Stbn 16 12 [[],[],[1],[1,2],[1,2,3],[],[5],[5,6],[5,6,7],[5,6,7,8],[5,6,7,8,9],[5,6,7,8,9,10],[1,2,3,4,5,6,7,8,9,10,11],[0,1,2,3,4,5,6,7,8,9,10,11,12],[0,1,2,3,4,5,6,7,8,9,10,11,12,13],[0,1,2,3,4,5,6,7,8,9,10,11,12,13,14]] (fun i own ys wx=>match i with|0=>own= .pointer (some ⟨O,0,none⟩)|1=>own= .pointer (some ⟨O,0,none⟩)|2=>own= .pointer (some ⟨O,0,none⟩)|3=>own= .pointer (some ⟨O,2,none⟩)|4=>own=vo|5=>own= .pointer (some ⟨O,0,none⟩)|6=>own= .pointer (some ⟨O,0,none⟩)|7=>own= .pointer (some ⟨O,0,none⟩)|8=>own= .int .i64 (L:Int)|9=>own= .int .i64 ((L:Int)/16777216)|10=>own= .int .u8 ((L:Int)/16777216)|11=>∃(q:Nat),own= .slice (some ⟨q,0,none⟩) 1 1∧wx.ownsRow HI 5 1 (.slice (some ⟨q,0,none⟩) 1 1) 1 [.int .u8 ((L:Int)/16777216)]|12=>∃(a3:Option Addr) (c3:Nat),own= .slice a3 (m+1) c3∧wx.ownsRow H 5 1 (.slice a3 (m+1) c3) (m+1) (u8s out ++ [.int .u8 ((L:Int)/16777216)])|13=>own= .pointer (some ⟨O,0,none⟩)|14=>own= .pointer (some ⟨O,2,none⟩)|15=>∃ v2,CM wx H O ⟨L,S0,out ++ [(L:Int)/16777216],ch⟩ v2 vc|_=>True) wx wy:=by
    intro wy hy ii hii hne hc own ys h
    match ii,h with
    | 0,h|1,h|2,h|3,h|4,h|5,h|6,h|7,h|8,h|9,h|10,h=>exact h
    | 11,h=>obtain⟨q9,h1,h2⟩:=h;exact⟨q9,h1,hy _ _ _ _ h2⟩
    | 12,h=>exact absurd rfl hne
    | 13,h|14,h|15,h=>exact absurd hc (by decide)
    | _+16,_=>trivial
   obtain⟨⟨g0,gs⟩,⟨z,g3,g4⟩,g5,g6⟩:=hG;have hb1:=Ar g3 gr14 (neO g5 g3 (by decide));exact hQo _ _ (hK.out _ _ ⟨⟨_,_,rfl,own14⟩,⟨⟨g0.grown gr14 (Nat.le_trans hHI gs) (Bt g5),Nat.le_trans gs gr14.size⟩,⟨z,hb1,g4⟩,keep14 _ _ _ _ (Nat.le_refl _) g5,g6.kept gr14 (FO g6 g5 (by decide))⟩,hst _ (fun _ _ _ _ h=>Jh h gr14 hvl)⟩)
  case o13 =>
   clear hl ha hb;rw[ddq (hD 0 rfl)]at hQo⊢;clear hD hI;go_wp2;exact hK.out _ _ ⟨rfl,hG,kkp⟩
  case o14 =>
   clear hl ha hb;rw[ddq (hD 13 rfl)]at hQo⊢;clear hD hI;go_wp2;exact hK.out _ _ ⟨rfl,hG,kkp⟩
  case o15 =>
   clear hl ha hb;rw[ddq (hD 14 rfl)]at hQo⊢;have d12:∃(a3:Option Addr) (c3:Nat),(xs 12) = .slice a3 (m+1) c3∧wx.ownsRow H 5 1 (.slice a3 (m+1) c3) (m+1) (u8s out ++ [.int .u8 ((L:Int)/16777216)]):=hD 12 rfl;clear hD hI;generalize xs 12=y12 at *;obtain⟨a12,c12,rfl,o12⟩:=d12;obtain⟨z,g1,g2⟩:=hG.2.1;obtain⟨-,⟨k0,k1,k2,k3⟩,f0,f1,f2,f3⟩:=bx4 g1;go_wp2;have hst:∀(wy:World),(∀ b' own n' xs',wx.ownsRow b' 5 1 own n' xs'→wy.ownsRow b' 5 1 own n' xs')→Stbn 16 15 [[],[],[1],[1,2],[1,2,3],[],[5],[5,6],[5,6,7],[5,6,7,8],[5,6,7,8,9],[5,6,7,8,9,10],[1,2,3,4,5,6,7,8,9,10,11],[0,1,2,3,4,5,6,7,8,9,10,11,12],[0,1,2,3,4,5,6,7,8,9,10,11,12,13],[0,1,2,3,4,5,6,7,8,9,10,11,12,13,14]] (fun i own ys wx=>match i with|0=>own= .pointer (some ⟨O,0,none⟩)|1=>own= .pointer (some ⟨O,0,none⟩)|2=>own= .pointer (some ⟨O,0,none⟩)|3=>own= .pointer (some ⟨O,2,none⟩)|4=>own=vo|5=>own= .pointer (some ⟨O,0,none⟩)|6=>own= .pointer (some ⟨O,0,none⟩)|7=>own= .pointer (some ⟨O,0,none⟩)|8=>own= .int .i64 (L:Int)|9=>own= .int .i64 ((L:Int)/16777216)|10=>own= .int .u8 ((L:Int)/16777216)|11=>∃(q:Nat),own= .slice (some ⟨q,0,none⟩) 1 1∧wx.ownsRow HI 5 1 (.slice (some ⟨q,0,none⟩) 1 1) 1 [.int .u8 ((L:Int)/16777216)]|12=>∃(a3:Option Addr) (c3:Nat),own= .slice a3 (m+1) c3∧wx.ownsRow H 5 1 (.slice a3 (m+1) c3) (m+1) (u8s out ++ [.int .u8 ((L:Int)/16777216)])|13=>own= .pointer (some ⟨O,0,none⟩)|14=>own= .pointer (some ⟨O,2,none⟩)|15=>∃ v2,CM wx H O ⟨L,S0,out ++ [(L:Int)/16777216],ch⟩ v2 vc|_=>True) wx wy:=by
    intro wy hy ii hii hne hc own ys h
    match ii,h with
    | 0,h|1,h|2,h|3,h|4,h|5,h|6,h|7,h|8,h|9,h|10,h|13,h|14,h=>exact h
    | 11,h=>obtain⟨q9,h1,h2⟩:=h;exact⟨q9,h1,hy _ _ _ _ h2⟩
    | 12,h=>obtain⟨a9,c9,h1,h2⟩:=h;exact⟨a9,c9,h1,hy _ _ _ _ h2⟩
    | 15,h=>exact absurd rfl hne
    | _+16,_=>trivial
   obtain⟨⟨g0,gs⟩,-,g5,g6⟩:=hG;have gB:=gsO wx O 2 (.slice a12 (m+1) c12);have hb:=heap_setCell_same wx O 2 _ _ (.slice a12 (m+1) c12) g1;have hb2:(wx.setCell ⟨O,2,none⟩ (.slice a12 (m+1) c12)).heap[O]?=some (.cells #[.int .i64 (L:Int),.int .i64 (S0:Int),.slice a12 (m+1) c12,vc] 145 (0,0)):=by simpa using hb
   have hk:∀ b' own n' xs',wx.ownsRow b' 5 1 own n' xs'→(wx.setCell ⟨O,2,none⟩ (.slice a12 (m+1) c12)).ownsRow b' 5 1 own n' xs':=fun _ _ _ _ h=>ownsRow_setCell_other h (neO h g1 (by decide)) _
   have hrc2:=ownsRow_setCell_other g6 (a:=⟨O,2,none⟩) (neO g6 g1 (by decide)) (.slice a12 (m+1) c12);exact hQo undef _ (hK.out _ _ ⟨⟨_,CM.mk5 hb2 (hk _ _ _ _ o12) hm hrc2 hHO (by have:=gB.size;omega)⟩,⟨⟨g0.setCell hHO _,Nat.le_trans gs gB.size⟩,⟨_,hb2,fun h=>by cases h⟩,hk _ _ _ _ g5,hrc2⟩,hst _ hk⟩)
  all_goals
   clear hl ha hb hD hI;go_wp2;exact hK.out _ _ ⟨rfl,hG,kkp⟩
 clear Hext;intro xs wx hV hG0;obtain⟨Lx,hL,hG⟩:=hG0;have l15:Lx 15=true:=hL 15 (by decide);clear hL;have d15:∃ v2,CM wx H O ⟨L,S0,out ++ [(L:Int)/16777216],ch⟩ v2 vc:=hV 15 (by decide);clear hV;simp only[Ad,Nat.reduceAdd,Nat.reduceEqDiff,↓reduceIte];generalize xs 0=y0,xs 1=y1,xs 2=y2,xs 3=y3,xs 4=y4,xs 5=y5,xs 6=y6,xs 7=y7,xs 8=y8,xs 9=y9,xs 10=y10,xs 11=y11,xs 12=y12,xs 13=y13,xs 14=y14,xs 15=y15 at *
 replace hG:(Below H w wx∧HI≤wx.heap.size)∧(∃ z,wx.heap[O]?=some (.cells #[.int .i64 (L:Int),.int .i64 (S0:Int),z,vc] 145 (0,0))∧(Lx 15=false→z=vo))∧wx.ownsRow H 5 1 vo m (u8s out)∧wx.ownsRow H 3 1 vc 40 (ch64 ch):=hG
 obtain⟨v15,c15⟩:=d15;obtain⟨⟨g0,gs⟩,-⟩:=hG;obtain⟨bl,⟨k0,k1,k2,k3⟩,f0,f1,f2,f3⟩:=bx4 c15.bk;simp only at k0;have HC:=Aa c15;have HL:=Aa hL;have Hm:=Aa hm;clear c15 hvl hm hbk hro hrc;go_wp2;refine bodyPost_end (results_none rfl _ _ _) rfl ?_;refine⟨rfl,⟨v15,?_⟩,g0.setCell hHO _⟩;have hf:=HC.out.low (L%16777216*256);rw[show(((L%16777216*256:Nat)):Int)=(L:Int)%16777216*256 by omega]at hf;first|exact hf|(rw[show(((L/16777216:Nat)):Int)=(L:Int)/16777216 by omega];exact hf)|(rw[Hout.out]at hf;simp only[List.append_assoc,List.cons_append]at hf;first|exact hf|(rw[hmm]at hf;exact hf))
theorem JW (w:World)(H O s:Nat)(c:Ac)(vo vc:Value)(h:CM w H O c vo vc)(hi:c.inv s)(hs:0<s)(hn:c.out.length≤1000000)(hl:4294967296≤c.low):
 Calls Tryz.prog 133 #[.pointer (some ⟨O,0,none⟩)] w fun e w'=>e= .returned (.tuple #[])∧(∃ vo',CM w' H O c.shift vo' vc)∧Below H w w':=by
 have hsplit:=Kv (Ac.carry hi hs hl);have hlo:=Ac.lo_lt hi;have hbyt:=hi.1;clear hi hs;obtain⟨L0,S0,out0,ch⟩:=c;simp only at hl hn hsplit hbyt;unfold Ac.lo at hlo;simp only at hlo;rw[if_pos hl]at hlo;obtain⟨r,x,mm,hout,hx⟩:=hsplit;subst hout;have hx2:0≤x∧x≤255:=hbyt x (by simp);have hx3:0≤x+1∧x+1≤255:=by omega
 obtain⟨L,hL0⟩:∃ q,q=L0-4294967296:=⟨_,rfl⟩;rw[←hL0]at hlo;have hshift:(⟨L0,S0,r++x::List.replicate mm 255,ch⟩:Ac).shift=⟨L%16777216*256,S0,(r++(x+1)::List.replicate mm 0) ++ [((L/16777216:Nat):Int)],ch⟩:=by
  unfold Ac.shift Ac.car Ac.lo;simp only;rw[if_pos hl,if_pos hl,Ph r x mm hx,←hL0]
 rw[hshift];rw[show r++x::List.replicate mm 255=outL r x mm 0 by simp[outL]]at h hn;obtain⟨g,cap,rfl,hc1,hc2,hgH⟩:=h.form (by rw[En (by omega)];omega);simp only at hc1 h;rw[En (by omega)]at hc1 hn h;obtain⟨N,hN⟩:∃ N,N=r.length+1+mm:=⟨_,rfl⟩;rw[←hN]at hc1 hn h;have HN:=Aa hN;have hrN:r.length+mm<N:=by omega
 clear hN;have hd:decide ((4294967296:Int)≤(L0:Int))=true:=by simp;omega
 obtain⟨bl,⟨k0,k1,k2,k3⟩,f0,f1,f2,f3⟩:=bx4 h.bk;simp only at k0;have HC:=Aa h;have HL:=Aa hlo;have HL0:=Aa (show(L0:Int)-4294967296=(L:Int) by omega);have hL1:(L0:Int)<8589934592:=by omega
 clear hshift hbyt hl h hlo hL0;go_enter Tryz.func133,Tryz.ntmps133
 go_upto_region 2 with fail
 have hC:=HC.out.low L;simp only at hC;rw[←HL0.out]at hC;have hB:=(Below.refl H w).setCell (p:=⟨O,0,none⟩) HC.out.hO (.int .i64 ((L0:Int)-4294967296));clear hd bl k0 k1 k2 k3 f0 f1 f2 f3 HC hL1 HL0 hc2;generalize World.setCell _ _ _=w1 at *;obtain⟨bl,⟨k0,k1,k2,k3⟩,f0,f1,f2,f3⟩:=bx4 hC.bk;have hC1:=Aa hC;clear hC;go_wp2_with fail
 go_loopw [2] (fun kx wr=>∃ i,i≤mm∧kx= .int .i64 ((r.length+(mm-i):Nat):Int)∧Below H w wr∧CM wr H O ⟨L,S0,outL r x mm i,ch⟩ (.slice (some ⟨g,0,none⟩) N cap) vc) (fun kx _=>(intOf kx).toNat)
 case atStart=>exact⟨0,by omega,by have:=HN.out;congr 1;omega,hB,hC1.out⟩
 case round =>
  clear hB hC1 bl k0 k1 k2 k3 f0 f1 f2 f3;obtain⟨i,hi,rfl,hB,hC⟩:=hrel;obtain⟨K,hK0⟩:∃ K,K=r.length+(mm-i):=⟨_,rfl⟩;rw[←hK0];have hKN:(K:Int)<N:=by omega
  have hKm:i<mm→1≤K:=by omega
  have HK:=Aa hK0;have Hrn:=Aa hrN;clear hK0 hrN;obtain⟨bl,⟨k0,k1,k2,k3⟩,f0,f1,f2,f3⟩:=bx4 hC.bk
  by_cases hlt:i<mm
  ·have hk:=hC.cellB (Ma hlt);rw[←HK.out]at hk;have hf:=hC.frozB K;have hC5:=hC.byte K 0;simp only at hC5;rw[show(outL r x mm i).set K 0=outL r x mm (i+1) by rw[HK.out];exact JN hlt]at hC5;have HC5:=Aa hC5;have hK1:=hKm hlt;have Hlt:=Aa hlt;clear hC hC5 hKm hlt;go_wp2;go_roundw
   case rel=>exact⟨i+1,by have:=Hlt.out;omega,by have:=HK.out;have:=Hlt.out;congr 1;omega,hB.setCell hgH _,HC5.out⟩
   case measure=>simp[intOf];omega
  ·obtain rfl:i=mm:=by omega
   have hKr:K=r.length:=by have:=HK.out;omega
   have htop:(outL r x i i)[K]?=some x:=by rw[hKr];exact Mb
   have hk:=hC.cellB htop;have hty:∀ y,(r++y::List.replicate i (0:Int))[K]?=some y:=fun y=>by rw[hKr,List.getElem?_append_right (Nat.le_refl _)];simp
   have hts:∀ y,(r++y::List.replicate i (0:Int)).set K (x+1)=r++(x+1)::List.replicate i 0:=fun y=>by rw[hKr,List.set_append_right _ _ (Nat.le_refl _)];simp
   have hno:decide (x=255)=false:=by simp;omega
   have Hkr:=Aa hKr;clear hKr hKm;have hC6:=hC;rw[show outL r x i i=r++x::List.replicate i 0 by simp[outL]]at hC6;have HC6:=Aa hC6;have Hty:=Aa hty;have Hts:=Aa hts;clear hC hC6 htop hty hts;go_upto_region 6 with fail
   have hC6:=HC6.out;have hty:=Hty.out;have hts:=Hts.out;have hw8:IntKind.u8.wrap (x+1)=x+1:=by rw[IntKind.wrap_u8];omega
   clear bl k0 k1 k2 k3 f0 f1 f2 f3 hk hno HC6 Hty Hts;obtain⟨mm,hmm⟩:∃ q,q=i:=⟨_,rfl⟩;rw[←hmm]at hC6 hty hts HN;generalize (x == 255)=bb;clear hw8;have hw8:IntKind.u8.wrap (x+1)=x+1:=by rw[IntKind.wrap_u8];omega
   refine Am (by kernel_rfl) [(38,0),(39,1),(40,2),(41,3),(42,4),(43,5),(44,6),(45,7),(46,8),(47,9),(48,10),(49,11),(50,12),(51,13)] [[],[0],[0,1],[0,1,2],[],[],[5],[5,6],[5,6,7],[],[5,6,7,8,9],[5,6,7,8,9,10],[5,6,7,8,9,10,11],[0,1,2,3,4,5,6,7,8,9,10,11,12],[0,1,2,3,4,5,6,7,8,9,10,11,12,13]] (fun i own ys wx=>match i with|0=>own= .pointer (some ⟨O,0,none⟩)|1=>own= .pointer (some ⟨O,0,none⟩)|2=>own= .pointer (some ⟨O,2,none⟩)|3=>own= .slice (some ⟨g,0,none⟩) N cap|4=>own= .int .i64 (K:Int)|5=>own= .pointer (some ⟨O,0,none⟩)|6=>own= .pointer (some ⟨O,0,none⟩)|7=>own= .pointer (some ⟨O,2,none⟩)|8=>own= .slice (some ⟨g,0,none⟩) N cap|9=>own= .int .i64 (K:Int)|10=>own= .pointer (some ⟨g,K,none⟩)|11=>own= .int .u8 x|12=>own= .int .u8 (x+1)|13=>own= .pointer (some ⟨g,K,none⟩)|14=>∃ _z:Nat,CM wx H O ⟨L,S0,r++(x+1)::List.replicate mm 0,ch⟩ (.slice (some ⟨g,0,none⟩) N cap) vc|_=>True) (fun Lx wx=>(∃ y,CM wx H O ⟨L,S0,r++y::List.replicate mm 0,ch⟩ (.slice (some ⟨g,0,none⟩) N cap) vc∧(Lx 14=false→y=x))∧Below H w wx) (by kernel_rfl) (by kernel_rfl) (by kernel_rfl) ?g0_r2 ?gop_r2 ?gend_r2
   case g0_r2=>exact⟨⟨x,hC6.ext (Ext.drewN _ 1),fun _=>rfl⟩,hB.drew⟩
   case gop_r2 =>
    refine⟨?_,?o1,?o2,?o3,?_,?_,?o6,?o7,?o8,?_,?o10,?o11,?o12,?o13,?o14,trivial⟩ <;> (intro Lx xs wx hG hl ha hb hD hI Qo Kx hK hQo;simp only[Ad,Nat.reduceAdd,Nat.reduceEqDiff,↓reduceIte]at hQo⊢)
    case o1 =>
     clear hl ha hb;rw[ddq (hD 0 rfl)]at hQo⊢;clear hD hI;go_wp2;exact hK.out _ _ ⟨rfl,hG,kkp⟩
    case o2 =>
     clear hl ha hb;rw[ddq (hD 1 rfl)]at hQo⊢;clear hD hI;go_wp2;exact hK.out _ _ ⟨rfl,hG,kkp⟩
    case o3 =>
     clear hl ha hb;rw[ddq (hD 2 rfl)]at hQo⊢;clear hD hI;obtain⟨y,g1,g2⟩:=hG.1;obtain⟨-,⟨k0,k1,k2,k3⟩,-⟩:=bx4 g1.bk;go_wp2;exact hK.out _ _ ⟨rfl,hG,kkp⟩
    case o6 =>
     clear hl ha hb;rw[ddq (hD 5 rfl)]at hQo⊢;clear hD hI;go_wp2;exact hK.out _ _ ⟨rfl,hG,kkp⟩
    case o7 =>
     clear hl ha hb;rw[ddq (hD 6 rfl)]at hQo⊢;clear hD hI;go_wp2;exact hK.out _ _ ⟨rfl,hG,kkp⟩
    case o8 =>
     clear hl ha hb;rw[ddq (hD 7 rfl)]at hQo⊢;clear hD hI;obtain⟨y,g1,g2⟩:=hG.1;obtain⟨-,⟨k0,k1,k2,k3⟩,-⟩:=bx4 g1.bk;go_wp2;exact hK.out _ _ ⟨rfl,hG,kkp⟩
    case o10 =>
     clear hl ha hb;rw[ddq (hD 8 rfl),ddq (hD 9 rfl)]at hQo⊢;clear hD hI;go_wp2;exact hK.out _ _ ⟨rfl,hG,kkp⟩
    case o11 =>
     have l14:Lx 14=false:=hb 14 rfl;clear hl ha hb;rw[ddq (hD 10 rfl)]at hQo⊢;clear hD hI;obtain⟨y,g1,g2⟩:=hG.1;have hy:=g2 l14;rw[hy]at g1;have k0:=g1.cellB (i:=K) (v:=x) (hty x);go_wp2;exact hK.out _ _ ⟨rfl,hG,kkp⟩
    case o12 =>
     clear hl ha hb;rw[ddq (hD 11 rfl)]at hQo⊢;clear hD hI;go_wp2;exact hK.out _ _ ⟨rfl,hG,kkp⟩
    case o13 =>
     clear hl ha hb;rw[ddq (hD 3 rfl),ddq (hD 4 rfl)]at hQo⊢;clear hD hI;go_wp2;exact hK.out _ _ ⟨rfl,hG,kkp⟩
    case o14 =>
     clear hl ha hb;rw[ddq (hD 12 rfl),ddq (hD 13 rfl)]at hQo⊢;clear hD hI;obtain⟨y,g1,g2⟩:=hG.1;have f0:=g1.frozB K;have k0:=g1.cellB (i:=K) (v:=y) (hty y);go_wp2;have hst:∀(wy:World),True→Stbn 15 14 [[],[0],[0,1],[0,1,2],[],[],[5],[5,6],[5,6,7],[],[5,6,7,8,9],[5,6,7,8,9,10],[5,6,7,8,9,10,11],[0,1,2,3,4,5,6,7,8,9,10,11,12],[0,1,2,3,4,5,6,7,8,9,10,11,12,13]] (fun i own ys wx=>match i with|0=>own= .pointer (some ⟨O,0,none⟩)|1=>own= .pointer (some ⟨O,0,none⟩)|2=>own= .pointer (some ⟨O,2,none⟩)|3=>own= .slice (some ⟨g,0,none⟩) N cap|4=>own= .int .i64 (K:Int)|5=>own= .pointer (some ⟨O,0,none⟩)|6=>own= .pointer (some ⟨O,0,none⟩)|7=>own= .pointer (some ⟨O,2,none⟩)|8=>own= .slice (some ⟨g,0,none⟩) N cap|9=>own= .int .i64 (K:Int)|10=>own= .pointer (some ⟨g,K,none⟩)|11=>own= .int .u8 x|12=>own= .int .u8 (x+1)|13=>own= .pointer (some ⟨g,K,none⟩)|14=>∃ _z:Nat,CM wx H O ⟨L,S0,r++(x+1)::List.replicate mm 0,ch⟩ (.slice (some ⟨g,0,none⟩) N cap) vc|_=>True) wx wy:=by
      intro wy hy ii hii hne hc own ys h
      match ii,h with
      | 0,h|1,h|2,h|3,h|4,h|5,h|6,h|7,h|8,h|9,h|10,h|11,h|12,h|13,h=>exact h
      | 14,h=>exact absurd rfl hne
      | _+15,_=>trivial
     have hf:=g1.byte K (x+1);simp only[hts]at hf;exact hQo undef _ (hK.out _ _ ⟨⟨0,hf⟩,⟨⟨_,hf,fun h=>by cases h⟩,hG.2.setCell hgH _⟩,hst _ trivial⟩)
    all_goals
     clear hl ha hb hD hI;go_wp2;exact hK.out _ _ ⟨rfl,hG,kkp⟩
   intro xs wx hV hG0;obtain⟨Lx,hL,hG⟩:=hG0;have l14:Lx 14=true:=hL 14 (by decide);clear hL;have d14:∃ _z:Nat,CM wx H O ⟨L,S0,r++(x+1)::List.replicate mm 0,ch⟩ (.slice (some ⟨g,0,none⟩) N cap) vc:=hV 14 (by decide);clear hV;simp only[Ad,Nat.reduceAdd,Nat.reduceEqDiff,↓reduceIte];generalize xs 0=y0,xs 1=y1,xs 2=y2,xs 3=y3,xs 4=y4,xs 5=y5,xs 6=y6,xs 7=y7,xs 8=y8,xs 9=y9,xs 10=y10,xs 11=y11,xs 12=y12,xs 13=y13,xs 14=y14 at *
   replace hG:(∃ y,CM wx H O ⟨L,S0,r++y::List.replicate mm 0,ch⟩ (.slice (some ⟨g,0,none⟩) N cap) vc∧(Lx 14=false→y=x))∧Below H w wx:=hG
   obtain⟨_,c14⟩:=d14;have hC:=c14;have hB:=hG.2;clear c14 hG hC6;obtain⟨out,hout⟩:∃ q,q=r++(x+1)::List.replicate mm 0:=⟨_,rfl⟩;rw[←hout]at hC;have Hout:=Aa hout;have hm:out.length=N:=by have:=HN.out;rw[hout];simp;omega
   clear hty hts;obtain⟨m,hmN⟩:∃ m,m=N:=⟨_,rfl⟩;rw[←hmN]at hm hn;have hL:=HL.out;clear hw8 hout hmN;obtain⟨vo,hvo⟩:∃ v,v=Value.slice (some ⟨g,0,none⟩) N cap:=⟨_,rfl⟩;rw[←hvo]at hC;clear hvo;generalize wx=wr at *;go_upto_region 7 with fail
   obtain⟨HI,hHI0⟩:∃ HI,HI=wr.heap.size:=⟨_,rfl⟩;have hHI:H≤HI:=by rw[hHI0];exact hC.hs
   have hvl:∀ q,vo.ownBlock=some q→q<HI:=fun q hq=>by rw[hHI0];exact(hC.ro.lt q hq).2
   have hOI:O<HI:=by rw[hHI0];exact lt_of_block hC.bk
   have hHIs:HI≤wr.heap.size:=by omega
   have hrc:=hC.rc;have hro:=hC.ro;have hbk:=hC.bk;simp only at hbk;have hHO:=hC.hO;rw[show((⟨L,S0,out,ch⟩:Ac).out.length)=m from hm]at hro;have hq64:IntKind.i64.wrap ((L:Int)/16777216)=(L:Int)/16777216:=by rw[IntKind.wrap_i64];omega
   have hq8:IntKind.u8.wrap ((L:Int)/16777216)=(L:Int)/16777216:=by rw[IntKind.wrap_u8];omega
   clear hHI0 hC;have hext:Stab (fun wa wb=>Ext wa wb) (fun i own ys wx=>match i with|0=>own= .pointer (some ⟨O,0,none⟩)|1=>own= .pointer (some ⟨O,0,none⟩)|2=>own= .pointer (some ⟨O,0,none⟩)|3=>own= .pointer (some ⟨O,2,none⟩)|4=>own=vo|5=>own= .pointer (some ⟨O,0,none⟩)|6=>own= .pointer (some ⟨O,0,none⟩)|7=>own= .pointer (some ⟨O,0,none⟩)|8=>own= .int .i64 (L:Int)|9=>own= .int .i64 ((L:Int)/16777216)|10=>own= .int .u8 ((L:Int)/16777216)|11=>∃(q:Nat),own= .slice (some ⟨q,0,none⟩) 1 1∧wx.ownsRow HI 5 1 (.slice (some ⟨q,0,none⟩) 1 1) 1 [.int .u8 ((L:Int)/16777216)]|12=>∃(a3:Option Addr) (c3:Nat),own= .slice a3 (m+1) c3∧wx.ownsRow H 5 1 (.slice a3 (m+1) c3) (m+1) (u8s out ++ [.int .u8 ((L:Int)/16777216)])|13=>own= .pointer (some ⟨O,0,none⟩)|14=>own= .pointer (some ⟨O,2,none⟩)|15=>∃ v2,CM wx H O ⟨L,S0,out ++ [(L:Int)/16777216],ch⟩ v2 vc|_=>True):=by
    intro i own ys wa wb e h
    match i,h with
    | 0,h|1,h|2,h|3,h|4,h|5,h|6,h|7,h|8,h|9,h|10,h|13,h|14,h=>exact h
    | 11,h=>obtain⟨q9,h1,h2⟩:=h;exact⟨q9,h1,Ae h2 e⟩
    | 12,h=>obtain⟨a9,c9,h1,h2⟩:=h;exact⟨a9,c9,h1,Ae h2 e⟩
    | 15,h=>obtain⟨v9,h1⟩:=h;exact⟨v9,h1.ext e⟩
    | _+16,_=>trivial
   have Hext:=Aa hext;clear hext;refine Am (by kernel_rfl) [(52,0),(53,1),(54,2),(55,3),(56,4),(57,5),(58,6),(59,7),(60,8),(61,9),(62,10),(63,11),(64,12),(65,13),(66,14)] [[],[],[1],[1,2],[1,2,3],[],[5],[5,6],[5,6,7],[5,6,7,8],[5,6,7,8,9],[5,6,7,8,9,10],[1,2,3,4,5,6,7,8,9,10,11],[0,1,2,3,4,5,6,7,8,9,10,11,12],[0,1,2,3,4,5,6,7,8,9,10,11,12,13],[0,1,2,3,4,5,6,7,8,9,10,11,12,13,14]] (fun i own ys wx=>match i with|0=>own= .pointer (some ⟨O,0,none⟩)|1=>own= .pointer (some ⟨O,0,none⟩)|2=>own= .pointer (some ⟨O,0,none⟩)|3=>own= .pointer (some ⟨O,2,none⟩)|4=>own=vo|5=>own= .pointer (some ⟨O,0,none⟩)|6=>own= .pointer (some ⟨O,0,none⟩)|7=>own= .pointer (some ⟨O,0,none⟩)|8=>own= .int .i64 (L:Int)|9=>own= .int .i64 ((L:Int)/16777216)|10=>own= .int .u8 ((L:Int)/16777216)|11=>∃(q:Nat),own= .slice (some ⟨q,0,none⟩) 1 1∧wx.ownsRow HI 5 1 (.slice (some ⟨q,0,none⟩) 1 1) 1 [.int .u8 ((L:Int)/16777216)]|12=>∃(a3:Option Addr) (c3:Nat),own= .slice a3 (m+1) c3∧wx.ownsRow H 5 1 (.slice a3 (m+1) c3) (m+1) (u8s out ++ [.int .u8 ((L:Int)/16777216)])|13=>own= .pointer (some ⟨O,0,none⟩)|14=>own= .pointer (some ⟨O,2,none⟩)|15=>∃ v2,CM wx H O ⟨L,S0,out ++ [(L:Int)/16777216],ch⟩ v2 vc|_=>True) (fun Lx wx=>(Below H w wx∧HI≤wx.heap.size)∧(∃ z,wx.heap[O]?=some (.cells #[.int .i64 (L:Int),.int .i64 (S0:Int),z,vc] 145 (0,0))∧(Lx 15=false→z=vo))∧wx.ownsRow H 5 1 vo m (u8s out)∧wx.ownsRow H 3 1 vc 40 (ch64 ch)) (by kernel_rfl) (by kernel_rfl) (by kernel_rfl) ?g0_r3 ?gop_r3 ?gend_r3
   case g0_r3=>exact⟨⟨hB.drew,hHIs⟩,⟨_,hbk,fun _=>rfl⟩,Ae hro (Ext.drewN _ 1),Ae hrc (Ext.drewN _ 1)⟩
   case gop_r3 =>
    refine⟨?_,?_,?o2,?o3,?o4,?_,?o6,?o7,?o8,?o9,?o10,?o11,?o12,?o13,?o14,?o15,trivial⟩ <;> (intro Lx xs wx hG hl ha hb hD hI Qo Kx hK hQo;simp only[Ad,Nat.reduceAdd,Nat.reduceEqDiff,↓reduceIte]at hQo⊢)
    case o2 =>
     clear hl ha hb;rw[ddq (hD 1 rfl)]at hQo⊢;clear hD hI;go_wp2;exact hK.out _ _ ⟨rfl,hG,kkp⟩
    case o3 =>
     clear hl ha hb;rw[ddq (hD 2 rfl)]at hQo⊢;clear hD hI;go_wp2;exact hK.out _ _ ⟨rfl,hG,kkp⟩
    case o4 =>
     have l15:Lx 15=false:=hb 15 rfl;clear hl ha hb;rw[ddq (hD 3 rfl)]at hQo⊢;clear hD hI;obtain⟨z,g1,g2⟩:=hG.2.1;obtain rfl:=g2 l15;obtain⟨-,⟨k0,k1,k2,k3⟩,-⟩:=bx4 g1;go_wp2;exact hK.out _ _ ⟨rfl,hG,kkp⟩
    case o6 =>
     clear hl ha hb;rw[ddq (hD 5 rfl)]at hQo⊢;clear hD hI;go_wp2;exact hK.out _ _ ⟨rfl,hG,kkp⟩
    case o7 =>
     clear hl ha hb;rw[ddq (hD 6 rfl)]at hQo⊢;clear hD hI;go_wp2;exact hK.out _ _ ⟨rfl,hG,kkp⟩
    case o8 =>
     clear hl ha hb;rw[ddq (hD 7 rfl)]at hQo⊢;clear hD hI;obtain⟨z,g1,g2⟩:=hG.2.1;obtain⟨-,⟨k0,k1,k2,k3⟩,-⟩:=bx4 g1;go_wp2;exact hK.out _ _ ⟨rfl,hG,kkp⟩
    case o9 =>
     clear hl ha hb;rw[ddq (hD 8 rfl)]at hQo⊢;clear hD hI;go_wp2;exact hK.out _ _ ⟨rfl,hG,kkp⟩
    case o10 =>
     clear hl ha hb;rw[ddq (hD 9 rfl)]at hQo⊢;clear hD hI;go_wp2;exact hK.out _ _ ⟨rfl,hG,kkp⟩
    case o11 =>
     clear hl ha hb;rw[ddq (hD 10 rfl)]at hQo⊢;clear hD hI;have e8:=Ext.alloc wx (.cells #[.int .u8 ((L:Int)/16777216)] 5);have o9:=World.ownsRow_lit (base:=HI) (e:=5) (size:=1) wx #[.int .u8 ((L:Int)/16777216)] 1 hG.1.2 (by unfold maxLen;omega) rfl;go_wp2;obtain⟨⟨g0,gs⟩,⟨z,g3,g4⟩,g5,g6⟩:=hG;exact hK.out _ _ ⟨⟨_,rfl,o9⟩,⟨⟨g0.alloc (Nat.le_trans hHI gs) _,Nat.le_trans gs e8.size⟩,⟨z,e8.blk g3,g4⟩,Ae g5 e8,Ae g6 e8⟩,fun i _ _ _ own ys h=>Hext.out i own ys _ _ e8 h⟩
    case o12 =>
     clear hl ha hb;rw[ddq (hD 4 rfl)]at hQo⊢;have d11:∃(q:Nat),(xs 11) = .slice (some ⟨q,0,none⟩) 1 1∧wx.ownsRow HI 5 1 (.slice (some ⟨q,0,none⟩) 1 1) 1 [.int .u8 ((L:Int)/16777216)]:=hD 11 rfl;clear hD hI;generalize xs 11=y11 at *;obtain⟨q11,rfl,o11⟩:=d11;refine Aw _ rfl hG.2.2.1 (Nat.le_trans hHI hG.1.2) _ _ _ rfl (.int .u8 0) 1 Ry DD rfl (by decide) rfl ⟨q11,0,none⟩ 1 1 _ rfl rfl (o11.cells rfl) (by intro u hu;simp at hu;subst hu;rfl) (by omega) (by omega) ?_;intro v14 w14 own14 gr14 keep14;obtain⟨a14,c14,rfl⟩:=Al own14;have hst:∀(wy:World),(∀ e' own n' xs',wx.ownsRow HI e' 1 own n' xs'→wy.ownsRow HI e' 1 own n' xs')→Stbn 16 12 [[],[],[1],[1,2],[1,2,3],[],[5],[5,6],[5,6,7],[5,6,7,8],[5,6,7,8,9],[5,6,7,8,9,10],[1,2,3,4,5,6,7,8,9,10,11],[0,1,2,3,4,5,6,7,8,9,10,11,12],[0,1,2,3,4,5,6,7,8,9,10,11,12,13],[0,1,2,3,4,5,6,7,8,9,10,11,12,13,14]] (fun i own ys wx=>match i with|0=>own= .pointer (some ⟨O,0,none⟩)|1=>own= .pointer (some ⟨O,0,none⟩)|2=>own= .pointer (some ⟨O,0,none⟩)|3=>own= .pointer (some ⟨O,2,none⟩)|4=>own=vo|5=>own= .pointer (some ⟨O,0,none⟩)|6=>own= .pointer (some ⟨O,0,none⟩)|7=>own= .pointer (some ⟨O,0,none⟩)|8=>own= .int .i64 (L:Int)|9=>own= .int .i64 ((L:Int)/16777216)|10=>own= .int .u8 ((L:Int)/16777216)|11=>∃(q:Nat),own= .slice (some ⟨q,0,none⟩) 1 1∧wx.ownsRow HI 5 1 (.slice (some ⟨q,0,none⟩) 1 1) 1 [.int .u8 ((L:Int)/16777216)]|12=>∃(a3:Option Addr) (c3:Nat),own= .slice a3 (m+1) c3∧wx.ownsRow H 5 1 (.slice a3 (m+1) c3) (m+1) (u8s out ++ [.int .u8 ((L:Int)/16777216)])|13=>own= .pointer (some ⟨O,0,none⟩)|14=>own= .pointer (some ⟨O,2,none⟩)|15=>∃ v2,CM wx H O ⟨L,S0,out ++ [(L:Int)/16777216],ch⟩ v2 vc|_=>True) wx wy:=by
      intro wy hy ii hii hne hc own ys h
      match ii,h with
      | 0,h|1,h|2,h|3,h|4,h|5,h|6,h|7,h|8,h|9,h|10,h=>exact h
      | 11,h=>obtain⟨q9,h1,h2⟩:=h;exact⟨q9,h1,hy _ _ _ _ h2⟩
      | 12,h=>exact absurd rfl hne
      | 13,h|14,h|15,h=>exact absurd hc (by decide)
      | _+16,_=>trivial
     obtain⟨⟨g0,gs⟩,⟨z,g3,g4⟩,g5,g6⟩:=hG;have hb1:=Ar g3 gr14 (neO g5 g3 (by decide));exact hQo _ _ (hK.out _ _ ⟨⟨_,_,rfl,own14⟩,⟨⟨g0.grown gr14 (Nat.le_trans hHI gs) (Bt g5),Nat.le_trans gs gr14.size⟩,⟨z,hb1,g4⟩,keep14 _ _ _ _ (Nat.le_refl _) g5,g6.kept gr14 (FO g6 g5 (by decide))⟩,hst _ (fun _ _ _ _ h=>Jh h gr14 hvl)⟩)
    case o13 =>
     clear hl ha hb;rw[ddq (hD 0 rfl)]at hQo⊢;clear hD hI;go_wp2;exact hK.out _ _ ⟨rfl,hG,kkp⟩
    case o14 =>
     clear hl ha hb;rw[ddq (hD 13 rfl)]at hQo⊢;clear hD hI;go_wp2;exact hK.out _ _ ⟨rfl,hG,kkp⟩
    case o15 =>
     clear hl ha hb;rw[ddq (hD 14 rfl)]at hQo⊢;have d12:∃(a3:Option Addr) (c3:Nat),(xs 12) = .slice a3 (m+1) c3∧wx.ownsRow H 5 1 (.slice a3 (m+1) c3) (m+1) (u8s out ++ [.int .u8 ((L:Int)/16777216)]):=hD 12 rfl;clear hD hI;generalize xs 12=y12 at *;obtain⟨a12,c12,rfl,o12⟩:=d12;obtain⟨z,g1,g2⟩:=hG.2.1;obtain⟨-,⟨k0,k1,k2,k3⟩,f0,f1,f2,f3⟩:=bx4 g1;go_wp2;have hst:∀(wy:World),(∀ b' own n' xs',wx.ownsRow b' 5 1 own n' xs'→wy.ownsRow b' 5 1 own n' xs')→Stbn 16 15 [[],[],[1],[1,2],[1,2,3],[],[5],[5,6],[5,6,7],[5,6,7,8],[5,6,7,8,9],[5,6,7,8,9,10],[1,2,3,4,5,6,7,8,9,10,11],[0,1,2,3,4,5,6,7,8,9,10,11,12],[0,1,2,3,4,5,6,7,8,9,10,11,12,13],[0,1,2,3,4,5,6,7,8,9,10,11,12,13,14]] (fun i own ys wx=>match i with|0=>own= .pointer (some ⟨O,0,none⟩)|1=>own= .pointer (some ⟨O,0,none⟩)|2=>own= .pointer (some ⟨O,0,none⟩)|3=>own= .pointer (some ⟨O,2,none⟩)|4=>own=vo|5=>own= .pointer (some ⟨O,0,none⟩)|6=>own= .pointer (some ⟨O,0,none⟩)|7=>own= .pointer (some ⟨O,0,none⟩)|8=>own= .int .i64 (L:Int)|9=>own= .int .i64 ((L:Int)/16777216)|10=>own= .int .u8 ((L:Int)/16777216)|11=>∃(q:Nat),own= .slice (some ⟨q,0,none⟩) 1 1∧wx.ownsRow HI 5 1 (.slice (some ⟨q,0,none⟩) 1 1) 1 [.int .u8 ((L:Int)/16777216)]|12=>∃(a3:Option Addr) (c3:Nat),own= .slice a3 (m+1) c3∧wx.ownsRow H 5 1 (.slice a3 (m+1) c3) (m+1) (u8s out ++ [.int .u8 ((L:Int)/16777216)])|13=>own= .pointer (some ⟨O,0,none⟩)|14=>own= .pointer (some ⟨O,2,none⟩)|15=>∃ v2,CM wx H O ⟨L,S0,out ++ [(L:Int)/16777216],ch⟩ v2 vc|_=>True) wx wy:=by
      intro wy hy ii hii hne hc own ys h
      match ii,h with
      | 0,h|1,h|2,h|3,h|4,h|5,h|6,h|7,h|8,h|9,h|10,h|13,h|14,h=>exact h
      | 11,h=>obtain⟨q9,h1,h2⟩:=h;exact⟨q9,h1,hy _ _ _ _ h2⟩
      | 12,h=>obtain⟨a9,c9,h1,h2⟩:=h;exact⟨a9,c9,h1,hy _ _ _ _ h2⟩
      | 15,h=>exact absurd rfl hne
      | _+16,_=>trivial
     obtain⟨⟨g0,gs⟩,-,g5,g6⟩:=hG;have gB:=gsO wx O 2 (.slice a12 (m+1) c12);have hb:=heap_setCell_same wx O 2 _ _ (.slice a12 (m+1) c12) g1;have hb2:(wx.setCell ⟨O,2,none⟩ (.slice a12 (m+1) c12)).heap[O]?=some (.cells #[.int .i64 (L:Int),.int .i64 (S0:Int),.slice a12 (m+1) c12,vc] 145 (0,0)):=by simpa using hb
     have hk:∀ b' own n' xs',wx.ownsRow b' 5 1 own n' xs'→(wx.setCell ⟨O,2,none⟩ (.slice a12 (m+1) c12)).ownsRow b' 5 1 own n' xs':=fun _ _ _ _ h=>ownsRow_setCell_other h (neO h g1 (by decide)) _
     have hrc2:=ownsRow_setCell_other g6 (a:=⟨O,2,none⟩) (neO g6 g1 (by decide)) (.slice a12 (m+1) c12);exact hQo undef _ (hK.out _ _ ⟨⟨_,CM.mk5 hb2 (hk _ _ _ _ o12) hm hrc2 hHO (by have:=gB.size;omega)⟩,⟨⟨g0.setCell hHO _,Nat.le_trans gs gB.size⟩,⟨_,hb2,fun h=>by cases h⟩,hk _ _ _ _ g5,hrc2⟩,hst _ hk⟩)
    all_goals
     clear hl ha hb hD hI;go_wp2;exact hK.out _ _ ⟨rfl,hG,kkp⟩
   clear Hext;intro xs wx hV hG0;obtain⟨Lx,hL,hG⟩:=hG0;have l15:Lx 15=true:=hL 15 (by decide);clear hL;have d15:∃ v2,CM wx H O ⟨L,S0,out ++ [(L:Int)/16777216],ch⟩ v2 vc:=hV 15 (by decide);clear hV;simp only[Ad,Nat.reduceAdd,Nat.reduceEqDiff,↓reduceIte];generalize xs 0=y0,xs 1=y1,xs 2=y2,xs 3=y3,xs 4=y4,xs 5=y5,xs 6=y6,xs 7=y7,xs 8=y8,xs 9=y9,xs 10=y10,xs 11=y11,xs 12=y12,xs 13=y13,xs 14=y14,xs 15=y15 at *
   replace hG:(Below H w wx∧HI≤wx.heap.size)∧(∃ z,wx.heap[O]?=some (.cells #[.int .i64 (L:Int),.int .i64 (S0:Int),z,vc] 145 (0,0))∧(Lx 15=false→z=vo))∧wx.ownsRow H 5 1 vo m (u8s out)∧wx.ownsRow H 3 1 vc 40 (ch64 ch):=hG
   obtain⟨v15,c15⟩:=d15;obtain⟨⟨g0,gs⟩,-⟩:=hG;obtain⟨bl,⟨k0,k1,k2,k3⟩,f0,f1,f2,f3⟩:=bx4 c15.bk;simp only at k0;have HC:=Aa c15;have HL:=Aa hL;have Hm:=Aa hm;clear c15 hvl hm hbk hro hrc;go_wp2;refine bodyPost_end (results_none rfl _ _ _) rfl ?_;refine⟨rfl,⟨v15,?_⟩,g0.setCell hHO _⟩;have hf:=HC.out.low (L%16777216*256);rw[show(((L%16777216*256:Nat)):Int)=(L:Int)%16777216*256 by omega]at hf;first|exact hf|(rw[show(((L/16777216:Nat)):Int)=(L:Int)/16777216 by omega];exact hf)|(rw[Hout.out]at hf;simp only[List.append_assoc,List.cons_append]at hf;first|exact hf|(rw[hmm]at hf;exact hf))
theorem DV (w:World)(H O s:Nat)(c:Ac)(vo vc:Value)(h:CM w H O c vo vc)(hi:c.inv s)(hs:0<s)(hn:c.out.length≤1000000):
 Calls Tryz.prog 133 #[.pointer (some ⟨O,0,none⟩)] w fun e w'=>e= .returned (.tuple #[])∧(∃ vo',CM w' H O c.shift vo' vc)∧Below H w w':=by
 by_cases hl:4294967296≤c.low
 ·exact JW w H O s c vo vc h hi hs hn hl
 ·refine(Ki w H O c vo vc h hn (by omega)).mono ?_
  rintro e w' ⟨rfl,⟨v,hC⟩,hB⟩
  refine⟨rfl,⟨v,?_⟩,hB⟩;have:c.shift=⟨c.low%16777216*256,c.span,c.out ++ [((c.low/16777216:Nat):Int)],c.ch⟩:=by
   unfold Ac.shift Ac.car Ac.lo;rw[if_neg hl,if_neg hl]
  rw[this];exact hC
theorem CM.formc {w:World}{H O:Nat}{c:Ac}{vo vc:Value}(h:CM w H O c vo vc):∃ g cap,vc= .slice (some ⟨g,0,none⟩) 40 cap∧40≤cap∧cap≤maxLen∧H≤g:=by
 rcases h.rc.2 with⟨rfl,h0⟩|⟨g,cap,cur,rfl,p0,-,p2,p3,-⟩
 ·omega
 ·exact⟨g,cap,rfl,p2,p3,p0⟩
theorem CM.cellC {w:World}{H O g n cap:Nat}{c:Ac}{vo:Value}(h:CM w H O c vo (.slice (some ⟨g,0,none⟩) n cap)){i p:Nat}(hv:c.ch[i]?=some p):w.cell? ⟨g,i,none⟩=some (.int .i64 (p:Int)):=by
 have:=h.rc.cells (g:=g) rfl i (.int .i64 (p:Int)) (by simp[ch64,hv])
 by_cases h0:i=0 <;> simpa [Addr.add,h0] using this
theorem CM.chs {w:World}{H O g cap:Nat}{c:Ac}{vo:Value}(h:CM w H O c vo (.slice (some ⟨g,0,none⟩) 40 cap))(x v:Nat):CM (w.setCell ⟨g,x,none⟩ (.int .i64 (v:Int))) H O ⟨c.low,c.span,c.out,c.ch.set x v⟩ vo (.slice (some ⟨g,0,none⟩) 40 cap):=by
 have h1:=h.cO;have h2:=FO h.rc h.ro (by decide);refine⟨Ai h.bk (fun e=>h1 (by rw[e];rfl)),?_,?_,h.hO,by simpa using h.hs⟩
 ·refine ownsRow_setCell_other h.ro ?_ _;rcases h2 with h2|h2
  ·cases h2
  ·exact fun e=>h2 (by rw[e];rfl)
 ·have o2:=(h.rc.stored x (.int .i64 (v:Int))).1;unfold ch64 at *;rw[←List.map_set]at o2
  simpa using o2
theorem Ku {l:List Nat}{x:Nat}(h:x<l.length):l[x]?=some (l.getD x 0):=by
 rw[List.getD,List.getElem?_eq_getElem h];rfl
def FW (w:World)(O:Nat):Nat:=match w.cell? ⟨O,1,none⟩with
 | some (.int _ x)=>x.toNat
 | _=>0
theorem CM.span {w:World}{H O:Nat}{c:Ac}{vo vc:Value}(h:CM w H O c vo vc):FW w O=c.span:=by
 obtain⟨bl,⟨k0,k1,k2,k3⟩,-⟩:=bx4 h.bk;simp[FW,k1]
def NI (w wr:World)(H O N:Nat)(t:Ac)(vc:Value):Prop :=
 ∃(k:Nat) (c:Ac) (vo:Value),k≤3∧CM wr H O c vo vc∧Below H w wr∧Ac.norm k c=t∧c.inv c.span∧1≤c.span∧c.span<4294967296∧16777216≤c.span*256^k∧c.out.length+k≤N
theorem Ac.norm_done {c:Ac}(k:Nat)(h:16777216≤c.span):Ac.norm k c=c:=by
 cases k with
 | zero=>rfl
 | succ k=>unfold Ac.norm;rw[if_neg (by omega)]
theorem CM.cneB {w:World}{H O g n cap B:Nat}{c:Ac}{vo:Value}{arr:Array Value}(h:CM w H O c vo (.slice (some ⟨g,0,none⟩) n cap))(hb:w.heap[B]?=some (.cells arr 118 (0,0))):some B≠some g:=by
 intro e;obtain rfl:B=g:=by simpa using e
 rcases h.rc.2 with⟨h0,-⟩|⟨g',cap',cur,h0,-,p1,-⟩
 ·cases h0
 ·cases h0;rw[hb]at p1;simp at p1
theorem Ll (w:World)(H O x bit:Nat)(c:Ac)(vo vc:Value)(h:CM w H O c vo vc)(hg:c.good)(hn:c.out.length≤900000)(hx:x<40)(hbit:bit≤1):
 Calls Tryz.prog 132 #[.pointer (some ⟨O,0,none⟩),.agg #[.int .i64 (x:Int),.int .i64 (bit:Int)]] w fun e w'=>e= .returned (.tuple #[])∧(∃ vo',CM w' H O (c.put (x,bit)) vo' vc)∧Below H w w':=by
 have hok:=Ac.upd_inv hg.1 hg.2.2.2 hg.2.1 hg.2.2.1 (bit:=bit) hx;have hbd:=Ac.bnd_rng hg.2.2.2 hg.2.1 hg.2.2.1 hx;have hlow:=hg.1.2.1;have hsp1:=hg.2.1;have hsp2:=hg.2.2.1;have hlen:=hg.2.2.2.1;obtain⟨gc,cc,rfl,hcc1,hcc2,hgc⟩:=h.formc;have Hok:=Aa hok;obtain⟨tg,htg⟩:∃ t,t=c.put (x,bit):=⟨_,rfl⟩;rw[←htg];have Htg:=Aa htg;clear hok hg htg;obtain⟨L,S0,out,ch⟩:=c;simp only at hlow hsp1 hsp2 hlen hn;obtain⟨bn,hbn0⟩:∃ q,q=(⟨L,S0,out,ch⟩:Ac).bnd x:=⟨_,rfl⟩;rw[←hbn0]at hbd;obtain⟨p,hp0⟩:∃ q,q=ch.getD x 0:=⟨_,rfl⟩;have Hp0:=Aa hp0;have hp:ch[x]?=some p:=by rw[hp0];exact Ku (by omega)
 have hset:ch.set x p=ch:=by
  obtain⟨hlt,hge⟩:=List.getElem?_eq_some_iff.1 hp;rw[←hge];exact List.set_getElem_self hlt
 simp only at hbd;rw[←hp0]at hbd;obtain⟨hb1,hb2,hq1,hq2,hp1,hp2⟩:=hbd;have hbn:(bn:Int)=(S0:Int)/4096*p:=by
  rw[hbn0];show((S0/4096*ch.getD x 0:Nat):Int)=_;rw[←hp0];simp
 have Hbn:=Aa hbn0;have HBn:=Aa hbn;have Hp:=Aa hp;have Hset:=Aa hset;clear hbn0 hbn hp hset hp0;go_enter Tryz.func132,Tryz.ntmps132
 go_upto_region 1 with fail
 have hC:=h.ext (Ext.alloc w (.cells #[.int .i64 (x:Int),.int .i64 (bit:Int)] 118));have hb0:=Aj w (.cells #[.int .i64 (x:Int),.int .i64 (bit:Int)] 118);have hBl:=(Below.refl H w).alloc h.hs (.cells #[.int .i64 (x:Int),.int .i64 (bit:Int)] 118);have hBO:O≠w.heap.size:=by have:=lt_of_block h.bk;omega
 generalize w.alloc (.cells #[.int .i64 (x:Int),.int .i64 (bit:Int)] 118)=w1 at *;obtain⟨B,hB0⟩:∃ B,B=w.heap.size:=⟨_,rfl⟩;rw[←hB0]at hb0 hBO⊢;clear hB0;refine An (by kernel_rfl) [(4,14),(5,0),(6,1),(7,2),(8,3),(9,4),(10,5),(11,6),(12,7),(13,8),(14,9),(15,10),(16,11),(17,12),(18,13)] [[],[0],[0,1],[0,1,2],[0,1,2,3],[],[5],[5,6],[5,6,7],[],[9],[5,6,7,8,9,10],[5,6,7,8,9,10,11],[0,1,2,3,4,5,6,7,8,9,10,11,12],[0,1,2,3,4,5,6,7,8,9,10,11,12,13]] (fun i own ys wx=>match i with|0=>own= .pointer (some ⟨O,0,none⟩)|1=>own= .pointer (some ⟨O,0,none⟩)|2=>own= .pointer (some ⟨O,1,none⟩)|3=>own= .int .i64 (S0:Int)|4=>own= .int .i64 ((S0:Int)/4096)|5=>own= .pointer (some ⟨O,0,none⟩)|6=>own= .pointer (some ⟨O,0,none⟩)|7=>own= .pointer (some ⟨O,3,none⟩)|8=>own= .slice (some ⟨gc,0,none⟩) 40 cc|9=>own= .pointer (some ⟨B,0,none⟩)|10=>own= .int .i64 (x:Int)|11=>own= .pointer (some ⟨gc,x,none⟩)|12=>own= .int .i64 (p:Int)|13=>own= .int .i64 (bn:Int)|14=>own= .int .i64 (bn:Int)|_=>True) (fun kx wx=>CM wx H O ⟨L,S0,out,ch⟩ vo (.slice (some ⟨gc,0,none⟩) 40 cc)∧wx.heap[B]?=some (.cells #[.int .i64 (x:Int),.int .i64 (bit:Int)] 118 (0,0))∧Below H w wx) (by kernel_rfl) (by kernel_rfl) (by kernel_rfl) ?g0_r1 ?gop_r1 ?gend_r1
 case g0_r1=>exact⟨hC.ext (Ext.drewN _ 1),(Ext.drewN _ 1).blk hb0,hBl.drew⟩
 case gop_r1 =>
  refine⟨?_,?o1,?o2,?o3,?o4,?_,?o6,?o7,?o8,?_,?o10,?o11,?o12,?o13,?o14,trivial⟩ <;> (intro kx xs wx hk hG hD hI Qo Kx hK hQo;simp only[Ad,Nat.reduceAdd,Nat.reduceEqDiff,↓reduceIte]at hQo⊢)
  case o1 =>
   rw[ddq (hD 0 rfl)]at hQo⊢;clear hD hI;go_wp2;exact hK.out _ _ ⟨rfl,hG,kkp⟩
  case o2 =>
   rw[ddq (hD 1 rfl)]at hQo⊢;clear hD hI;go_wp2;exact hK.out _ _ ⟨rfl,hG,kkp⟩
  case o3 =>
   rw[ddq (hD 2 rfl)]at hQo⊢;clear hD hI;obtain⟨-,⟨k0,k1,k2,k3⟩,-⟩:=bx4 hG.1.bk;go_wp2;exact hK.out _ _ ⟨rfl,hG,kkp⟩
  case o4 =>
   rw[ddq (hD 3 rfl)]at hQo⊢;clear hD hI;go_wp2;exact hK.out _ _ ⟨rfl,hG,kkp⟩
  case o6 =>
   rw[ddq (hD 5 rfl)]at hQo⊢;clear hD hI;go_wp2;exact hK.out _ _ ⟨rfl,hG,kkp⟩
  case o7 =>
   rw[ddq (hD 6 rfl)]at hQo⊢;clear hD hI;go_wp2;exact hK.out _ _ ⟨rfl,hG,kkp⟩
  case o8 =>
   rw[ddq (hD 7 rfl)]at hQo⊢;clear hD hI;obtain⟨-,⟨k0,k1,k2,k3⟩,-⟩:=bx4 hG.1.bk;go_wp2;exact hK.out _ _ ⟨rfl,hG,kkp⟩
  case o10 =>
   rw[ddq (hD 9 rfl)]at hQo⊢;clear hD hI;obtain⟨-,k0,k1,-⟩:=bx2 hG.2.1;go_wp2;exact hK.out _ _ ⟨rfl,hG,kkp⟩
  case o11 =>
   rw[ddq (hD 8 rfl),ddq (hD 10 rfl)]at hQo⊢;clear hD hI;go_wp2;exact hK.out _ _ ⟨rfl,hG,kkp⟩
  case o12 =>
   rw[ddq (hD 11 rfl)]at hQo⊢;clear hD hI;have k0:=hG.1.cellC Hp.out;go_wp2;exact hK.out _ _ ⟨rfl,hG,kkp⟩
  case o13 =>
   rw[ddq (hD 4 rfl),ddq (hD 12 rfl)]at hQo⊢;clear hD hI;go_wp2;exact hK.out _ _ ⟨by rw[←HBn.out];first|rfl|(congr 1;exact IntWalk.wrap64_in _ (by omega)),hG,fun _ _ _ _ _ _ h=>h⟩
  case o14 =>
   rw[ddq (hD 13 rfl)]at hQo⊢;clear hD hI;go_wp2;exact hK.out _ _ ⟨rfl,hG,kkp⟩
  all_goals
   clear hD hI;go_wp2;exact hK.out _ _ ⟨rfl,hG,kkp⟩
 intro xs wx hV hG;have d14:_=_:=hV 14 (by decide);clear hV;simp only[Ad,Nat.reduceAdd,Nat.reduceEqDiff,↓reduceIte];generalize xs 0=y0,xs 1=y1,xs 2=y2,xs 3=y3,xs 4=y4,xs 5=y5,xs 6=y6,xs 7=y7,xs 8=y8,xs 9=y9,xs 10=y10,xs 11=y11,xs 12=y12,xs 13=y13,xs 14=y14 at *
 replace hG:CM wx H O ⟨L,S0,out,ch⟩ vo (.slice (some ⟨gc,0,none⟩) 40 cc)∧wx.heap[B]?=some (.cells #[.int .i64 (x:Int),.int .i64 (bit:Int)] 118 (0,0))∧Below H w wx:=hG
 subst d14;obtain⟨hC2,hb2',hB2⟩:=hG;clear hC hb0 hBl;have hBw:B≠O:=fun e=>hBO e.symm
 obtain⟨bl,⟨k0,k1,k2,k3⟩,f0,f1,f2,f3⟩:=bx4 hC2.bk;simp only at k0 k1;obtain⟨-,j0,j1,-⟩:=bx2 hb2';have HC2:=Aa hC2;have Hb2:=Aa hb2';clear hC2 hb2' h
 by_cases h0:bit=0
 ·have hd:decide ((bit:Int)=0)=true:=by simp;omega
  go_upto_region 6 with fail
  have hC:=HC2.out.spn bn;have hb0:=Ai (i:=1) (v := .int .i64 (bn:Int)) Hb2.out hBw;have hBl:=hB2.setCell (p:=⟨O,1,none⟩) HC2.out.hO (.int .i64 (bn:Int));clear bl k0 k1 k2 k3 f0 f1 f2 f3 j0 j1 HC2 Hb2 hB2 hd;have H0:=Aa h0;clear h0;generalize World.setCell _ _ _=w3 at *;obtain⟨L2,hL2⟩:∃ q,q=L:=⟨_,rfl⟩;obtain⟨S2,hS2⟩:∃ q,q=bn:=⟨_,rfl⟩;rw[←hL2,←hS2]at hC;have HL2:=Aa hL2;have HS2:=Aa hS2;clear hL2 hS2;refine Am (by kernel_rfl) [(44,0),(45,1),(46,2),(47,3),(48,4),(49,5),(50,6),(51,7),(52,8),(53,9),(54,10),(55,11),(56,12),(57,13),(58,14),(59,15),(60,16),(61,17)] [[],[0],[0,1],[0,1,2],[],[4],[],[6],[6,7],[6,7,8],[],[10],[6,7,8,9,10,11],[6,7,8,9,10,11,12],[],[14],[6,7,8,9,10,11,12,13,14,15],[0,1,2,3,4,5,6,7,8,9,10,11,12,13,14,15,16],[0,1,2,3,4,5,6,7,8,9,10,11,12,13,14,15,16,17]] (fun i own ys wx=>match i with|0=>own= .pointer (some ⟨O,0,none⟩)|1=>own= .pointer (some ⟨O,0,none⟩)|2=>own= .pointer (some ⟨O,3,none⟩)|3=>own= .slice (some ⟨gc,0,none⟩) 40 cc|4=>own= .pointer (some ⟨B,0,none⟩)|5=>own= .int .i64 (x:Int)|6=>own= .pointer (some ⟨O,0,none⟩)|7=>own= .pointer (some ⟨O,0,none⟩)|8=>own= .pointer (some ⟨O,3,none⟩)|9=>own= .slice (some ⟨gc,0,none⟩) 40 cc|10=>own= .pointer (some ⟨B,0,none⟩)|11=>own= .int .i64 (x:Int)|12=>own= .pointer (some ⟨gc,x,none⟩)|13=>own= .int .i64 (p:Int)|14=>own= .pointer (some ⟨B,1,none⟩)|15=>own= .int .i64 (bit:Int)|16=>own= .int .i64 (nch p bit:Nat)|17=>own= .pointer (some ⟨gc,x,none⟩)|18=>∃ _z:Nat,CM wx H O ⟨L2,S2,out,ch.set x (nch p bit)⟩ vo (.slice (some ⟨gc,0,none⟩) 40 cc)|_=>True) (fun Lx wx=>(∃ q:Nat,CM wx H O ⟨L2,S2,out,ch.set x q⟩ vo (.slice (some ⟨gc,0,none⟩) 40 cc)∧(Lx 18=false→q=p))∧wx.heap[B]?=some (.cells #[.int .i64 (x:Int),.int .i64 (bit:Int)] 118 (0,0))∧Below H w wx) (by kernel_rfl) (by kernel_rfl) (by kernel_rfl) ?g0_r2 ?gop_r2 ?gend_r2
  case g0_r2=>exact⟨⟨p,by rw[Hset.out];exact hC.ext (Ext.drewN _ 1),fun _=>rfl⟩,(Ext.drewN _ 1).blk hb0,hBl.drew⟩
  case gop_r2 =>
   refine⟨?_,?o1,?o2,?o3,?_,?o5,?_,?o7,?o8,?o9,?_,?o11,?o12,?o13,?_,?o15,?o16,?o17,?o18,trivial⟩ <;> (intro Lx xs wx hG hl ha hb hD hI Qo Kx hK hQo;simp only[Ad,Nat.reduceAdd,Nat.reduceEqDiff,↓reduceIte]at hQo⊢)
   case o1 =>
    clear hl ha hb;rw[ddq (hD 0 rfl)]at hQo⊢;clear hD hI;go_wp2;exact hK.out _ _ ⟨rfl,hG,kkp⟩
   case o2 =>
    clear hl ha hb;rw[ddq (hD 1 rfl)]at hQo⊢;clear hD hI;go_wp2;exact hK.out _ _ ⟨rfl,hG,kkp⟩
   case o3 =>
    clear hl ha hb;rw[ddq (hD 2 rfl)]at hQo⊢;clear hD hI;obtain⟨q,g1,g2⟩:=hG.1;obtain⟨-,⟨k0,k1,k2,k3⟩,-⟩:=bx4 g1.bk;go_wp2;exact hK.out _ _ ⟨rfl,hG,kkp⟩
   case o5 =>
    clear hl ha hb;rw[ddq (hD 4 rfl)]at hQo⊢;clear hD hI;obtain⟨-,k0,k1,-⟩:=bx2 hG.2.1;go_wp2;exact hK.out _ _ ⟨rfl,hG,kkp⟩
   case o7 =>
    clear hl ha hb;rw[ddq (hD 6 rfl)]at hQo⊢;clear hD hI;go_wp2;exact hK.out _ _ ⟨rfl,hG,kkp⟩
   case o8 =>
    clear hl ha hb;rw[ddq (hD 7 rfl)]at hQo⊢;clear hD hI;go_wp2;exact hK.out _ _ ⟨rfl,hG,kkp⟩
   case o9 =>
    clear hl ha hb;rw[ddq (hD 8 rfl)]at hQo⊢;clear hD hI;obtain⟨q,g1,g2⟩:=hG.1;obtain⟨-,⟨k0,k1,k2,k3⟩,-⟩:=bx4 g1.bk;go_wp2;exact hK.out _ _ ⟨rfl,hG,kkp⟩
   case o11 =>
    clear hl ha hb;rw[ddq (hD 10 rfl)]at hQo⊢;clear hD hI;obtain⟨-,k0,k1,-⟩:=bx2 hG.2.1;go_wp2;exact hK.out _ _ ⟨rfl,hG,kkp⟩
   case o12 =>
    clear hl ha hb;rw[ddq (hD 9 rfl),ddq (hD 11 rfl)]at hQo⊢;clear hD hI;go_wp2;exact hK.out _ _ ⟨rfl,hG,kkp⟩
   case o13 =>
    have l18:Lx 18=false:=hb 18 rfl;clear hl ha hb;rw[ddq (hD 12 rfl)]at hQo⊢;clear hD hI;obtain⟨q,g1,g2⟩:=hG.1;obtain rfl:=g2 l18;rw[Hset.out]at g1;have k0:=g1.cellC Hp.out;go_wp2;exact hK.out _ _ ⟨rfl,hG,kkp⟩
   case o15 =>
    clear hl ha hb;rw[ddq (hD 14 rfl)]at hQo⊢;clear hD hI;obtain⟨-,k0,k1,-⟩:=bx2 hG.2.1;go_wp2;exact hK.out _ _ ⟨rfl,hG,kkp⟩
   case o16 =>
    clear hl ha hb;rw[ddq (hD 13 rfl),ddq (hD 15 rfl)]at hQo⊢;clear hD hI;go_wp2_with fail
    refine(DU p bit _ hp1 hp2 hbit).mono ?_
    rintro e wz ⟨rfl,rfl⟩
    go_wp2;exact hK.out _ _ ⟨rfl,hG,kkp⟩
   case o17 =>
    clear hl ha hb;rw[ddq (hD 3 rfl),ddq (hD 5 rfl)]at hQo⊢;clear hD hI;go_wp2;exact hK.out _ _ ⟨rfl,hG,kkp⟩
   case o18 =>
    clear hl ha hb;rw[ddq (hD 16 rfl),ddq (hD 17 rfl)]at hQo⊢;clear hD hI;obtain⟨q,g1,g2⟩:=hG.1;have f0:=g1.rc.frozenAt x;have k0:=g1.cellC (i:=x) (p:=q) (by rw[List.getElem?_set_self (by omega)]);go_wp2;have hst:∀(wy:World),True→Stbn 19 18 [[],[0],[0,1],[0,1,2],[],[4],[],[6],[6,7],[6,7,8],[],[10],[6,7,8,9,10,11],[6,7,8,9,10,11,12],[],[14],[6,7,8,9,10,11,12,13,14,15],[0,1,2,3,4,5,6,7,8,9,10,11,12,13,14,15,16],[0,1,2,3,4,5,6,7,8,9,10,11,12,13,14,15,16,17]] (fun i own ys wx=>match i with|0=>own= .pointer (some ⟨O,0,none⟩)|1=>own= .pointer (some ⟨O,0,none⟩)|2=>own= .pointer (some ⟨O,3,none⟩)|3=>own= .slice (some ⟨gc,0,none⟩) 40 cc|4=>own= .pointer (some ⟨B,0,none⟩)|5=>own= .int .i64 (x:Int)|6=>own= .pointer (some ⟨O,0,none⟩)|7=>own= .pointer (some ⟨O,0,none⟩)|8=>own= .pointer (some ⟨O,3,none⟩)|9=>own= .slice (some ⟨gc,0,none⟩) 40 cc|10=>own= .pointer (some ⟨B,0,none⟩)|11=>own= .int .i64 (x:Int)|12=>own= .pointer (some ⟨gc,x,none⟩)|13=>own= .int .i64 (p:Int)|14=>own= .pointer (some ⟨B,1,none⟩)|15=>own= .int .i64 (bit:Int)|16=>own= .int .i64 (nch p bit:Nat)|17=>own= .pointer (some ⟨gc,x,none⟩)|18=>∃ _z:Nat,CM wx H O ⟨L2,S2,out,ch.set x (nch p bit)⟩ vo (.slice (some ⟨gc,0,none⟩) 40 cc)|_=>True) wx wy:=by
     intro wy hy ii hii hne hc own ys h
     match ii,h with
     | 0,h|1,h|2,h|3,h|4,h|5,h|6,h|7,h|8,h|9,h|10,h|11,h|12,h|13,h|14,h|15,h|16,h|17,h=>exact h
     | 18,h=>exact absurd rfl hne
     | _+19,_=>trivial
    have hf:=g1.chs x (nch p bit);simp only[List.set_set]at hf;have hBg:B≠gc:=fun e=>g1.cneB hG.2.1 (by rw[e])
    exact hQo undef _ (hK.out _ _ ⟨⟨0,hf⟩,⟨⟨_,hf,fun h=>by cases h⟩,Ai hG.2.1 hBg,hG.2.2.setCell hgc _⟩,hst _ trivial⟩)
   all_goals
    clear hl ha hb hD hI;go_wp2;exact hK.out _ _ ⟨rfl,hG,kkp⟩
  intro xs wx hV hG0;obtain⟨Lx,hL,hG⟩:=hG0;have l18:Lx 18=true:=hL 18 (by decide);clear hL;have d18:∃ _z:Nat,CM wx H O ⟨L2,S2,out,ch.set x (nch p bit)⟩ vo (.slice (some ⟨gc,0,none⟩) 40 cc):=hV 18 (by decide);clear hV;simp only[Ad,Nat.reduceAdd,Nat.reduceEqDiff,↓reduceIte];generalize xs 0=y0,xs 1=y1,xs 2=y2,xs 3=y3,xs 4=y4,xs 5=y5,xs 6=y6,xs 7=y7,xs 8=y8,xs 9=y9,xs 10=y10,xs 11=y11,xs 12=y12,xs 13=y13,xs 14=y14,xs 15=y15,xs 16=y16,xs 17=y17,xs 18=y18 at *
  replace hG:(∃ q:Nat,CM wx H O ⟨L2,S2,out,ch.set x q⟩ vo (.slice (some ⟨gc,0,none⟩) 40 cc)∧(Lx 18=false→q=p))∧wx.heap[B]?=some (.cells #[.int .i64 (x:Int),.int .i64 (bit:Int)] 118 (0,0))∧Below H w wx:=hG
  obtain⟨_,c18⟩:=d18;have hu:(⟨L,S0,out,ch⟩:Ac).upd x bit=⟨L2,S2,out,ch.set x (nch p bit)⟩:=by
   unfold Ac.upd;rw[if_pos H0.out,←Hbn.out];simp only;rw[←Hp0.out,←HS2.out,←HL2.out]
  have hok:=Hok.out;rw[hu]at hok;have hN0:NI w wx H O (out.length+3) tg (.slice (some ⟨gc,0,none⟩) 40 cc):=by
   refine⟨3,_,vo,Nat.le_refl _,c18,hG.2.2,?_,hok.1,hok.2.1,hok.2.2,?_,Nat.le_refl _⟩
   ·rw[Htg.out,←hu];rfl
   ·have:=hok.2.1;simp only at this;show 16777216≤S2*256^3;omega
  have hn3:out.length+3≤900003:=by omega
  clear hlow hsp1 hsp2 hlen hn hok hu c18 hG hC hb0 hBl hp1 hp2 hb1 hb2 hq1 hq2 hcc1 hcc2;try clear Hok Htg Hbn Hp0
  obtain⟨vc,hvc⟩:∃ v,v=Value.slice (some ⟨gc,0,none⟩) 40 cc:=⟨_,rfl⟩;rw[←hvc]at hN0;have Hvc:=Aa hvc;clear hvc;go_wp2_with fail
  go_loopw [] (fun wr=>NI w wr H O (out.length+3) tg vc) (fun wr=>4294967296-FW wr O)
  case atStart=>exact hN0
  case round =>
   obtain⟨k,c1,vo1,hk,hC,hB,hno,hi1,hi2,hi3,hi4,hi5⟩:=hrel;clear hN0;have hsp:=hC.span;obtain⟨bl,⟨k0,k1,k2,k3⟩,f0,f1,f2,f3⟩:=bx4 hC.bk
   by_cases hlt:c1.span<16777216
   ·obtain⟨q,rfl⟩:∃ q,k=q+1:=by
     cases k with
     | zero=>simp at hi4;omega
     | succ q=>exact⟨q,rfl⟩
    have hsh:=Aa (DV wr H O c1.span c1 vo1 vc hC hi1 hi2 (by omega));have hwi:=Aa (Ac.wide_inv hi1 hi2 hlt);have hno2:Ac.norm q c1.wide=tg:=by rw[←hno];show _=if c1.span<16777216 then _ else _;rw[if_pos hlt]
    have hwo:c1.wide.out.length=c1.out.length+1:=by show(c1.car ++ [_]).length=_;rw[List.length_append,Ac.car_len];rfl
    have hws:c1.wide.span=c1.span*256:=rfl;have hpw:16777216≤c1.wide.span*256^q:=by rw[hws];rw[Nat.pow_succ]at hi4;rw[Nat.mul_assoc,Nat.mul_comm 256];exact hi4
    have Hrest:=Aa (⟨hno2,hwo,hpw,hi4,hno⟩:_∧_∧_∧_∧_);have hcs:c1.shift.span=c1.span:=rfl;obtain⟨S1,hS1⟩:∃ S1,S1=c1.span:=⟨_,rfl⟩;rw[←hS1]at hlt hi2 hi3 k1 hsp hcs;have HS1:=Aa hS1;have hdl:decide ((S1:Int)<16777216)=true:=by simp;omega
    have hS1i:1≤(S1:Int):=by omega
    have hS2i:(S1:Int)<16777216:=by omega
    have Hi:=Aa (⟨hi2,hi3,hlt,hi5,hk⟩:_∧_∧_∧_∧_);clear hi2 hi3 hlt hi5 hk hn3 hno2 hwo hpw hi4 hno hws hi1 hC hS1;go_wp2_with fail
    refine hsh.out.mono ?_
    rintro e w4 ⟨rfl,⟨vo2,hC4⟩,hB4⟩
    obtain⟨c4,hc4⟩:∃ c4,c4=c1.shift:=⟨_,rfl⟩;rw[←hc4]at hC4 hcs;have Hc4:=Aa hc4;clear hc4 bl k0 k1 k2 k3 f0 f1 f2 f3;obtain⟨bl,⟨k0,k1,k2,k3⟩,f0,f1,f2,f3⟩:=bx4 hC4.bk;rw[hcs]at k1;have HC4:=Aa hC4;have HB4:=Aa (hB.trans hB4);clear hC4 hB4 hB;go_wp2;go_roundw
    case rel =>
     obtain⟨r1,r2,r3,-,-⟩:=Hrest.out;obtain⟨hi2,hi3,hlt,hi5,hk⟩:=Hi.out;have hC5:=HC4.out.spn (S1*256);rw[show((S1*256:Nat):Int)=(S1:Int)*256 by omega]at hC5;refine⟨q,c1.wide,vo2,by omega,?_,HB4.out.setCell HC4.out.hO _,r1,hwi.out,?_,?_,r3,by omega⟩
     ·have:(⟨c4.low,S1*256,c4.out,c4.ch⟩:Ac)=c1.wide:=by rw[Hc4.out,HS1.out];rfl
      rw[←this];exact hC5
     ·show 1≤c1.span*256;have:=HS1.out;omega
     ·show c1.span*256<_;have:=HS1.out;omega
    case measure =>
     have hC5:=HC4.out.spn (S1*256);rw[show((S1*256:Nat):Int)=(S1:Int)*256 by omega]at hC5;have h5:=hC5.span;simp only at h5;have:=Hi.out.1;have:=Hi.out.2.2.1;rw[h5,hsp];omega
   ·have HC:=Aa hC;have hd:Ac.norm k c1=c1:=Ac.norm_done k (by omega);rw[hd]at hno;subst hno;have hdl:decide ((c1.span:Int)<16777216)=false:=by simp;omega
    clear hC hi1 hd hi2 hi3 hi4 hi5 hlt hn3;go_wp2;refine bodyPost_end (results_none rfl _ _ _) rfl ?_;exact⟨rfl,⟨vo1,by rw[←Hvc.out];exact HC.out⟩,hB⟩
 ·have hd:decide ((bit:Int)=0)=false:=by simp;omega
  go_upto_region 5 with fail
  have hC:=HC2.out.low (L+bn);rw[show((L+bn:Nat):Int)=(L:Int)+bn by omega]at hC;have hb0:=Ai (i:=0) (v := .int .i64 ((L:Int)+bn)) Hb2.out hBw;have hBl:=hB2.setCell (p:=⟨O,0,none⟩) HC2.out.hO (.int .i64 ((L:Int)+bn));clear bl k0 k1 k2 k3 f0 f1 f2 f3 j0 j1 HC2 Hb2 hB2 hd;generalize World.setCell _ _ _=w3 at *;obtain⟨bl,⟨k0,k1,k2,k3⟩,f0,f1,f2,f3⟩:=bx4 hC.bk;simp only at k0 k1;have HC2:=Aa hC;have Hb2:=Aa hb0;have hB2:=hBl;clear hC hb0 hBl;go_upto_region 6 with fail
  have hC:=HC2.out.spn (S0-bn);simp only at hC;rw[show((S0-bn:Nat):Int)=(S0:Int)-bn by omega]at hC;have hb0:=Ai (i:=1) (v := .int .i64 ((S0:Int)-bn)) Hb2.out hBw;have hBl:=hB2.setCell (p:=⟨O,1,none⟩) HC2.out.hO (.int .i64 ((S0:Int)-bn));clear bl k0 k1 k2 k3 f0 f1 f2 f3 HC2 Hb2 hB2;have H0:=Aa h0;clear h0;generalize World.setCell _ _ _=w4 at *;generalize ((bit:Int) == 0)=bb;obtain⟨L2,hL2⟩:∃ q,q=L+bn:=⟨_,rfl⟩;obtain⟨S2,hS2⟩:∃ q,q=S0-bn:=⟨_,rfl⟩;rw[←hL2,←hS2]at hC;have HL2:=Aa hL2;have HS2:=Aa hS2;clear hL2 hS2;refine Am (by kernel_rfl) [(44,0),(45,1),(46,2),(47,3),(48,4),(49,5),(50,6),(51,7),(52,8),(53,9),(54,10),(55,11),(56,12),(57,13),(58,14),(59,15),(60,16),(61,17)] [[],[0],[0,1],[0,1,2],[],[4],[],[6],[6,7],[6,7,8],[],[10],[6,7,8,9,10,11],[6,7,8,9,10,11,12],[],[14],[6,7,8,9,10,11,12,13,14,15],[0,1,2,3,4,5,6,7,8,9,10,11,12,13,14,15,16],[0,1,2,3,4,5,6,7,8,9,10,11,12,13,14,15,16,17]] (fun i own ys wx=>match i with|0=>own= .pointer (some ⟨O,0,none⟩)|1=>own= .pointer (some ⟨O,0,none⟩)|2=>own= .pointer (some ⟨O,3,none⟩)|3=>own= .slice (some ⟨gc,0,none⟩) 40 cc|4=>own= .pointer (some ⟨B,0,none⟩)|5=>own= .int .i64 (x:Int)|6=>own= .pointer (some ⟨O,0,none⟩)|7=>own= .pointer (some ⟨O,0,none⟩)|8=>own= .pointer (some ⟨O,3,none⟩)|9=>own= .slice (some ⟨gc,0,none⟩) 40 cc|10=>own= .pointer (some ⟨B,0,none⟩)|11=>own= .int .i64 (x:Int)|12=>own= .pointer (some ⟨gc,x,none⟩)|13=>own= .int .i64 (p:Int)|14=>own= .pointer (some ⟨B,1,none⟩)|15=>own= .int .i64 (bit:Int)|16=>own= .int .i64 (nch p bit:Nat)|17=>own= .pointer (some ⟨gc,x,none⟩)|18=>∃ _z:Nat,CM wx H O ⟨L2,S2,out,ch.set x (nch p bit)⟩ vo (.slice (some ⟨gc,0,none⟩) 40 cc)|_=>True) (fun Lx wx=>(∃ q:Nat,CM wx H O ⟨L2,S2,out,ch.set x q⟩ vo (.slice (some ⟨gc,0,none⟩) 40 cc)∧(Lx 18=false→q=p))∧wx.heap[B]?=some (.cells #[.int .i64 (x:Int),.int .i64 (bit:Int)] 118 (0,0))∧Below H w wx) (by kernel_rfl) (by kernel_rfl) (by kernel_rfl) ?g0_r3 ?gop_r3 ?gend_r3
  case g0_r3=>exact⟨⟨p,by rw[Hset.out];exact hC.ext (Ext.drewN _ 1),fun _=>rfl⟩,(Ext.drewN _ 1).blk hb0,hBl.drew⟩
  case gop_r3 =>
   refine⟨?_,?o1,?o2,?o3,?_,?o5,?_,?o7,?o8,?o9,?_,?o11,?o12,?o13,?_,?o15,?o16,?o17,?o18,trivial⟩ <;> (intro Lx xs wx hG hl ha hb hD hI Qo Kx hK hQo;simp only[Ad,Nat.reduceAdd,Nat.reduceEqDiff,↓reduceIte]at hQo⊢)
   case o1 =>
    clear hl ha hb;rw[ddq (hD 0 rfl)]at hQo⊢;clear hD hI;go_wp2;exact hK.out _ _ ⟨rfl,hG,kkp⟩
   case o2 =>
    clear hl ha hb;rw[ddq (hD 1 rfl)]at hQo⊢;clear hD hI;go_wp2;exact hK.out _ _ ⟨rfl,hG,kkp⟩
   case o3 =>
    clear hl ha hb;rw[ddq (hD 2 rfl)]at hQo⊢;clear hD hI;obtain⟨q,g1,g2⟩:=hG.1;obtain⟨-,⟨k0,k1,k2,k3⟩,-⟩:=bx4 g1.bk;go_wp2;exact hK.out _ _ ⟨rfl,hG,kkp⟩
   case o5 =>
    clear hl ha hb;rw[ddq (hD 4 rfl)]at hQo⊢;clear hD hI;obtain⟨-,k0,k1,-⟩:=bx2 hG.2.1;go_wp2;exact hK.out _ _ ⟨rfl,hG,kkp⟩
   case o7 =>
    clear hl ha hb;rw[ddq (hD 6 rfl)]at hQo⊢;clear hD hI;go_wp2;exact hK.out _ _ ⟨rfl,hG,kkp⟩
   case o8 =>
    clear hl ha hb;rw[ddq (hD 7 rfl)]at hQo⊢;clear hD hI;go_wp2;exact hK.out _ _ ⟨rfl,hG,kkp⟩
   case o9 =>
    clear hl ha hb;rw[ddq (hD 8 rfl)]at hQo⊢;clear hD hI;obtain⟨q,g1,g2⟩:=hG.1;obtain⟨-,⟨k0,k1,k2,k3⟩,-⟩:=bx4 g1.bk;go_wp2;exact hK.out _ _ ⟨rfl,hG,kkp⟩
   case o11 =>
    clear hl ha hb;rw[ddq (hD 10 rfl)]at hQo⊢;clear hD hI;obtain⟨-,k0,k1,-⟩:=bx2 hG.2.1;go_wp2;exact hK.out _ _ ⟨rfl,hG,kkp⟩
   case o12 =>
    clear hl ha hb;rw[ddq (hD 9 rfl),ddq (hD 11 rfl)]at hQo⊢;clear hD hI;go_wp2;exact hK.out _ _ ⟨rfl,hG,kkp⟩
   case o13 =>
    have l18:Lx 18=false:=hb 18 rfl;clear hl ha hb;rw[ddq (hD 12 rfl)]at hQo⊢;clear hD hI;obtain⟨q,g1,g2⟩:=hG.1;obtain rfl:=g2 l18;rw[Hset.out]at g1;have k0:=g1.cellC Hp.out;go_wp2;exact hK.out _ _ ⟨rfl,hG,kkp⟩
   case o15 =>
    clear hl ha hb;rw[ddq (hD 14 rfl)]at hQo⊢;clear hD hI;obtain⟨-,k0,k1,-⟩:=bx2 hG.2.1;go_wp2;exact hK.out _ _ ⟨rfl,hG,kkp⟩
   case o16 =>
    clear hl ha hb;rw[ddq (hD 13 rfl),ddq (hD 15 rfl)]at hQo⊢;clear hD hI;go_wp2_with fail
    refine(DU p bit _ hp1 hp2 hbit).mono ?_
    rintro e wz ⟨rfl,rfl⟩
    go_wp2;exact hK.out _ _ ⟨rfl,hG,kkp⟩
   case o17 =>
    clear hl ha hb;rw[ddq (hD 3 rfl),ddq (hD 5 rfl)]at hQo⊢;clear hD hI;go_wp2;exact hK.out _ _ ⟨rfl,hG,kkp⟩
   case o18 =>
    clear hl ha hb;rw[ddq (hD 16 rfl),ddq (hD 17 rfl)]at hQo⊢;clear hD hI;obtain⟨q,g1,g2⟩:=hG.1;have f0:=g1.rc.frozenAt x;have k0:=g1.cellC (i:=x) (p:=q) (by rw[List.getElem?_set_self (by omega)]);go_wp2;have hst:∀(wy:World),True→Stbn 19 18 [[],[0],[0,1],[0,1,2],[],[4],[],[6],[6,7],[6,7,8],[],[10],[6,7,8,9,10,11],[6,7,8,9,10,11,12],[],[14],[6,7,8,9,10,11,12,13,14,15],[0,1,2,3,4,5,6,7,8,9,10,11,12,13,14,15,16],[0,1,2,3,4,5,6,7,8,9,10,11,12,13,14,15,16,17]] (fun i own ys wx=>match i with|0=>own= .pointer (some ⟨O,0,none⟩)|1=>own= .pointer (some ⟨O,0,none⟩)|2=>own= .pointer (some ⟨O,3,none⟩)|3=>own= .slice (some ⟨gc,0,none⟩) 40 cc|4=>own= .pointer (some ⟨B,0,none⟩)|5=>own= .int .i64 (x:Int)|6=>own= .pointer (some ⟨O,0,none⟩)|7=>own= .pointer (some ⟨O,0,none⟩)|8=>own= .pointer (some ⟨O,3,none⟩)|9=>own= .slice (some ⟨gc,0,none⟩) 40 cc|10=>own= .pointer (some ⟨B,0,none⟩)|11=>own= .int .i64 (x:Int)|12=>own= .pointer (some ⟨gc,x,none⟩)|13=>own= .int .i64 (p:Int)|14=>own= .pointer (some ⟨B,1,none⟩)|15=>own= .int .i64 (bit:Int)|16=>own= .int .i64 (nch p bit:Nat)|17=>own= .pointer (some ⟨gc,x,none⟩)|18=>∃ _z:Nat,CM wx H O ⟨L2,S2,out,ch.set x (nch p bit)⟩ vo (.slice (some ⟨gc,0,none⟩) 40 cc)|_=>True) wx wy:=by
     intro wy hy ii hii hne hc own ys h
     match ii,h with
     | 0,h|1,h|2,h|3,h|4,h|5,h|6,h|7,h|8,h|9,h|10,h|11,h|12,h|13,h|14,h|15,h|16,h|17,h=>exact h
     | 18,h=>exact absurd rfl hne
     | _+19,_=>trivial
    have hf:=g1.chs x (nch p bit);simp only[List.set_set]at hf;have hBg:B≠gc:=fun e=>g1.cneB hG.2.1 (by rw[e])
    exact hQo undef _ (hK.out _ _ ⟨⟨0,hf⟩,⟨⟨_,hf,fun h=>by cases h⟩,Ai hG.2.1 hBg,hG.2.2.setCell hgc _⟩,hst _ trivial⟩)
   all_goals
    clear hl ha hb hD hI;go_wp2;exact hK.out _ _ ⟨rfl,hG,kkp⟩
  intro xs wx hV hG0;obtain⟨Lx,hL,hG⟩:=hG0;have l18:Lx 18=true:=hL 18 (by decide);clear hL;have d18:∃ _z:Nat,CM wx H O ⟨L2,S2,out,ch.set x (nch p bit)⟩ vo (.slice (some ⟨gc,0,none⟩) 40 cc):=hV 18 (by decide);clear hV;simp only[Ad,Nat.reduceAdd,Nat.reduceEqDiff,↓reduceIte];generalize xs 0=y0,xs 1=y1,xs 2=y2,xs 3=y3,xs 4=y4,xs 5=y5,xs 6=y6,xs 7=y7,xs 8=y8,xs 9=y9,xs 10=y10,xs 11=y11,xs 12=y12,xs 13=y13,xs 14=y14,xs 15=y15,xs 16=y16,xs 17=y17,xs 18=y18 at *
  replace hG:(∃ q:Nat,CM wx H O ⟨L2,S2,out,ch.set x q⟩ vo (.slice (some ⟨gc,0,none⟩) 40 cc)∧(Lx 18=false→q=p))∧wx.heap[B]?=some (.cells #[.int .i64 (x:Int),.int .i64 (bit:Int)] 118 (0,0))∧Below H w wx:=hG
  obtain⟨_,c18⟩:=d18;have hu:(⟨L,S0,out,ch⟩:Ac).upd x bit=⟨L2,S2,out,ch.set x (nch p bit)⟩:=by
   unfold Ac.upd;rw[if_neg H0.out,←Hbn.out];simp only;rw[←Hp0.out,HS2.out,HL2.out]
  have hok:=Hok.out;rw[hu]at hok;have hN0:NI w wx H O (out.length+3) tg (.slice (some ⟨gc,0,none⟩) 40 cc):=by
   refine⟨3,_,vo,Nat.le_refl _,c18,hG.2.2,?_,hok.1,hok.2.1,hok.2.2,?_,Nat.le_refl _⟩
   ·rw[Htg.out,←hu];rfl
   ·have:=hok.2.1;simp only at this;show 16777216≤S2*256^3;omega
  have hn3:out.length+3≤900003:=by omega
  clear hlow hsp1 hsp2 hlen hn hok hu c18 hG hC hb0 hBl hp1 hp2 hb1 hb2 hq1 hq2 hcc1 hcc2;try clear Hok Htg Hbn Hp0
  obtain⟨vc,hvc⟩:∃ v,v=Value.slice (some ⟨gc,0,none⟩) 40 cc:=⟨_,rfl⟩;rw[←hvc]at hN0;have Hvc:=Aa hvc;clear hvc;go_wp2_with fail
  go_loopw [] (fun wr=>NI w wr H O (out.length+3) tg vc) (fun wr=>4294967296-FW wr O)
  case atStart=>exact hN0
  case round =>
   obtain⟨k,c1,vo1,hk,hC,hB,hno,hi1,hi2,hi3,hi4,hi5⟩:=hrel;clear hN0;have hsp:=hC.span;obtain⟨bl,⟨k0,k1,k2,k3⟩,f0,f1,f2,f3⟩:=bx4 hC.bk
   by_cases hlt:c1.span<16777216
   ·obtain⟨q,rfl⟩:∃ q,k=q+1:=by
     cases k with
     | zero=>simp at hi4;omega
     | succ q=>exact⟨q,rfl⟩
    have hsh:=Aa (DV wr H O c1.span c1 vo1 vc hC hi1 hi2 (by omega));have hwi:=Aa (Ac.wide_inv hi1 hi2 hlt);have hno2:Ac.norm q c1.wide=tg:=by rw[←hno];show _=if c1.span<16777216 then _ else _;rw[if_pos hlt]
    have hwo:c1.wide.out.length=c1.out.length+1:=by show(c1.car ++ [_]).length=_;rw[List.length_append,Ac.car_len];rfl
    have hws:c1.wide.span=c1.span*256:=rfl;have hpw:16777216≤c1.wide.span*256^q:=by rw[hws];rw[Nat.pow_succ]at hi4;rw[Nat.mul_assoc,Nat.mul_comm 256];exact hi4
    have Hrest:=Aa (⟨hno2,hwo,hpw,hi4,hno⟩:_∧_∧_∧_∧_);have hcs:c1.shift.span=c1.span:=rfl;obtain⟨S1,hS1⟩:∃ S1,S1=c1.span:=⟨_,rfl⟩;rw[←hS1]at hlt hi2 hi3 k1 hsp hcs;have HS1:=Aa hS1;have hdl:decide ((S1:Int)<16777216)=true:=by simp;omega
    have hS1i:1≤(S1:Int):=by omega
    have hS2i:(S1:Int)<16777216:=by omega
    have Hi:=Aa (⟨hi2,hi3,hlt,hi5,hk⟩:_∧_∧_∧_∧_);clear hi2 hi3 hlt hi5 hk hn3 hno2 hwo hpw hi4 hno hws hi1 hC hS1;go_wp2_with fail
    refine hsh.out.mono ?_
    rintro e w4 ⟨rfl,⟨vo2,hC4⟩,hB4⟩
    obtain⟨c4,hc4⟩:∃ c4,c4=c1.shift:=⟨_,rfl⟩;rw[←hc4]at hC4 hcs;have Hc4:=Aa hc4;clear hc4 bl k0 k1 k2 k3 f0 f1 f2 f3;obtain⟨bl,⟨k0,k1,k2,k3⟩,f0,f1,f2,f3⟩:=bx4 hC4.bk;rw[hcs]at k1;have HC4:=Aa hC4;have HB4:=Aa (hB.trans hB4);clear hC4 hB4 hB;go_wp2;go_roundw
    case rel =>
     obtain⟨r1,r2,r3,-,-⟩:=Hrest.out;obtain⟨hi2,hi3,hlt,hi5,hk⟩:=Hi.out;have hC5:=HC4.out.spn (S1*256);rw[show((S1*256:Nat):Int)=(S1:Int)*256 by omega]at hC5;refine⟨q,c1.wide,vo2,by omega,?_,HB4.out.setCell HC4.out.hO _,r1,hwi.out,?_,?_,r3,by omega⟩
     ·have:(⟨c4.low,S1*256,c4.out,c4.ch⟩:Ac)=c1.wide:=by rw[Hc4.out,HS1.out];rfl
      rw[←this];exact hC5
     ·show 1≤c1.span*256;have:=HS1.out;omega
     ·show c1.span*256<_;have:=HS1.out;omega
    case measure =>
     have hC5:=HC4.out.spn (S1*256);rw[show((S1*256:Nat):Int)=(S1:Int)*256 by omega]at hC5;have h5:=hC5.span;simp only at h5;have:=Hi.out.1;have:=Hi.out.2.2.1;rw[h5,hsp];omega
   ·have HC:=Aa hC;have hd:Ac.norm k c1=c1:=Ac.norm_done k (by omega);rw[hd]at hno;subst hno;have hdl:decide ((c1.span:Int)<16777216)=false:=by simp;omega
    clear hC hi1 hd hi2 hi3 hi4 hi5 hlt hn3;go_wp2;refine bodyPost_end (results_none rfl _ _ _) rfl ?_;exact⟨rfl,⟨vo1,by rw[←Hvc.out];exact HC.out⟩,hB⟩
def Dv (L:List Int)(k:Nat):Bool:=decide ((0≤L.getD (k*2) 0∧L.getD (k*2) 0≤39)∧0≤L.getD (k*2+1) 0∧L.getD (k*2+1) 0≤1)
def Cb (L:List Int)(n:Nat):Bool:=(List.range n).all (Dv L) && decide (n≤20000)
def BW (L:List Int)(n:Nat):List (Nat×Nat):=(List.range n).map fun k=>((L.getD (k*2) 0).toNat,(L.getD (k*2+1) 0).toNat)
def encS (L:List Int)(n:Nat):List Int:=if Cb L n=true then encL (BW L n)else []
theorem Iu {L:List Int}{n k:Nat}(hk:k<n)(h:Dv L k=false):Cb L n=false:=by
 unfold Cb;rw[show(List.range n).all (Dv L)=false from ?_]
 ·rfl
 ·rw[List.all_eq_false];exact⟨k,by simpa using hk,by simp[h]⟩
theorem Js {L:List Int}{n:Nat}(h:∀ k,k<n→Dv L k=true):Cb L n=decide (n≤20000):=by
 unfold Cb;rw[show(List.range n).all (Dv L)=true from ?_]
 ·rfl
 ·rw[List.all_eq_true];intro k hk;exact h k (by simpa using hk)
theorem It {L:List Int}{n:Nat}(h:Cb L n=true):n≤20000∧∀ k,k<n→Dv L k=true:=by
 unfold Cb at h;rw[Bool.and_eq_true,List.all_eq_true]at h;exact⟨by simpa using h.2,fun k hk=>h.1 k (by simpa using hk)⟩
theorem Gc {w:World}{H n c:Nat}{a:Option Addr}{L:List Int}(h:w.ownsRow H 118 2 (.slice a n c) n (L.map (Value.int .i64))){k:Nat}(hk:k<n):
 ∃ g,a=some ⟨g,0,none⟩∧w.cell? ⟨g,k*2,none⟩=some (.int .i64 (L.getD (k*2) 0))∧w.cell? ⟨g,k*2+1,none⟩=some (.int .i64 (L.getD (k*2+1) 0)):=by
 have hl:L.length=n*2:=by simpa using h.1
 rcases id h.2 with⟨hv,h0⟩|⟨g,cap,cur,hv,-⟩
 ·omega
 ·simp only[Value.slice.injEq]at hv;obtain⟨rfl,-,rfl⟩:=hv;have h1:=h.cells (g:=g) rfl (k*2) (.int .i64 (L.getD (k*2) 0)) (by simp[List.getElem?_eq_getElem (show k*2<L.length by omega)]);have h2:=h.cells (g:=g) rfl (k*2+1) (.int .i64 (L.getD (k*2+1) 0)) (by simp[List.getElem?_eq_getElem (show k*2+1<L.length by omega)]);refine⟨g,rfl,?_,?_⟩
  ·by_cases h0:k*2=0 <;> simpa [Addr.add,h0] using h1
  ·simpa [Addr.add] using h2
theorem Ac.inv_mono {c:Ac}{s t:Nat}(h:c.inv s)(hst:t≤s):c.inv t:=⟨h.1,by have:=h.2.1;omega,by have:=h.2.2;omega⟩
theorem JO (L:List Int)(k:Nat):encC (BW L (k+1))=(encC (BW L k)).put ((L.getD (k*2) 0).toNat,(L.getD (k*2+1) 0).toNat):=by
 unfold BW encC;rw[List.range_succ,List.map_append,List.foldl_append];rfl
theorem FP {L:List Int}{n:Nat}(h:∀ k,k<n→Dv L k=true):∀ b∈BW L n,b.1<40:=by
 intro b hb;obtain⟨k,hk,rfl⟩:=List.mem_map.1 hb;have:=h k (by simpa using hk);simp only[Dv,decide_eq_true_eq]at this;show(L.getD (k*2) 0).toNat<40;omega
theorem Eo (L:List Int)(n:Nat):(BW L n).length=n:=by simp[BW]
def Ac.sh : Nat→Ac→Ac
 | 0,c=>c
 | k+1,c=>(Ac.sh k c).shift
theorem Ac.sh_inv {c:Ac}{s:Nat}(h:c.inv s)(hs:0<s):∀ k,(Ac.sh k c).inv 1∧(Ac.sh k c).out.length=c.out.length+k
 | 0=>⟨Ac.inv_mono h hs,rfl⟩
 | k+1=>by
  obtain⟨h1,h2⟩:=Ac.sh_inv h hs k;refine⟨Ac.inv_mono (Ac.shift_inv h1 (by omega) (by omega)) (by omega),?_⟩;show((Ac.sh k c).car ++ [_]).length=_;rw[List.length_append,Ac.car_len,h2];rfl
theorem O7 (L:List Int)(n:Nat):(encS L n).length≤60004:=by
 unfold encS
 split
 ·rename_i h
  obtain⟨h1,h2⟩:=It h;have h3:=Ht (BW L n) (FP h2);have h4:=(Ac.sh_inv h3.1.1 (by have:=h3.1.2.1;omega) 4).2;have h5:=h3.2;rw[Eo]at h5;show(Ac.sh 4 (encC (BW L n))).out.length≤_;omega
 ·simp
theorem DR (a:Option Addr)(n c H:Nat)(L:List Int)(w:World)(h:w.ownsRow H 118 2 (.slice a n c) n (L.map (Value.int .i64)))(hn:n≤2^40):
 Calls Tryz.prog 130 #[.slice a n c] w fun e w'=>e= .returned (.bool (Cb L n))∧w=w':=by
 go_enter Tryz.func130,Tryz.ntmps130
 go_wp2_with fail
 go_loopw [3] (fun i wr=>∃ k,k≤n∧i= .int .i64 (k:Nat)∧wr=w∧∀ j,j<k→Dv L j=true) (fun i _=>n-(intOf i).toNat)
 case atStart=>exact⟨0,by omega,rfl,rfl,fun j hj=>by omega⟩
 case round =>
  obtain⟨k,hk,rfl,rfl,hall⟩:=hrel;have Hall:=Aa hall;clear hall
  by_cases hlt:k<n
  ·obtain⟨g,rfl,k0,k1⟩:=Gc h hlt;obtain⟨A,hA⟩:∃ A,A=L.getD (k*2) 0:=⟨_,rfl⟩;obtain⟨B,hB⟩:∃ B,B=L.getD (k*2+1) 0:=⟨_,rfl⟩;have hbo:Dv L k=decide ((0≤A∧A≤39)∧0≤B∧B≤1):=by rw[hA,hB];rfl
   rw[←hA]at k0;rw[←hB]at k1;have Hbo:=Aa hbo;clear hbo hA hB
   by_cases h1:0≤A∧A≤39
   ·by_cases h2:0≤B∧B≤1
    ·go_wp2_with fail
     refine(Az _ _ _ _ (by omega) (by omega)).mono ?_
     rintro e w' ⟨rfl,rfl⟩
     go_wp2_with fail
     refine(Az _ _ _ _ (by omega) (by omega)).mono ?_
     rintro e w' ⟨rfl,rfl⟩
     go_wp2;go_roundw
     case rel =>
      refine⟨k+1,by omega,by go_num,by first|rfl|trivial,fun j hj => ?_⟩
      by_cases e:j=k
      ·rw[e,Hbo.out];simp;omega
      ·exact Hall.out j (by omega)
     case measure=>simp[intOf];omega
    ·have hno:=Aa (Iu hlt (by rw[Hbo.out];simp;omega));go_wp2_with fail
     refine(Az _ _ _ _ (by omega) (by omega)).mono ?_
     rintro e w' ⟨rfl,rfl⟩
     go_wp2_with fail
     refine(BU _ _ _ _ (by omega)).mono ?_
     rintro e w' ⟨rfl,rfl⟩
     go_wp2;go_ret
     exact⟨by rw[hno.out];rfl,rfl⟩
   ·have hno:=Aa (Iu hlt (by rw[Hbo.out];simp;omega));go_wp2_with fail
    refine(BU _ _ _ _ (by omega)).mono ?_
    rintro e w' ⟨rfl,rfl⟩
    go_wp2;go_ret
    exact⟨by rw[hno.out];rfl,rfl⟩
  ·obtain rfl:k=n:=by omega
   have Hy:=Aa (Js Hall.out)
   by_cases h20:k≤20000
   ·have hd:decide ((k:Int)≤20000)=true:=by simp;omega
    go_wp2;go_ret
    exact⟨by rw[Hy.out,decide_eq_true h20];rfl,rfl⟩
   ·have hd:decide ((k:Int)≤20000)=false:=by simp;omega
    go_wp2;go_ret
    exact⟨by rw[Hy.out,decide_eq_false h20];rfl,rfl⟩
theorem Gz (a:Option Addr)(n c H0:Nat)(L:List Int)(w:World)(h:w.ownsRow H0 118 2 (.slice a n c) n (L.map (Value.int .i64)))(hn:n≤2^40):
 Calls Tryz.prog 83 #[.slice a n c] w fun e w'=>∃ a' c',e= .returned (.slice a' (encS L n).length c')∧w'.ownsRow w.heap.size 5 1 (.slice a' (encS L n).length c') (encS L n).length (u8s (encS L n))∧Ext w w':=by
 by_cases hb:Cb L n=true
 ·have hs:encS L n=(Ac.sh 4 (encC (BW L n))).out:=by unfold encS;rw[if_pos hb];rfl
  rw[hs];have Hat:=Aa (It hb);have hn2:=Hat.out.1;have Hb:=Aa hb;have Hh:=Aa h;clear hb hs;go_enter Tryz.func83,Tryz.ntmps83
  go_wp2_with fail
  refine(DR a n c H0 L _ Hh.out (by omega)).mono ?_
  rintro e w' ⟨rfl,rfl⟩
  rw[Hb.out];go_wp2_with fail
  refine(Hd _).mono ?_
  rintro e w1 ⟨vch,rfl,och,E1⟩
  obtain⟨ach,cch,rfl⟩:=Al och;go_wp2_with fail
  have hO:w.heap.size≤w1.heap.size:=E1.size;have hC0:CM (w1.alloc (.cells #[.int .i64 0,.int .i64 4294967295,.slice none 0 0,.slice ach 40 cch] 145)) w.heap.size w1.heap.size Ac.init (.slice none 0 0) (.slice ach 40 cch) :=
   ⟨Aj w1 _,World.ownsRow_nil _ _ _ _,by have:=Ae och (Ext.alloc w1 (.cells #[.int .i64 0,.int .i64 4294967295,.slice none 0 0,.slice ach 40 cch] 145));simpa [ch64,Ac.init] using this,hO,by simp;omega⟩
  have E2:=E1.trans (Ext.alloc w1 (.cells #[.int .i64 0,.int .i64 4294967295,.slice none 0 0,.slice ach 40 cch] 145));clear och E1;generalize w1.alloc (.cells #[.int .i64 0,.int .i64 4294967295,.slice none 0 0,.slice ach 40 cch] 145)=w2 at *;obtain⟨O,hOe⟩:∃ O,O=w1.heap.size:=⟨_,rfl⟩;rw[←hOe]at hC0 hO⊢;clear hOe;go_loopw [4] (fun i wr=>∃(k:Nat) (vo:Value),k≤n∧i= .int .i64 (k:Nat)∧Ext w wr∧CM wr w.heap.size O (encC (BW L k)) vo (.slice ach 40 cch)) (fun i _=>n-(intOf i).toNat)
  case atStart=>exact⟨0,_,by omega,rfl,E2,hC0⟩
  case round =>
   clear hC0 E2;obtain⟨k,vo,hk,rfl,E2,hC⟩:=hrel
   by_cases hlt:k<n
   ·have hr:=Ae Hh.out E2;obtain⟨g,rfl,k0,k1⟩:=Gc hr hlt;have hok:=(Hat.out.2 k hlt);simp only[Dv,decide_eq_true_eq]at hok;obtain⟨X,hX⟩:=Int.eq_ofNat_of_zero_le hok.1.1;obtain⟨B,hB⟩:=Int.eq_ofNat_of_zero_le hok.2.1;have hps:=JO L k;rw[hX,hB]at hok hps;rw[hX]at k0;rw[hB]at k1;have hgd:=Ht (BW L k) (FP (fun j hj=>Hat.out.2 j (by omega)));rw[Eo]at hgd;have hput:=Ll wr w.heap.size O X B _ vo _ hC hgd.1 (by omega) (by omega) (by omega);have Hput:=Aa hput;have Hps:=Aa hps;clear hput hgd hps hok hX hB hr hC;go_wp2_with fail
    refine Hput.out.mono ?_
    rintro e w4 ⟨rfl,⟨vo2,hC4⟩,hB4⟩
    have E4:=Below.trans E2 hB4;have HC4:=Aa hC4;clear hC4 hB4 E2;go_wp2;go_roundw
    case rel =>
     refine⟨k+1,vo2,by omega,rfl,E4,?_⟩;rw[Hps.out];exact HC4.out
    case measure=>simp[intOf];omega
   ·obtain rfl:k=n:=by omega
    have hgd:=Ht (BW L k) (FP Hat.out.2);rw[Eo]at hgd;have hsi:=fun j=>Ac.sh_inv hgd.1.1 (show 0<(encC (BW L k)).span by have:=hgd.1.2.1;omega) j
    have hlen:(encC (BW L k)).out.length≤60000:=by have:=hgd.2;omega
    obtain⟨cE,hcE⟩:∃ q,q=encC (BW L k):=⟨_,rfl⟩;rw[←hcE]at hgd hlen hC;simp only[←hcE]at hsi;have HcE:=Aa hcE;clear hcE;have Hsi:=Aa hsi;clear hgd hsi Hat Hb Hh h;go_wp2_with fail
    go_loopw [5] (fun i wr=>∃(j:Nat) (vo:Value),j≤4∧i= .int .i64 (j:Nat)∧Ext w wr∧CM wr w.heap.size O (Ac.sh j cE) vo (.slice ach 40 cch)) (fun i _=>4-(intOf i).toNat)
    case atStart=>exact⟨0,_,by omega,rfl,E2,hC⟩
    case round =>
     clear hC E2;obtain⟨j,vo,hj,rfl,E2,hC⟩:=hrel
     by_cases hlt:j<4
     ·have hsh:=DV _ w.heap.size O 1 _ vo _ hC (Hsi.out j).1 (by omega) (by have:=(Hsi.out j).2;omega);have Hsh:=Aa hsh;clear hsh hC;go_wp2_with fail
      refine Hsh.out.mono ?_
      rintro e w4 ⟨rfl,⟨vo2,hC4⟩,hB4⟩
      have E4:=Below.trans E2 hB4;have HC4:=Aa hC4;clear hC4 hB4 E2;go_wp2;go_roundw
      case rel=>exact⟨j+1,vo2,by omega,rfl,E4,HC4.out⟩
      case measure=>simp[intOf];omega
     ·obtain rfl:j=4:=by omega
      have hd:decide (((4:Nat):Int)<4)=false:=by simp
      have hl4:=(Hsi.out 4).2;obtain⟨c6,hc6⟩:∃ q,q=Ac.sh 4 cE:=⟨_,rfl⟩;rw[←hc6]at hC hl4;have Hc6:=Aa hc6;obtain⟨bl,⟨k0,k1,k2,k3⟩,f0,f1,f2,f3⟩:=bx4 hC.bk;obtain⟨m6,hm6⟩:∃ q,q=c6.out.length:=⟨_,rfl⟩;have hro:=hC.ro;rw[←hm6]at hro;obtain⟨a5,c5,rfl⟩:=Al hro;have hm60:m6≤60004:=by omega
      have Hm6:=Aa hm6;have Hsl:=Aa (Sl.of_owns (Ae hro (Ext.alloc wr (.cells #[] 5))));have hE5:=E2.trans (Ext.alloc wr (.cells #[] 5));have o0:=World.ownsRow_made (base:=w.heap.size) (e:=5) (size:=1) wr #[] 0 E2.size (by simp) rfl;have k2':=AI (Ext.alloc wr (.cells #[] 5)) k2;have hs5:=hE5.size;clear hC hro hl4 hm6 hc6 k0 k1 k3 f0 f1 f2 f3 E2;go_wp2_with (at_builtin;refine IP _ o0 hs5 rfl _ _ 54 rfl (.int .u8 0) 1 Ry DD rfl rfl a5 m6 c5 _ rfl Hsl.out (by intro u hu;unfold u8s at hu;obtain⟨z,-,rfl⟩:=List.mem_map.1 hu;rfl) (by omega) (by omega) ?_;intro v8 w8 own8 gr8;refine Hid.out ?_)
      rw[Nat.zero_add,List.nil_append]at own8;obtain⟨a8,c8,rfl⟩:=Al own8;have E8:Ext w w8:=Ext.grown hE5 gr8 (Bt o0);clear o0 gr8 hE5 Hsl k2 k2';refine Aa ?_;go_wp2;go_ret
      rw[←HcE.out,←Hc6.out,←Hm6.out];exact⟨a8,c8,rfl,own8,E8⟩
 ·have hs:encS L n = []:=by unfold encS;rw[if_neg hb]
  rw[hs];have Hb:=Aa (show Cb L n=false by simpa using hb);clear hb hs;go_enter Tryz.func83,Tryz.ntmps83
  go_wp2_with fail
  refine(DR a n c H0 L _ h hn).mono ?_
  rintro e w' ⟨rfl,rfl⟩
  rw[Hb.out];have o0:=World.ownsRow_made (base:=w.heap.size) (e:=5) (size:=1) w #[] 0 (Nat.le_refl _) (by simp) rfl;have E0:=Ext.alloc w (.cells #[] 5);go_wp2;go_ret
  exact⟨_,_,rfl,o0,E0⟩
end Go.Proofs.YtijnbalgnhigbaaGreatDoor
