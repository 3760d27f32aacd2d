/- Equality of structs of integers: macroblocks compared. | FnChooseMacro: the chosen macroblock has the least cost of the three candidates; the walk of the law. | From the reading of an argument to the walks' words. -/
import Derived.Test.YtbnhaegidfbgbaaGreatDoorQr18
import Derived.Deep.CutRange
import Derived.ProofKit
import Derived.OpenShut
import Derived.ShutString
import Derived.ChangeOld
import Derived.Deep.Slices
import Derived.Lib.SmallJoins
set_option linter.unusedVariables false
set_option linter.unusedSimpArgs false
set_option maxRecDepth 100000
set_option maxHeartbeats 4000000
namespace Go.Proofs.YtbnhaegidfbgbaaGreatDoor
open Go.RowKit
section
variable {P : Program}
/-- Fields that follow one another from o to n, each compared as lists. -/
def EqF (P:Program) (d n:Nat):List Field→Nat→Prop
 | [],o=>o=n
 | f :: fs, o => f.name ≠ "_" ∧ f.offset = o ∧ ∃ c, EqE P f.type c d ∧ o + c ≤ n ∧ EqF P d n fs (o + c)
theorem sub_split (zs:List Int) (o c m:Nat):sub zs o (c+m)=sub zs o c++sub zs (o+c) m:=by
 unfold sub;rw[List.take_add,List.drop_drop]
theorem EqF.run {d n:Nat} (w:World) (xs ys:List Int) (hx:n≤xs.length) (hy:n≤ys.length):∀(fs:List Field) (o:Nat),EqF P d n fs o →
 (Op.eqFields d (ic xs) (ic ys) fs).run P w= .ok (decide (sub xs o (n-o)=sub ys o (n-o))) w
 | [],o,h=>by
  have h':o=n:=h;subst h';simp[Op.eqFields,sub]
 | f::fs,o,h=>by
  obtain⟨h1,h2,c,hE,hc,h3⟩:=h;obtain⟨a,b,p1,p2,p3⟩:=hE w xs ys o (by omega) (by omega);have ih:=EqF.run w xs ys hx hy fs (o+c) h3;have e:n-o=c+(n-(o+c)):=by omega
  rw[e,sub_split,sub_split];simp only[Op.eqFields,ne_eq,h1,not_false_eq_true,if_true,Sem.run_bind,h2,p1,p2,p3,Result.andThen_ok,ih]
  by_cases hs:sub xs o c=sub ys o c
  ·simp only[hs,decide_true,Bool.not_true,Bool.false_eq_true,if_false,ih]
   congr 1
   simp
  ·simp only[hs,decide_false,Bool.not_false,if_true,Sem.run_pure]
   congr 1
   symm
   rw[decide_eq_false_iff_not];intro h;exact hs (List.append_inj_left h (by rw[sub_len _ _ _ (by omega),sub_len _ _ _ (by omega)]))
theorem fieldsOf_eq {t:TypeId} {fs:Array Field} (ht:P.underlying t=some (.struct fs)):P.fieldsOf t=fs:=by simp[Program.fieldsOf,ht]
theorem EqE.struct {t:TypeId} {n d:Nat} {fs:Array Field} (ht:P.underlying t=some (.struct fs)) (hp:P.stoodInHeld t=false) (hti:(P.info? t).map (·.size)=some n) (hF:EqF P d n fs.toList 0):EqE P t n (d+1):=by
 have he:=fieldsOf_eq ht;subst he;intro w xs ys off h1 h2;have hag:=isAgg_of (P:=P) w ht rfl;cases hqt:P.info? t with
 | none=>simp[hqt]at hti
 | some jj =>
  have hst:jj.size=n:=by simpa [hqt] using hti
  refine⟨.agg (ic (sub xs off n)),.agg (ic (sub ys off n)),?_,?_,?_⟩
  ·simp[part,Sem.run_bind,hag,sizeOf,typeInfo,hqt,hst,ic_extract]
  ·simp[part,Sem.run_bind,hag,sizeOf,typeInfo,hqt,hst,ic_extract]
  ·rw[run_equalIn_struct w d t _ _ ht hp,EqF.run w _ _ (by rw[sub_len _ _ _ h1];omega) (by rw[sub_len _ _ _ h2];omega) _ 0 hF,Nat.sub_zero,sub_all _ _ (sub_len _ _ _ h1),sub_all _ _ (sub_len _ _ _ h2)]
theorem run_eql_struct_ints {t:TypeId} {n:Nat} {fs:Array Field} (ht:P.underlying t=some (.struct fs)) (hp:P.stoodInHeld t=false) (hF:EqF P 9999 n fs.toList 0) (w:World) (xs ys:List Int) (h1:xs.length=n) (h2:ys.length=n) :
 (Op.equalIn 10000 t (.agg (ic xs)) (.agg (ic ys))).run P w= .ok (decide (xs=ys)) w:=by
 have he:=fieldsOf_eq ht;subst he;rw[run_equalIn_struct w 9999 t _ _ ht hp,EqF.run w _ _ (by omega) (by omega) _ 0 hF,Nat.sub_zero,sub_all _ _ h1,sub_all _ _ h2]
/-- x == y, structs of integers. -/
theorem wpList_seql {ops:Array Oper} {rest:List Oper} {o:Oper} {a:Act} {w:World} {Q:Exit→Act→World→Prop} (t:TypeId) (x y:Operand) (t2:TypeId) (ho:o.op= .binOp .eql t x y t2) (hgd:Region.wanted o (yielded ops a.tmps)=true)
 (cs ds:Array Value) (hx:a.eval x= .agg cs) (hy:a.eval y= .agg ds) (xs ys:List Int) (hcs:cs=ic xs) (hds:ds=ic ys) {n:Nat} {fs:Array Field} (ht:P.underlying t=some (.struct fs)) (hp:P.stoodInHeld t=false) (hF:EqF P 9999 n fs.toList 0) (h1:xs.length=n) (h2:ys.length=n)
 (hm:P.eqGuardType P.depth t=false) (r:Bool) (hr:decide (xs=ys)=r) (hK:wpList P ops Q rest (a.put o.dst (.bool r)) w):wpList P ops Q (o::rest) a w:=by
 subst hcs hds hr;refine wpList_wanted hgd fun _ hK' => ?_
 unfold Oper.wp execOp;simp[ho,hx,hy,Sem.run_bind,run_eqGuard_agg w .eql t x y _ _ hm,run_eql_struct w t,run_eql_struct_ints ht hp hF w xs ys h1 h2,Result.andThen];exact hK' _ _ hK
theorem wpList_sneq {ops:Array Oper} {rest:List Oper} {o:Oper} {a:Act} {w:World} {Q:Exit→Act→World→Prop} (t:TypeId) (x y:Operand) (t2:TypeId) (ho:o.op= .binOp .neq t x y t2) (hgd:Region.wanted o (yielded ops a.tmps)=true)
 (cs ds:Array Value) (hx:a.eval x= .agg cs) (hy:a.eval y= .agg ds) (xs ys:List Int) (hcs:cs=ic xs) (hds:ds=ic ys) {n:Nat} {fs:Array Field} (ht:P.underlying t=some (.struct fs)) (hp:P.stoodInHeld t=false) (hF:EqF P 9999 n fs.toList 0) (h1:xs.length=n) (h2:ys.length=n)
 (hm:P.eqGuardType P.depth t=false) (r:Bool) (hr:decide (xs=ys)=r) (hK:wpList P ops Q rest (a.put o.dst (.bool (!r))) w):wpList P ops Q (o::rest) a w:=by
 subst hcs hds hr;refine wpList_wanted hgd fun _ hK' => ?_
 unfold Oper.wp execOp;simp[ho,hx,hy,Sem.run_bind,run_eqGuard_agg w .neq t x y _ _ hm,run_neq_struct w t,run_eql_struct_ints ht hp hF w xs ys h1 h2,Result.andThen];exact hK' _ _ (by simpa using hK)
end
theorem eqV : EqE Tryz.prog 27 2 9999:=EqE.struct (d:=9998) Tryz.underlying27 (by kernel_rfl) (by kernel_rfl) ⟨by decide,rfl,1,EqE.int Tryz.underlying3 9997,by omega,by decide,rfl,1,EqE.int Tryz.underlying3 9997,by omega,rfl⟩
theorem eqA4 : EqE Tryz.prog 28 4 9999:=EqE.arr (n:=4) Tryz.underlying28 size_int (by kernel_rfl) (EqE.int Tryz.underlying3 9997)
theorem eqA64 : EqE Tryz.prog 30 64 9999:=EqE.arr (n:=4) Tryz.underlying30 size_A16 (by kernel_rfl) (EqE.arr (n:=16) (d:=9997) Tryz.underlying29 size_int size_A16 (EqE.int Tryz.underlying3 9996))
/-- The macroblocks' fields as lists. -/
theorem eqM {fs:Array Field} (h:Tryz.prog.underlying 32=some (.struct fs)):EqF Tryz.prog 9999 71 fs.toList 0:=by
 rw[Tryz.underlying32]at h;cases h;exact⟨by decide,rfl,1,EqE.int Tryz.underlying3 9998,by omega,by decide,rfl,2,eqV,by omega,by decide,rfl,4,eqA4,by omega,by decide,rfl,64,eqA64,by omega,rfl⟩
theorem hpM : Tryz.prog.stoodInHeld 32=false:=by kernel_rfl
theorem hmM : Tryz.prog.eqGuardType Tryz.prog.depth 32=false:=by kernel_rfl
end Go.Proofs.YtbnhaegidfbgbaaGreatDoor
namespace Go.Proofs.YtbnhaegidfbgbaaGreatDoor
open Go.RowKit
theorem law_FnChooseMacro (s:Option Addr) (cc m:Nat) (bs:List Int) (w:World) (hT:TabQ w) (hn0:m≤cc∧cc≤maxLen) (sl:Sl w s m (bs.map (Value.int .u8))) (wf:∀ z∈bs,(Lit.int .u8 z).wf=true) :
 Calls Tryz.prog 5 #[.slice s m cc] w fun e w'=>e= .returned (.bool true)∧Ext w w':=by
 have hn:m≤cc∧cc≤9223372036854775807:=⟨hn0.1,hn0.2⟩;clear hn0
 by_cases hbig:1048576<m
 ·clear sl wf hT;go_enter Tryz.func5,Tryz.ntmps5
  go_wp2;go_ret
  exact⟨rfl,Below.refl _ _⟩
 have hz:=byte_rangeV wf;clear wf;go_enter Tryz.func5,Tryz.ntmps5
 go_wp2_with fail
 refine(DrawChooseMacro_any s cc m bs _ hn.1 hn.2 sl hz).mono ?_
 rintro e w1 ⟨t,r,p,a,a2,a3,c,n,c2,n2,c3,n3,x,y,qq,top,rfl,hqq,⟨hn1,hn2,s1⟩,⟨hm1,hm2,s2⟩,⟨hp1,hp2,s3⟩,E1⟩
 clear sl hz;have HS:=Lib.hid (fun(w:World) (s1:Sl w a n (t.px.map (Value.int .i64))) (s2:Sl w a2 n2 (r.px.map (Value.int .i64))) (s3:Sl w a3 n3 (p.px.map (Value.int .i64)))=>spec_ChooseMacro_any t r p x y qq top a a2 a3 c c2 c3 n n2 n3 w hn1 hm1 hp1 (by omega) (by omega) (by omega) s1 s2 s3);have HI:=Lib.hid (fun(w:World) (hT:TabQ w) (s1:Sl w a n (t.px.map (Value.int .i64))) (s2:Sl w a2 n2 (r.px.map (Value.int .i64))) (s3:Sl w a3 n3 (p.px.map (Value.int .i64)))=>impl_ChooseMacro_any t r p x y qq top a a2 a3 c c2 c3 n n2 n3 w hT hn1 hm1 hp1 (by omega) (by omega) (by omega) s1 s2 s3);have HMC:=Lib.hid (fun(m:Mac) (hm:m.ok) (w:World) (hT:TabQ w) (s1:Sl w a n (t.px.map (Value.int .i64))) (s2:Sl w a2 n2 (r.px.map (Value.int .i64))) (s3:Sl w a3 n3 (p.px.map (Value.int .i64)))=>impl_MacroCost_any t r p x y m qq top a a2 a3 c c2 c3 n n2 n3 w hT hn1 hm1 hp1 (by omega) (by omega) (by omega) s1 s2 s3 hm);have HV:=Lib.hid (fun(w:World) (s1:Sl w a n (t.px.map (Value.int .i64))) (s2:Sl w a2 n2 (r.px.map (Value.int .i64)))=>MotionSearch_any t r x y a a2 c c2 n n2 w hn1 hm1 (by omega) (by omega) s1 s2);have hpl:=ch_plain t r p x y qq top;obtain⟨⟨v0,v1⟩,hv⟩:∃ v,v=msV t r x y:=⟨_,rfl⟩;rw[←hv]at HV hpl;simp only at HV hpl;have H1:=Lib.hid (fun(w:World) (hT:TabQ w) (s1:Sl w a n (t.px.map (Value.int .i64))) (s2:Sl w a2 n2 (r.px.map (Value.int .i64)))=>impl_InterMacro_any t r x y v0 v1 qq a a2 c c2 n n2 w hT hn1 hm1 (by omega) (by omega) s1 s2);have H2:=Lib.hid (fun(w:World) (hT:TabQ w) (s1:Sl w a n (t.px.map (Value.int .i64))) (s3:Sl w a3 n3 (p.px.map (Value.int .i64)))=>impl_IntraMacro_any t p x y qq top a a3 c c3 n n3 w hT hn1 hp1 (by omega) (by omega) s1 s3);have hR:=chP_ok t r p x y qq top;have hi1:=interP_ok t r x y v0 v1 qq;have hi2:=intraP_ok t p x y qq top;obtain⟨R,hRe⟩:∃ R,R=chP t r p x y qq top:=⟨_,rfl⟩;rw[←hRe]at HS HI hpl hR;obtain⟨m1,hm1e⟩:∃ m,m=interP t r x y v0 v1 qq:=⟨_,rfl⟩;rw[←hm1e]at H1 hpl hi1;obtain⟨m2,hm2e⟩:∃ m,m=intraP t p x y qq top:=⟨_,rfl⟩;rw[←hm2e]at H2 hpl hi2;obtain⟨m0,hm0e⟩:∃ m,m=mac0:=⟨_,rfl⟩;rw[←hm0e]at hpl;have Hm0z:=Lib.hid (show m0.zs=zl 71 by rw[hm0e];exact mac0_zz);have Ho0:=Lib.hid (show m0.ok by rw[hm0e];exact mac0_ok);have Ho1:=Lib.hid hi1;have Ho2:=Lib.hid hi2;have HoR:=Lib.hid hR;have Hl0:=Lib.hid (Mac.zs_len Ho0.out);have Hl1:=Lib.hid (Mac.zs_len hi1);have Hl2:=Lib.hid (Mac.zs_len hi2);have Hrl:=Lib.hid (Mac.zs_len hR);have HB:=Lib.hid (show(m0.zs++m1.zs++m2.zs).length=213 by rw[List.length_append,List.length_append,Hl0.out,Hl1.out,Hl2.out]);have HB0:=Lib.hid (show sub (m0.zs++m1.zs++m2.zs) 0 71=m0.zs by rw[List.append_assoc];exact sub_left _ _ Hl0.out);have HB1:=Lib.hid (show sub (m0.zs++m1.zs++m2.zs) 71 71=m1.zs by unfold sub;rw[List.append_assoc,List.drop_append,Hl0.out,List.drop_of_length_le (by rw[Hl0.out];omega),Nat.sub_self,List.drop_zero,List.nil_append];have:=sub_left m1.zs m2.zs Hl1.out;unfold sub at this;rwa [List.drop_zero]at this);have HB2:=Lib.hid (show sub (m0.zs++m1.zs++m2.zs) 142 71=m2.zs by unfold sub;rw[List.drop_append,List.drop_of_length_le (by rw[List.length_append,Hl0.out,Hl1.out];omega),List.length_append,Hl0.out,Hl1.out,List.nil_append,show 142-(71+71)=0 from rfl,List.drop_zero,List.take_of_length_le (by rw[Hl2.out];omega)]);obtain⟨C,hC⟩:∃ C,C=costP t r p x y R qq top:=⟨_,rfl⟩;rw[←hC]at hpl;have HCc:=Lib.hid hC;have Hc0:=Lib.hid hpl.1;have Hc1:=Lib.hid hpl.2.1;have Hc2:=Lib.hid hpl.2.2.1;have Hin:=Lib.hid hpl.2.2.2;have L2:L3 w w1.heap.size t a n c r a2 n2 c2 p a3 n3 c3 (((w1.alloc (.cells #[.int .i64 t.w,.int .i64 t.h,.slice a n c] 25)).alloc (.cells #[.int .i64 r.w,.int .i64 r.h,.slice a2 n2 c2] 25)).alloc (.cells #[.int .i64 p.w,.int .i64 p.h,.slice a3 n3 c3] 25)):=L3.new E1 s1 s2 s3;have hsz:(((w1.alloc (.cells #[.int .i64 t.w,.int .i64 t.h,.slice a n c] 25)).alloc (.cells #[.int .i64 r.w,.int .i64 r.h,.slice a2 n2 c2] 25)).alloc (.cells #[.int .i64 p.w,.int .i64 p.h,.slice a3 n3 c3] 25)).heap.size=w1.heap.size+1+1+1:=by simp only[World.size_alloc]
 have z1:=E1.size;obtain⟨O,hO⟩:∃ O,O=w1.heap.size:=⟨_,rfl⟩;rw[←hO]at L2 hsz z1;clear hC hpl hv hRe hm1e hm2e hm0e hi1 hi2 hR hn1 hm1 hp1 s1 s2 s3 E1;go_upto_region 4 with fail
 try simp only[World.size_alloc]
 rw[←hO];clear hO;generalize (((w1.alloc (.cells #[.int .i64 t.w,.int .i64 t.h,.slice a n c] 25)).alloc (.cells #[.int .i64 r.w,.int .i64 r.h,.slice a2 n2 c2] 25)).alloc (.cells #[.int .i64 p.w,.int .i64 p.h,.slice a3 n3 c3] 25))=w2 at *;obtain⟨k0,k1,k2⟩:=PBx.cells L2.b1;obtain⟨j0,j1,j2⟩:=PBx.cells L2.b2;obtain⟨i0,i1,i2⟩:=PBx.cells L2.b3;go_wp2_with fail
 refine(HI.out _ (hT.ext L2.ex) L2.s1 L2.s2 L2.s3).mono ?_
 rintro e w3 ⟨rfl,e3⟩
 have L3':=L2.e e3;have hs3:=e3.size;clear k0 k1 k2 j0 j1 j2 i0 i1 i2 L2 HI;have y1:=sl_bound L3'.s1;have y2:=sl_bound L3'.s2;have y3:=sl_bound L3'.s3;have Q3:=IB.new w3 32 (zl 71);have e4:=Ext.alloc w3 (.cells (ic (zl 71)) 32);have L4:=L3'.e e4;obtain⟨V,hV⟩:∃ V,V=w3.heap.size:=⟨_,rfl⟩;rw[←hV]at Q3 y1 y2 y3 hs3;have HVh:=Lib.hid hV.symm;clear hV L3' e3 e4;go_wp2_with (first|(refine wpList_iallocz 32 rfl rfl 71 zeroq_M ?_;rw[HVh.out])|(refine wpList_istore 32 _ _ rfl rfl Q3 0 71 rfl _ rfl R.zs rfl size_Macro Hrl.out (by simp[zl]) ?_;intro w6 r6 gg;refine Hid.out ?_))
 rw[spl_all (by rw[Hrl.out,zl_len])]at r6;have L6:=L4.g gg (by omega) (by omega) y1 y2 y3;clear Q3 L4 y1 y2 y3 gg HVh;refine Lib.hid ?_;go_upto_region 5 with fail
 refine wp_region_inv2 (by kernel_rfl) [(36,0),(37,1),(38,2),(39,3),(40,4),(41,5),(42,6),(43,7),(44,8),(45,9)] [[],[],[],[],[],[],[],[],[1,2,3,4,5,6,7],[0,1,2,3,4,5,6,7,8]] (fun i own ys wx=>match i with|0=>own= .agg (ic R.zs)|1=>own= .agg #[.int .i64 t.w,.int .i64 t.h,.slice a n c]|2=>own= .agg #[.int .i64 r.w,.int .i64 r.h,.slice a2 n2 c2]|3=>own= .agg #[.int .i64 p.w,.int .i64 p.h,.slice a3 n3 c3]|4=>own= .int .i64 x|5=>own= .int .i64 y|6=>own= .int .i64 qq|7=>own= .int .i64 top|8=>own= .agg (ic R.zs)|9=>own= .bool false|_=>True) (fun kx wx=>Ext w6 wx) (by kernel_rfl) (by kernel_rfl) (by kernel_rfl) ?g0_r1 ?gop_r1 ?gend_r1
 case g0_r1=>exact Ext.drewN _ 1
 case gop_r1 =>
  refine⟨?o0,?o1,?o2,?o3,?_,?_,?_,?_,?o8,?o9,trivial⟩ <;> (intro kx xs wx hk hG hD hI Qo Kx hK hQo;simp only[patchS,Nat.reduceAdd,Nat.reduceEqDiff,↓reduceIte]at hQo⊢)
  case o0 =>
   clear hD hI;have rx:=r6.ext hG;go_wp2_with (refine wpList_iload 32 _ rfl rfl rx 0 71 rfl _ Tryz.underlying32 rfl size_Macro (by rw[Hrl.out];omega) _ (by rw[sub_all _ _ Hrl.out]) ?_)
   exact hK.out _ _ ⟨rfl,hG,kkp⟩
  case o1 =>
   clear hD hI;obtain⟨k0,k1,k2⟩:=PBx.cells (L6.e hG).b1;go_wp2;exact hK.out _ _ ⟨rfl,hG,kkp⟩
  case o2 =>
   clear hD hI;obtain⟨k0,k1,k2⟩:=PBx.cells (L6.e hG).b2;go_wp2;exact hK.out _ _ ⟨rfl,hG,kkp⟩
  case o3 =>
   clear hD hI;obtain⟨k0,k1,k2⟩:=PBx.cells (L6.e hG).b3;go_wp2;exact hK.out _ _ ⟨rfl,hG,kkp⟩
  case o8 =>
   rw[ddq (hD 1 rfl),ddq (hD 2 rfl),ddq (hD 3 rfl),ddq (hD 4 rfl),ddq (hD 5 rfl),ddq (hD 6 rfl),ddq (hD 7 rfl)]at hQo⊢;clear hD hI;go_wp2_with fail
   refine(HS.out _ (L6.e hG).s1 (L6.e hG).s2 (L6.e hG).s3).mono ?_
   rintro e wz ⟨rfl,ez⟩
   go_wp2;exact hK.out _ _ ⟨rfl,hG.trans ez,kkp⟩
  case o9 =>
   rw[ddq (hD 0 rfl),ddq (hD 8 rfl)]at hQo⊢;clear hD hI;go_wp2_with (refine wpList_sneq 32 _ _ _ rfl rfl _ _ rfl rfl R.zs R.zs rfl rfl Tryz.underlying32 hpM (eqM Tryz.underlying32) Hrl.out Hrl.out hmM true (by simp) ?_)
   exact hK.out _ _ ⟨rfl,hG,kkp⟩
  all_goals
   clear hD hI;go_wp2;exact hK.out _ _ ⟨rfl,hG,kkp⟩
 intro xs wx hV hG;have d9:_=_:=hV 9 (by decide);clear hV;simp only[patchS,Nat.reduceAdd,Nat.reduceEqDiff,↓reduceIte];generalize xs 0=y0,xs 1=y1,xs 2=y2,xs 3=y3,xs 4=y4,xs 5=y5,xs 6=y6,xs 7=y7,xs 8=y8,xs 9=y9 at *
 replace hG:Ext w6 wx:=hG
 subst d9;have L7:=L6.e hG;have r7:=r6.ext hG;clear L6 r6 hG HS;generalize wx=w7 at *;obtain⟨k0,k1,k2⟩:=PBx.cells L7.b1;obtain⟨j0,j1,j2⟩:=PBx.cells L7.b2;obtain⟨i0,i1,i2⟩:=PBx.cells L7.b3;go_wp2_with (refine wpList_iload 32 _ rfl rfl r7 0 71 rfl _ Tryz.underlying32 rfl size_Macro (by rw[Hrl.out];omega) _ (by rw[sub_all _ _ Hrl.out]) ?_)
 refine(HMC.out R HoR.out _ (hT.ext L7.ex) L7.s1 L7.s2 L7.s3).mono ?_
 rintro e w8 ⟨rfl,e8⟩
 rw[←HCc.out];have L8:=L7.e e8;have r8:=r7.ext e8;clear k0 k1 k2 j0 j1 j2 i0 i1 i2 L7 r7 e8;go_upto_region 8 with fail
 have hext:Stab (fun wa wb=>Ext wa wb) (fun i own ys wx=>match i with|0=>own= .agg (ic m0.zs)|1=>own= .agg #[.int .i64 t.w,.int .i64 t.h,.slice a n c]|2=>own= .agg #[.int .i64 r.w,.int .i64 r.h,.slice a2 n2 c2]|3=>own= .int .i64 x|4=>own= .int .i64 y|5=>own= .agg #[.int .i64 t.w,.int .i64 t.h,.slice a n c]|6=>own= .agg #[.int .i64 r.w,.int .i64 r.h,.slice a2 n2 c2]|7=>own= .int .i64 x|8=>own= .int .i64 y|9=>own= .agg #[.int .i64 v0,.int .i64 v1]|10=>own= .int .i64 qq|11=>own= .agg (ic m1.zs)|12=>own= .agg #[.int .i64 t.w,.int .i64 t.h,.slice a n c]|13=>own= .agg #[.int .i64 p.w,.int .i64 p.h,.slice a3 n3 c3]|14=>own= .int .i64 x|15=>own= .int .i64 y|16=>own= .int .i64 qq|17=>own= .int .i64 top|18=>own= .agg (ic m2.zs)|19=>∃ g:Nat,own= .slice (some ⟨g,0,none⟩) 3 3∧IB wx g 32 (m0.zs++m1.zs++m2.zs)|20=>∃ g:Nat,own= .slice (some ⟨g,0,none⟩) 3 3∧IB wx g 32 (m0.zs++m1.zs++m2.zs)|_=>True):=by
  intro i own ys wa wb e h
  match i,h with
  | 0,h|1,h|2,h|3,h|4,h|5,h|6,h|7,h|8,h|9,h|10,h|11,h|12,h|13,h|14,h|15,h|16,h|17,h|18,h=>exact h
  | 19,h|20,h=>obtain⟨g9,h1,h2⟩:=h;exact⟨g9,h1,h2.ext e⟩
  | _+21,_=>trivial
 have Hext:=Lib.hid hext;clear hext;refine wp_region_inv2 (by kernel_rfl) [(12,20),(55,0),(56,1),(57,2),(58,3),(59,4),(60,5),(61,6),(62,7),(63,8),(64,9),(65,10),(66,11),(67,12),(68,13),(69,14),(70,15),(71,16),(72,17),(73,18),(74,19)] [[],[],[],[],[],[],[],[],[],[5,6,7,8],[],[1,2,3,4,5,6,7,8,9,10],[],[],[],[],[],[],[1,2,3,4,5,6,7,8,9,10,11,12,13,14,15,16,17],[0,1,2,3,4,5,6,7,8,9,10,11,12,13,14,15,16,17,18],[0,1,2,3,4,5,6,7,8,9,10,11,12,13,14,15,16,17,18,19]] (fun i own ys wx=>match i with|0=>own= .agg (ic m0.zs)|1=>own= .agg #[.int .i64 t.w,.int .i64 t.h,.slice a n c]|2=>own= .agg #[.int .i64 r.w,.int .i64 r.h,.slice a2 n2 c2]|3=>own= .int .i64 x|4=>own= .int .i64 y|5=>own= .agg #[.int .i64 t.w,.int .i64 t.h,.slice a n c]|6=>own= .agg #[.int .i64 r.w,.int .i64 r.h,.slice a2 n2 c2]|7=>own= .int .i64 x|8=>own= .int .i64 y|9=>own= .agg #[.int .i64 v0,.int .i64 v1]|10=>own= .int .i64 qq|11=>own= .agg (ic m1.zs)|12=>own= .agg #[.int .i64 t.w,.int .i64 t.h,.slice a n c]|13=>own= .agg #[.int .i64 p.w,.int .i64 p.h,.slice a3 n3 c3]|14=>own= .int .i64 x|15=>own= .int .i64 y|16=>own= .int .i64 qq|17=>own= .int .i64 top|18=>own= .agg (ic m2.zs)|19=>∃ g:Nat,own= .slice (some ⟨g,0,none⟩) 3 3∧IB wx g 32 (m0.zs++m1.zs++m2.zs)|20=>∃ g:Nat,own= .slice (some ⟨g,0,none⟩) 3 3∧IB wx g 32 (m0.zs++m1.zs++m2.zs)|_=>True) (fun kx wx=>Ext w8 wx) (by kernel_rfl) (by kernel_rfl) (by kernel_rfl) ?g0_r2 ?gop_r2 ?gend_r2
 case g0_r2=>exact Ext.drewN _ 1
 case gop_r2 =>
  refine⟨?o0,?o1,?o2,?_,?_,?o5,?o6,?_,?_,?o9,?_,?o11,?o12,?o13,?_,?_,?_,?_,?o18,?o19,?o20,trivial⟩ <;> (intro kx xs wx hk hG hD hI Qo Kx hK hQo;simp only[patchS,Nat.reduceAdd,Nat.reduceEqDiff,↓reduceIte]at hQo⊢)
  case o0 =>
   clear hD hI;go_wp2;exact hK.out _ _ ⟨by rw[Hm0z.out];exact congrArg Value.agg zeroc_M,hG,fun _ _ _ _ _ _ h=>h⟩
  case o1 =>
   clear hD hI;obtain⟨k0,k1,k2⟩:=PBx.cells (L8.e hG).b1;go_wp2;exact hK.out _ _ ⟨rfl,hG,kkp⟩
  case o2 =>
   clear hD hI;obtain⟨k0,k1,k2⟩:=PBx.cells (L8.e hG).b2;go_wp2;exact hK.out _ _ ⟨rfl,hG,kkp⟩
  case o5 =>
   clear hD hI;obtain⟨k0,k1,k2⟩:=PBx.cells (L8.e hG).b1;go_wp2;exact hK.out _ _ ⟨rfl,hG,kkp⟩
  case o6 =>
   clear hD hI;obtain⟨k0,k1,k2⟩:=PBx.cells (L8.e hG).b2;go_wp2;exact hK.out _ _ ⟨rfl,hG,kkp⟩
  case o9 =>
   rw[ddq (hD 5 rfl),ddq (hD 6 rfl),ddq (hD 7 rfl),ddq (hD 8 rfl)]at hQo⊢;clear hD hI;go_wp2_with fail
   refine(HV.out _ (L8.e hG).s1 (L8.e hG).s2).mono ?_
   rintro e wz ⟨rfl,ez⟩
   go_wp2;exact hK.out _ _ ⟨rfl,hG.trans ez,fun i _ _ _ own ys h=>Hext.out i own ys _ _ ez h⟩
  case o11 =>
   rw[ddq (hD 1 rfl),ddq (hD 2 rfl),ddq (hD 3 rfl),ddq (hD 4 rfl),ddq (hD 9 rfl),ddq (hD 10 rfl)]at hQo⊢;clear hD hI;go_wp2_with fail
   refine(H1.out _ (hT.ext (L8.e hG).ex) (L8.e hG).s1 (L8.e hG).s2).mono ?_
   rintro e wz ⟨rfl,ez⟩
   go_wp2;exact hK.out _ _ ⟨rfl,hG.trans ez,fun i _ _ _ own ys h=>Hext.out i own ys _ _ ez h⟩
  case o12 =>
   clear hD hI;obtain⟨k0,k1,k2⟩:=PBx.cells (L8.e hG).b1;go_wp2;exact hK.out _ _ ⟨rfl,hG,kkp⟩
  case o13 =>
   clear hD hI;obtain⟨k0,k1,k2⟩:=PBx.cells (L8.e hG).b3;go_wp2;exact hK.out _ _ ⟨rfl,hG,kkp⟩
  case o18 =>
   rw[ddq (hD 12 rfl),ddq (hD 13 rfl),ddq (hD 14 rfl),ddq (hD 15 rfl),ddq (hD 16 rfl),ddq (hD 17 rfl)]at hQo⊢;clear hD hI;go_wp2_with fail
   refine(H2.out _ (hT.ext (L8.e hG).ex) (L8.e hG).s1 (L8.e hG).s3).mono ?_
   rintro e wz ⟨rfl,ez⟩
   go_wp2;exact hK.out _ _ ⟨rfl,hG.trans ez,fun i _ _ _ own ys h=>Hext.out i own ys _ _ ez h⟩
  case o19 =>
   rw[ddq (hD 0 rfl),ddq (hD 11 rfl),ddq (hD 18 rfl)]at hQo⊢;clear hD hI;refine wpList_bs3 _ _ _ rfl rfl m0.zs m1.zs m2.zs rfl rfl rfl Hl0.out Hl1.out Hl2.out ?_;exact hQo _ _ (hK.out _ _ ⟨⟨_,rfl,IB.new _ _ _⟩,hG.trans (Ext.alloc _ _),fun i _ _ _ own ys h=>Hext.out i own ys _ _ (Ext.alloc _ _) h⟩)
  case o20 =>
   have d19:∃ g:Nat,(xs 19) = .slice (some ⟨g,0,none⟩) 3 3∧IB wx g 32 (m0.zs++m1.zs++m2.zs):=hD 19 rfl;clear hD hI;generalize xs 19=y19 at *;obtain⟨g18,rfl,i18⟩:=d19;go_wp2;exact hK.out _ _ ⟨⟨_,rfl,i18⟩,hG,fun _ _ _ _ _ _ h=>h⟩
  all_goals
   clear hD hI;go_wp2;exact hK.out _ _ ⟨rfl,hG,kkp⟩
 clear Hext;intro xs wx hV hG;have d20:∃ g:Nat,(xs 20) = .slice (some ⟨g,0,none⟩) 3 3∧IB wx g 32 (m0.zs++m1.zs++m2.zs):=hV 20 (by decide);clear hV;simp only[patchS,Nat.reduceAdd,Nat.reduceEqDiff,↓reduceIte];generalize xs 0=y0,xs 1=y1,xs 2=y2,xs 3=y3,xs 4=y4,xs 5=y5,xs 6=y6,xs 7=y7,xs 8=y8,xs 9=y9,xs 10=y10,xs 11=y11,xs 12=y12,xs 13=y13,xs 14=y14,xs 15=y15,xs 16=y16,xs 17=y17,xs 18=y18,xs 19=y19,xs 20=y20 at *
 replace hG:Ext w8 wx:=hG
 obtain⟨G,rfl,iG⟩:=d20;have L9:=L8.e hG;have r9:=r8.ext hG;have i9:=iG;clear L8 r8 hG iG HV H1 H2;generalize wx=w9 at *;go_wp2_with fail
 go_loopw [14,13] (fun k sm wr=>∃(K:Nat) (z:Int) (bs:Bool),K≤3∧k= .int .i64 z∧z=(K:Int)∧sm= .bool bs∧(∀ j,j<K→(if j=0 then m0.zs else if j=1 then m1.zs else m2.zs)=R.zs→bs=true)∧Ext w9 wr) (fun k _ _=>(3-intOf k).toNat)
 case atStart=>exact⟨0,0,false,by omega,rfl,rfl,rfl,fun j hj=>by omega,Below.refl _ _⟩
 case round =>
  obtain⟨K,z,bs,hK,rfl,hz,rfl,hsame,Ek⟩:=hrel;obtain rfl|rfl|rfl|rfl:K=0∨K=1∨K=2∨K=3:=by omega
  ·obtain rfl:z=0:=hz;have hd:decide ((0:Int)<3)=true:=by decide
   obtain⟨D,hD⟩:∃ D,D=costP t r p x y m0 qq top:=⟨_,rfl⟩;have hDC:C≤D:=by rw[hD];exact Hc0.out
   have HD:=Lib.hid hD;clear hD;have f1:decide (D<C)=false:=by simp;omega
   have hsm:=Lib.hid hsame;clear hsame;go_upto_region 13 with fail
   refine wp_region_inv2 (by kernel_rfl) [(81,0),(82,1),(83,2),(84,3),(85,4),(86,5),(87,6),(88,7),(89,8),(90,9),(91,10),(92,11),(93,12),(94,13)] [[],[],[],[],[],[],[],[5,6],[5,6,7],[],[],[0,1,2,3,4,5,6,7,8,9,10],[],[0,1,2,3,4,5,6,7,8,9,10,11,12]] (fun i own ys wx=>match i with|0=>own= .agg #[.int .i64 t.w,.int .i64 t.h,.slice a n c]|1=>own= .agg #[.int .i64 r.w,.int .i64 r.h,.slice a2 n2 c2]|2=>own= .agg #[.int .i64 p.w,.int .i64 p.h,.slice a3 n3 c3]|3=>own= .int .i64 x|4=>own= .int .i64 y|5=>own= .slice (some ⟨G,0,none⟩) 3 3|6=>own= .int .i64 0|7=>own= .pointer (some ⟨G,0,none⟩)|8=>own= .agg (ic m0.zs)|9=>own= .int .i64 qq|10=>own= .int .i64 top|11=>own= .int .i64 D|12=>own= .int .i64 C|13=>own= .bool false|_=>True) (fun kx wx=>Ext w9 wx) (by kernel_rfl) (by kernel_rfl) (by kernel_rfl) ?g0_r3 ?gop_r3 ?gend_r3
   case g0_r3=>exact Ek.trans_drewN 1
   case gop_r3 =>
    refine⟨?o0,?o1,?o2,?_,?_,?_,?_,?o7,?o8,?_,?_,?o11,?_,?o13,trivial⟩ <;> (intro kx xs wx hk hG hD hI Qo Kx hK hQo;simp only[patchS,Nat.reduceAdd,Nat.reduceEqDiff,↓reduceIte]at hQo⊢)
    case o0 =>
     clear hD hI;obtain⟨k0,k1,k2⟩:=PBx.cells (L9.e hG).b1;go_wp2;exact hK.out _ _ ⟨rfl,hG,kkp⟩
    case o1 =>
     clear hD hI;obtain⟨k0,k1,k2⟩:=PBx.cells (L9.e hG).b2;go_wp2;exact hK.out _ _ ⟨rfl,hG,kkp⟩
    case o2 =>
     clear hD hI;obtain⟨k0,k1,k2⟩:=PBx.cells (L9.e hG).b3;go_wp2;exact hK.out _ _ ⟨rfl,hG,kkp⟩
    case o7 =>
     rw[ddq (hD 5 rfl),ddq (hD 6 rfl)]at hQo⊢;clear hD hI;go_wp2;exact hK.out _ _ ⟨rfl,hG,kkp⟩
    case o8 =>
     rw[ddq (hD 7 rfl)]at hQo⊢;clear hD hI;have ix:=i9.ext hG;go_wp2_with (refine wpList_iload 32 _ rfl rfl ix 0 71 rfl _ Tryz.underlying32 rfl size_Macro (by rw[HB.out];omega) _ (by rw[HB0.out]) ?_)
     exact hK.out _ _ ⟨rfl,hG,kkp⟩
    case o11 =>
     rw[ddq (hD 0 rfl),ddq (hD 1 rfl),ddq (hD 2 rfl),ddq (hD 3 rfl),ddq (hD 4 rfl),ddq (hD 8 rfl),ddq (hD 9 rfl),ddq (hD 10 rfl)]at hQo⊢;clear hD hI;go_wp2_with fail
     refine(HMC.out m0 Ho0.out _ (hT.ext (L9.e hG).ex) (L9.e hG).s1 (L9.e hG).s2 (L9.e hG).s3).mono ?_
     rintro e wz ⟨rfl,ez⟩
     rw[←HD.out];go_wp2;exact hK.out _ _ ⟨rfl,hG.trans ez,kkp⟩
    case o13 =>
     rw[ddq (hD 11 rfl),ddq (hD 12 rfl)]at hQo⊢;clear hD hI;go_wp2;exact hK.out _ _ ⟨rfl,hG,kkp⟩
    all_goals
     clear hD hI;go_wp2;exact hK.out _ _ ⟨rfl,hG,kkp⟩
   intro xs wx hV hG;have d13:_=_:=hV 13 (by decide);clear hV;simp only[patchS,Nat.reduceAdd,Nat.reduceEqDiff,↓reduceIte];generalize xs 0=y0,xs 1=y1,xs 2=y2,xs 3=y3,xs 4=y4,xs 5=y5,xs 6=y6,xs 7=y7,xs 8=y8,xs 9=y9,xs 10=y10,xs 11=y11,xs 12=y12,xs 13=y13 at *
   replace hG:Ext w9 wx:=hG
   subst d13;have E13:=hG;clear Ek hG;generalize wx=w13 at *;cases bs
   ·by_cases hq:m0.zs=R.zs
    ·have Hq:=Lib.hid hq;clear hq;go_upto_region 15 with fail
     refine wp_region_inv2 (by kernel_rfl) [(13,9),(95,0),(96,1),(97,2),(98,3),(99,4),(100,5),(101,6),(102,7),(103,8)] [[],[0],[0,1],[0,1],[0,1,2,3],[0,1,2,3,4],[0,1],[0,1,2,3,4,5,6],[0,1,2,3,4,5,6,7],[0,1,2,3,4,5,6,7,8]] (fun i own ys wx=>match i with|0=>own= .bool false|1=>own= .bool false|2=>own= .slice (some ⟨G,0,none⟩) 3 3|3=>own= .int .i64 0|4=>own= .pointer (some ⟨G,0,none⟩)|5=>own= .agg (ic m0.zs)|6=>own= .agg (ic R.zs)|7=>own= .bool true|8=>own= .bool true|9=>own= .bool true|_=>True) (fun kx wx=>Ext w9 wx) (by kernel_rfl) (by kernel_rfl) (by kernel_rfl) ?g0_r4 ?gop_r4 ?gend_r4
     case g0_r4=>exact E13.trans_drewN 1
     case gop_r4 =>
      refine⟨?o0,?o1,?_,?_,?o4,?o5,?o6,?o7,?o8,?o9,trivial⟩ <;> (intro kx xs wx hk hG hD hI Qo Kx hK hQo;simp only[patchS,Nat.reduceAdd,Nat.reduceEqDiff,↓reduceIte]at hQo⊢)
      case o0 =>
       have i9:=hI 9 13 rfl rfl;simp only[List.getD_cons_succ,List.getD_cons_zero]at i9;clear hD hI;rw[i9]at hQo⊢;clear i9;go_wp2;exact hK.out _ _ ⟨rfl,hG,kkp⟩
      case o1 =>
       rw[ddq (hD 0 rfl)]at hQo⊢;clear hD hI;go_wp2;exact hK.out _ _ ⟨rfl,hG,kkp⟩
      case o4 =>
       rw[ddq (hD 2 rfl),ddq (hD 3 rfl),ddq (hD 1 rfl)]at hQo⊢;clear hD hI;go_wp2;exact hK.out _ _ ⟨rfl,hG,kkp⟩
      case o5 =>
       rw[ddq (hD 4 rfl),ddq (hD 1 rfl)]at hQo⊢;clear hD hI;have ix:=i9.ext hG;go_wp2_with (refine wpList_iload 32 _ rfl rfl ix 0 71 rfl _ Tryz.underlying32 rfl size_Macro (by rw[HB.out];omega) _ (by rw[HB0.out]) ?_)
       exact hK.out _ _ ⟨rfl,hG,kkp⟩
      case o6 =>
       rw[ddq (hD 1 rfl)]at hQo⊢;clear hD hI;have rx:=r9.ext hG;go_wp2_with (refine wpList_iload 32 _ rfl rfl rx 0 71 rfl _ Tryz.underlying32 rfl size_Macro (by rw[Hrl.out];omega) _ (by rw[sub_all _ _ Hrl.out]) ?_)
       exact hK.out _ _ ⟨rfl,hG,kkp⟩
      case o7 =>
       rw[ddq (hD 5 rfl),ddq (hD 6 rfl),ddq (hD 1 rfl)]at hQo⊢;clear hD hI;go_wp2_with (refine wpList_seql 32 _ _ _ rfl rfl _ _ rfl rfl m0.zs R.zs rfl rfl Tryz.underlying32 hpM (eqM Tryz.underlying32) Hl0.out Hrl.out hmM true (by rw[Hq.out];simp) ?_)
       exact hK.out _ _ ⟨rfl,hG,kkp⟩
      case o8 =>
       rw[ddq (hD 1 rfl),ddq (hD 7 rfl)]at hQo⊢;clear hD hI;go_wp2;exact hK.out _ _ ⟨rfl,hG,kkp⟩
      case o9 =>
       rw[ddq (hD 8 rfl)]at hQo⊢;clear hD hI;go_wp2;exact hK.out _ _ ⟨rfl,hG,kkp⟩
      all_goals
       rw[ddq (hD 1 rfl)]at hQo⊢;clear hD hI;go_wp2;exact hK.out _ _ ⟨rfl,hG,kkp⟩
     intro xs wx hV hG;have d9:_=_:=hV 9 (by decide);clear hV;simp only[patchS,Nat.reduceAdd,Nat.reduceEqDiff,↓reduceIte];generalize xs 0=y0,xs 1=y1,xs 2=y2,xs 3=y3,xs 4=y4,xs 5=y5,xs 6=y6,xs 7=y7,xs 8=y8,xs 9=y9 at *
     replace hG:Ext w9 wx:=hG
     subst d9;have E15:=hG;clear E13 hG;generalize wx=w15 at *;go_wp2;go_roundw
     case rel=>exact⟨1,1,true,by omega,rfl,rfl,rfl,fun _ _ _=>rfl,E15⟩
     case measure=>simp[intOf]
    ·have Hq:=Lib.hid hq;clear hq;go_upto_region 15 with fail
     refine wp_region_inv2 (by kernel_rfl) [(13,9),(95,0),(96,1),(97,2),(98,3),(99,4),(100,5),(101,6),(102,7),(103,8)] [[],[0],[0,1],[0,1],[0,1,2,3],[0,1,2,3,4],[0,1],[0,1,2,3,4,5,6],[0,1,2,3,4,5,6,7],[0,1,2,3,4,5,6,7,8]] (fun i own ys wx=>match i with|0=>own= .bool false|1=>own= .bool false|2=>own= .slice (some ⟨G,0,none⟩) 3 3|3=>own= .int .i64 0|4=>own= .pointer (some ⟨G,0,none⟩)|5=>own= .agg (ic m0.zs)|6=>own= .agg (ic R.zs)|7=>own= .bool false|8=>own= .bool false|9=>own= .bool false|_=>True) (fun kx wx=>Ext w9 wx) (by kernel_rfl) (by kernel_rfl) (by kernel_rfl) ?g0_r5 ?gop_r5 ?gend_r5
     case g0_r5=>exact E13.trans_drewN 1
     case gop_r5 =>
      refine⟨?o0,?o1,?_,?_,?o4,?o5,?o6,?o7,?o8,?o9,trivial⟩ <;> (intro kx xs wx hk hG hD hI Qo Kx hK hQo;simp only[patchS,Nat.reduceAdd,Nat.reduceEqDiff,↓reduceIte]at hQo⊢)
      case o0 =>
       have i9:=hI 9 13 rfl rfl;simp only[List.getD_cons_succ,List.getD_cons_zero]at i9;clear hD hI;rw[i9]at hQo⊢;clear i9;go_wp2;exact hK.out _ _ ⟨rfl,hG,kkp⟩
      case o1 =>
       rw[ddq (hD 0 rfl)]at hQo⊢;clear hD hI;go_wp2;exact hK.out _ _ ⟨rfl,hG,kkp⟩
      case o4 =>
       rw[ddq (hD 2 rfl),ddq (hD 3 rfl),ddq (hD 1 rfl)]at hQo⊢;clear hD hI;go_wp2;exact hK.out _ _ ⟨rfl,hG,kkp⟩
      case o5 =>
       rw[ddq (hD 4 rfl),ddq (hD 1 rfl)]at hQo⊢;clear hD hI;have ix:=i9.ext hG;go_wp2_with (refine wpList_iload 32 _ rfl rfl ix 0 71 rfl _ Tryz.underlying32 rfl size_Macro (by rw[HB.out];omega) _ (by rw[HB0.out]) ?_)
       exact hK.out _ _ ⟨rfl,hG,kkp⟩
      case o6 =>
       rw[ddq (hD 1 rfl)]at hQo⊢;clear hD hI;have rx:=r9.ext hG;go_wp2_with (refine wpList_iload 32 _ rfl rfl rx 0 71 rfl _ Tryz.underlying32 rfl size_Macro (by rw[Hrl.out];omega) _ (by rw[sub_all _ _ Hrl.out]) ?_)
       exact hK.out _ _ ⟨rfl,hG,kkp⟩
      case o7 =>
       rw[ddq (hD 5 rfl),ddq (hD 6 rfl),ddq (hD 1 rfl)]at hQo⊢;clear hD hI;go_wp2_with (refine wpList_seql 32 _ _ _ rfl rfl _ _ rfl rfl m0.zs R.zs rfl rfl Tryz.underlying32 hpM (eqM Tryz.underlying32) Hl0.out Hrl.out hmM false (by simpa using Hq.out) ?_)
       exact hK.out _ _ ⟨rfl,hG,kkp⟩
      case o8 =>
       rw[ddq (hD 1 rfl),ddq (hD 7 rfl)]at hQo⊢;clear hD hI;go_wp2;exact hK.out _ _ ⟨rfl,hG,kkp⟩
      case o9 =>
       rw[ddq (hD 8 rfl)]at hQo⊢;clear hD hI;go_wp2;exact hK.out _ _ ⟨rfl,hG,kkp⟩
      all_goals
       rw[ddq (hD 1 rfl)]at hQo⊢;clear hD hI;go_wp2;exact hK.out _ _ ⟨rfl,hG,kkp⟩
     intro xs wx hV hG;have d9:_=_:=hV 9 (by decide);clear hV;simp only[patchS,Nat.reduceAdd,Nat.reduceEqDiff,↓reduceIte];generalize xs 0=y0,xs 1=y1,xs 2=y2,xs 3=y3,xs 4=y4,xs 5=y5,xs 6=y6,xs 7=y7,xs 8=y8,xs 9=y9 at *
     replace hG:Ext w9 wx:=hG
     subst d9;have E15:=hG;clear E13 hG;generalize wx=w15 at *;go_wp2;go_roundw
     case rel =>
      refine⟨1,1,false,by omega,rfl,rfl,rfl,fun j hj he => ?_,E15⟩
      by_cases hjk:j=0
      ·subst hjk;exact absurd he Hq.out
      ·exact hsm.out j (by omega) he
     case measure=>simp[intOf]
   ·go_upto_region 15 with fail
    refine wp_region_inv2 (by kernel_rfl) [(13,9),(95,0),(96,1),(97,2),(98,3),(99,4),(100,5),(101,6),(102,7),(103,8)] [[],[0],[0,1],[0,1],[0,1,2,3],[0,1,2,3,4],[0,1],[0,1,2,3,4,5,6],[0,1,2,3,4,5,6,7],[0,1,2,3,4,5,6,7,8]] (fun i own ys wx=>match i with|0=>own= .bool true|1=>own= .bool true|2=>True|3=>True|4=>True|5=>True|6=>True|7=>True|8=>own= .bool true|9=>own= .bool true|_=>True) (fun kx wx=>Ext w9 wx) (by kernel_rfl) (by kernel_rfl) (by kernel_rfl) ?g0_r6 ?gop_r6 ?gend_r6
    case g0_r6=>exact E13.trans_drewN 1
    case gop_r6 =>
     refine⟨?o0,?o1,?_,?_,?o4,?o5,?_,?o7,?o8,?o9,trivial⟩ <;> (intro kx xs wx hk hG hD hI Qo Kx hK hQo;simp only[patchS,Nat.reduceAdd,Nat.reduceEqDiff,↓reduceIte]at hQo⊢)
     case o0 =>
      have i9:=hI 9 13 rfl rfl;simp only[List.getD_cons_succ,List.getD_cons_zero]at i9;clear hD hI;rw[i9]at hQo⊢;clear i9;go_wp2;exact hK.out _ _ ⟨rfl,hG,kkp⟩
     case o1 =>
      rw[ddq (hD 0 rfl)]at hQo⊢;clear hD hI;go_wp2;exact hK.out _ _ ⟨rfl,hG,kkp⟩
     case o4 =>
      rw[ddq (hD 1 rfl)]at hQo⊢;have d2:True:=hD 2 rfl;have d3:True:=hD 3 rfl;clear hD hI;generalize xs 2=y2 at *;generalize xs 3=y3 at *;go_wp2;exact hK.out _ _ ⟨trivial,hG,fun _ _ _ _ _ _ h=>h⟩
     case o5 =>
      rw[ddq (hD 1 rfl)]at hQo⊢;have d4:True:=hD 4 rfl;clear hD hI;generalize xs 4=y4 at *;go_wp2;exact hK.out _ _ ⟨trivial,hG,fun _ _ _ _ _ _ h=>h⟩
     case o7 =>
      rw[ddq (hD 1 rfl)]at hQo⊢;have d5:True:=hD 5 rfl;have d6:True:=hD 6 rfl;clear hD hI;generalize xs 5=y5 at *;generalize xs 6=y6 at *;go_wp2;exact hK.out _ _ ⟨trivial,hG,fun _ _ _ _ _ _ h=>h⟩
     case o8 =>
      rw[ddq (hD 1 rfl)]at hQo⊢;have d7:True:=hD 7 rfl;clear hD hI;generalize xs 7=y7 at *;go_wp2;exact hK.out _ _ ⟨rfl,hG,kkp⟩
     case o9 =>
      rw[ddq (hD 8 rfl)]at hQo⊢;clear hD hI;go_wp2;exact hK.out _ _ ⟨rfl,hG,kkp⟩
     all_goals
      rw[ddq (hD 1 rfl)]at hQo⊢;clear hD hI;go_wp2;exact hK.out _ _ ⟨trivial,hG,fun _ _ _ _ _ _ h=>h⟩
    intro xs wx hV hG;have d9:_=_:=hV 9 (by decide);clear hV;simp only[patchS,Nat.reduceAdd,Nat.reduceEqDiff,↓reduceIte];generalize xs 0=y0,xs 1=y1,xs 2=y2,xs 3=y3,xs 4=y4,xs 5=y5,xs 6=y6,xs 7=y7,xs 8=y8,xs 9=y9 at *
    replace hG:Ext w9 wx:=hG
    subst d9;have E15:=hG;clear E13 hG;generalize wx=w15 at *;go_wp2;go_roundw
    case rel=>exact⟨1,1,true,by omega,rfl,rfl,rfl,fun _ _ _=>rfl,E15⟩
    case measure=>simp[intOf]
  ·obtain rfl:z=1:=hz;have hd:decide ((1:Int)<3)=true:=by decide
   obtain⟨D,hD⟩:∃ D,D=costP t r p x y m1 qq top:=⟨_,rfl⟩;have hDC:C≤D:=by rw[hD];exact Hc1.out
   have HD:=Lib.hid hD;clear hD;have f1:decide (D<C)=false:=by simp;omega
   have hsm:=Lib.hid hsame;clear hsame;go_upto_region 13 with fail
   refine wp_region_inv2 (by kernel_rfl) [(81,0),(82,1),(83,2),(84,3),(85,4),(86,5),(87,6),(88,7),(89,8),(90,9),(91,10),(92,11),(93,12),(94,13)] [[],[],[],[],[],[],[],[5,6],[5,6,7],[],[],[0,1,2,3,4,5,6,7,8,9,10],[],[0,1,2,3,4,5,6,7,8,9,10,11,12]] (fun i own ys wx=>match i with|0=>own= .agg #[.int .i64 t.w,.int .i64 t.h,.slice a n c]|1=>own= .agg #[.int .i64 r.w,.int .i64 r.h,.slice a2 n2 c2]|2=>own= .agg #[.int .i64 p.w,.int .i64 p.h,.slice a3 n3 c3]|3=>own= .int .i64 x|4=>own= .int .i64 y|5=>own= .slice (some ⟨G,0,none⟩) 3 3|6=>own= .int .i64 1|7=>own= .pointer (some ⟨G,71,none⟩)|8=>own= .agg (ic m1.zs)|9=>own= .int .i64 qq|10=>own= .int .i64 top|11=>own= .int .i64 D|12=>own= .int .i64 C|13=>own= .bool false|_=>True) (fun kx wx=>Ext w9 wx) (by kernel_rfl) (by kernel_rfl) (by kernel_rfl) ?g0_r7 ?gop_r7 ?gend_r7
   case g0_r7=>exact Ek.trans_drewN 1
   case gop_r7 =>
    refine⟨?o0,?o1,?o2,?_,?_,?_,?_,?o7,?o8,?_,?_,?o11,?_,?o13,trivial⟩ <;> (intro kx xs wx hk hG hD hI Qo Kx hK hQo;simp only[patchS,Nat.reduceAdd,Nat.reduceEqDiff,↓reduceIte]at hQo⊢)
    case o0 =>
     clear hD hI;obtain⟨k0,k1,k2⟩:=PBx.cells (L9.e hG).b1;go_wp2;exact hK.out _ _ ⟨rfl,hG,kkp⟩
    case o1 =>
     clear hD hI;obtain⟨k0,k1,k2⟩:=PBx.cells (L9.e hG).b2;go_wp2;exact hK.out _ _ ⟨rfl,hG,kkp⟩
    case o2 =>
     clear hD hI;obtain⟨k0,k1,k2⟩:=PBx.cells (L9.e hG).b3;go_wp2;exact hK.out _ _ ⟨rfl,hG,kkp⟩
    case o7 =>
     rw[ddq (hD 5 rfl),ddq (hD 6 rfl)]at hQo⊢;clear hD hI;go_wp2;exact hK.out _ _ ⟨rfl,hG,kkp⟩
    case o8 =>
     rw[ddq (hD 7 rfl)]at hQo⊢;clear hD hI;have ix:=i9.ext hG;go_wp2_with (refine wpList_iload 32 _ rfl rfl ix 71 71 rfl _ Tryz.underlying32 rfl size_Macro (by rw[HB.out];omega) _ (by rw[HB1.out]) ?_)
     exact hK.out _ _ ⟨rfl,hG,kkp⟩
    case o11 =>
     rw[ddq (hD 0 rfl),ddq (hD 1 rfl),ddq (hD 2 rfl),ddq (hD 3 rfl),ddq (hD 4 rfl),ddq (hD 8 rfl),ddq (hD 9 rfl),ddq (hD 10 rfl)]at hQo⊢;clear hD hI;go_wp2_with fail
     refine(HMC.out m1 Ho1.out _ (hT.ext (L9.e hG).ex) (L9.e hG).s1 (L9.e hG).s2 (L9.e hG).s3).mono ?_
     rintro e wz ⟨rfl,ez⟩
     rw[←HD.out];go_wp2;exact hK.out _ _ ⟨rfl,hG.trans ez,kkp⟩
    case o13 =>
     rw[ddq (hD 11 rfl),ddq (hD 12 rfl)]at hQo⊢;clear hD hI;go_wp2;exact hK.out _ _ ⟨rfl,hG,kkp⟩
    all_goals
     clear hD hI;go_wp2;exact hK.out _ _ ⟨rfl,hG,kkp⟩
   intro xs wx hV hG;have d13:_=_:=hV 13 (by decide);clear hV;simp only[patchS,Nat.reduceAdd,Nat.reduceEqDiff,↓reduceIte];generalize xs 0=y0,xs 1=y1,xs 2=y2,xs 3=y3,xs 4=y4,xs 5=y5,xs 6=y6,xs 7=y7,xs 8=y8,xs 9=y9,xs 10=y10,xs 11=y11,xs 12=y12,xs 13=y13 at *
   replace hG:Ext w9 wx:=hG
   subst d13;have E13:=hG;clear Ek hG;generalize wx=w13 at *;cases bs
   ·by_cases hq:m1.zs=R.zs
    ·have Hq:=Lib.hid hq;clear hq;go_upto_region 15 with fail
     refine wp_region_inv2 (by kernel_rfl) [(13,9),(95,0),(96,1),(97,2),(98,3),(99,4),(100,5),(101,6),(102,7),(103,8)] [[],[0],[0,1],[0,1],[0,1,2,3],[0,1,2,3,4],[0,1],[0,1,2,3,4,5,6],[0,1,2,3,4,5,6,7],[0,1,2,3,4,5,6,7,8]] (fun i own ys wx=>match i with|0=>own= .bool false|1=>own= .bool false|2=>own= .slice (some ⟨G,0,none⟩) 3 3|3=>own= .int .i64 1|4=>own= .pointer (some ⟨G,71,none⟩)|5=>own= .agg (ic m1.zs)|6=>own= .agg (ic R.zs)|7=>own= .bool true|8=>own= .bool true|9=>own= .bool true|_=>True) (fun kx wx=>Ext w9 wx) (by kernel_rfl) (by kernel_rfl) (by kernel_rfl) ?g0_r8 ?gop_r8 ?gend_r8
     case g0_r8=>exact E13.trans_drewN 1
     case gop_r8 =>
      refine⟨?o0,?o1,?_,?_,?o4,?o5,?o6,?o7,?o8,?o9,trivial⟩ <;> (intro kx xs wx hk hG hD hI Qo Kx hK hQo;simp only[patchS,Nat.reduceAdd,Nat.reduceEqDiff,↓reduceIte]at hQo⊢)
      case o0 =>
       have i9:=hI 9 13 rfl rfl;simp only[List.getD_cons_succ,List.getD_cons_zero]at i9;clear hD hI;rw[i9]at hQo⊢;clear i9;go_wp2;exact hK.out _ _ ⟨rfl,hG,kkp⟩
      case o1 =>
       rw[ddq (hD 0 rfl)]at hQo⊢;clear hD hI;go_wp2;exact hK.out _ _ ⟨rfl,hG,kkp⟩
      case o4 =>
       rw[ddq (hD 2 rfl),ddq (hD 3 rfl),ddq (hD 1 rfl)]at hQo⊢;clear hD hI;go_wp2;exact hK.out _ _ ⟨rfl,hG,kkp⟩
      case o5 =>
       rw[ddq (hD 4 rfl),ddq (hD 1 rfl)]at hQo⊢;clear hD hI;have ix:=i9.ext hG;go_wp2_with (refine wpList_iload 32 _ rfl rfl ix 71 71 rfl _ Tryz.underlying32 rfl size_Macro (by rw[HB.out];omega) _ (by rw[HB1.out]) ?_)
       exact hK.out _ _ ⟨rfl,hG,kkp⟩
      case o6 =>
       rw[ddq (hD 1 rfl)]at hQo⊢;clear hD hI;have rx:=r9.ext hG;go_wp2_with (refine wpList_iload 32 _ rfl rfl rx 0 71 rfl _ Tryz.underlying32 rfl size_Macro (by rw[Hrl.out];omega) _ (by rw[sub_all _ _ Hrl.out]) ?_)
       exact hK.out _ _ ⟨rfl,hG,kkp⟩
      case o7 =>
       rw[ddq (hD 5 rfl),ddq (hD 6 rfl),ddq (hD 1 rfl)]at hQo⊢;clear hD hI;go_wp2_with (refine wpList_seql 32 _ _ _ rfl rfl _ _ rfl rfl m1.zs R.zs rfl rfl Tryz.underlying32 hpM (eqM Tryz.underlying32) Hl1.out Hrl.out hmM true (by rw[Hq.out];simp) ?_)
       exact hK.out _ _ ⟨rfl,hG,kkp⟩
      case o8 =>
       rw[ddq (hD 1 rfl),ddq (hD 7 rfl)]at hQo⊢;clear hD hI;go_wp2;exact hK.out _ _ ⟨rfl,hG,kkp⟩
      case o9 =>
       rw[ddq (hD 8 rfl)]at hQo⊢;clear hD hI;go_wp2;exact hK.out _ _ ⟨rfl,hG,kkp⟩
      all_goals
       rw[ddq (hD 1 rfl)]at hQo⊢;clear hD hI;go_wp2;exact hK.out _ _ ⟨rfl,hG,kkp⟩
     intro xs wx hV hG;have d9:_=_:=hV 9 (by decide);clear hV;simp only[patchS,Nat.reduceAdd,Nat.reduceEqDiff,↓reduceIte];generalize xs 0=y0,xs 1=y1,xs 2=y2,xs 3=y3,xs 4=y4,xs 5=y5,xs 6=y6,xs 7=y7,xs 8=y8,xs 9=y9 at *
     replace hG:Ext w9 wx:=hG
     subst d9;have E15:=hG;clear E13 hG;generalize wx=w15 at *;go_wp2;go_roundw
     case rel=>exact⟨2,2,true,by omega,rfl,rfl,rfl,fun _ _ _=>rfl,E15⟩
     case measure=>simp[intOf]
    ·have Hq:=Lib.hid hq;clear hq;go_upto_region 15 with fail
     refine wp_region_inv2 (by kernel_rfl) [(13,9),(95,0),(96,1),(97,2),(98,3),(99,4),(100,5),(101,6),(102,7),(103,8)] [[],[0],[0,1],[0,1],[0,1,2,3],[0,1,2,3,4],[0,1],[0,1,2,3,4,5,6],[0,1,2,3,4,5,6,7],[0,1,2,3,4,5,6,7,8]] (fun i own ys wx=>match i with|0=>own= .bool false|1=>own= .bool false|2=>own= .slice (some ⟨G,0,none⟩) 3 3|3=>own= .int .i64 1|4=>own= .pointer (some ⟨G,71,none⟩)|5=>own= .agg (ic m1.zs)|6=>own= .agg (ic R.zs)|7=>own= .bool false|8=>own= .bool false|9=>own= .bool false|_=>True) (fun kx wx=>Ext w9 wx) (by kernel_rfl) (by kernel_rfl) (by kernel_rfl) ?g0_r9 ?gop_r9 ?gend_r9
     case g0_r9=>exact E13.trans_drewN 1
     case gop_r9 =>
      refine⟨?o0,?o1,?_,?_,?o4,?o5,?o6,?o7,?o8,?o9,trivial⟩ <;> (intro kx xs wx hk hG hD hI Qo Kx hK hQo;simp only[patchS,Nat.reduceAdd,Nat.reduceEqDiff,↓reduceIte]at hQo⊢)
      case o0 =>
       have i9:=hI 9 13 rfl rfl;simp only[List.getD_cons_succ,List.getD_cons_zero]at i9;clear hD hI;rw[i9]at hQo⊢;clear i9;go_wp2;exact hK.out _ _ ⟨rfl,hG,kkp⟩
      case o1 =>
       rw[ddq (hD 0 rfl)]at hQo⊢;clear hD hI;go_wp2;exact hK.out _ _ ⟨rfl,hG,kkp⟩
      case o4 =>
       rw[ddq (hD 2 rfl),ddq (hD 3 rfl),ddq (hD 1 rfl)]at hQo⊢;clear hD hI;go_wp2;exact hK.out _ _ ⟨rfl,hG,kkp⟩
      case o5 =>
       rw[ddq (hD 4 rfl),ddq (hD 1 rfl)]at hQo⊢;clear hD hI;have ix:=i9.ext hG;go_wp2_with (refine wpList_iload 32 _ rfl rfl ix 71 71 rfl _ Tryz.underlying32 rfl size_Macro (by rw[HB.out];omega) _ (by rw[HB1.out]) ?_)
       exact hK.out _ _ ⟨rfl,hG,kkp⟩
      case o6 =>
       rw[ddq (hD 1 rfl)]at hQo⊢;clear hD hI;have rx:=r9.ext hG;go_wp2_with (refine wpList_iload 32 _ rfl rfl rx 0 71 rfl _ Tryz.underlying32 rfl size_Macro (by rw[Hrl.out];omega) _ (by rw[sub_all _ _ Hrl.out]) ?_)
       exact hK.out _ _ ⟨rfl,hG,kkp⟩
      case o7 =>
       rw[ddq (hD 5 rfl),ddq (hD 6 rfl),ddq (hD 1 rfl)]at hQo⊢;clear hD hI;go_wp2_with (refine wpList_seql 32 _ _ _ rfl rfl _ _ rfl rfl m1.zs R.zs rfl rfl Tryz.underlying32 hpM (eqM Tryz.underlying32) Hl1.out Hrl.out hmM false (by simpa using Hq.out) ?_)
       exact hK.out _ _ ⟨rfl,hG,kkp⟩
      case o8 =>
       rw[ddq (hD 1 rfl),ddq (hD 7 rfl)]at hQo⊢;clear hD hI;go_wp2;exact hK.out _ _ ⟨rfl,hG,kkp⟩
      case o9 =>
       rw[ddq (hD 8 rfl)]at hQo⊢;clear hD hI;go_wp2;exact hK.out _ _ ⟨rfl,hG,kkp⟩
      all_goals
       rw[ddq (hD 1 rfl)]at hQo⊢;clear hD hI;go_wp2;exact hK.out _ _ ⟨rfl,hG,kkp⟩
     intro xs wx hV hG;have d9:_=_:=hV 9 (by decide);clear hV;simp only[patchS,Nat.reduceAdd,Nat.reduceEqDiff,↓reduceIte];generalize xs 0=y0,xs 1=y1,xs 2=y2,xs 3=y3,xs 4=y4,xs 5=y5,xs 6=y6,xs 7=y7,xs 8=y8,xs 9=y9 at *
     replace hG:Ext w9 wx:=hG
     subst d9;have E15:=hG;clear E13 hG;generalize wx=w15 at *;go_wp2;go_roundw
     case rel =>
      refine⟨2,2,false,by omega,rfl,rfl,rfl,fun j hj he => ?_,E15⟩
      by_cases hjk:j=1
      ·subst hjk;exact absurd he Hq.out
      ·exact hsm.out j (by omega) he
     case measure=>simp[intOf]
   ·go_upto_region 15 with fail
    refine wp_region_inv2 (by kernel_rfl) [(13,9),(95,0),(96,1),(97,2),(98,3),(99,4),(100,5),(101,6),(102,7),(103,8)] [[],[0],[0,1],[0,1],[0,1,2,3],[0,1,2,3,4],[0,1],[0,1,2,3,4,5,6],[0,1,2,3,4,5,6,7],[0,1,2,3,4,5,6,7,8]] (fun i own ys wx=>match i with|0=>own= .bool true|1=>own= .bool true|2=>True|3=>True|4=>True|5=>True|6=>True|7=>True|8=>own= .bool true|9=>own= .bool true|_=>True) (fun kx wx=>Ext w9 wx) (by kernel_rfl) (by kernel_rfl) (by kernel_rfl) ?g0_r10 ?gop_r10 ?gend_r10
    case g0_r10=>exact E13.trans_drewN 1
    case gop_r10 =>
     refine⟨?o0,?o1,?_,?_,?o4,?o5,?_,?o7,?o8,?o9,trivial⟩ <;> (intro kx xs wx hk hG hD hI Qo Kx hK hQo;simp only[patchS,Nat.reduceAdd,Nat.reduceEqDiff,↓reduceIte]at hQo⊢)
     case o0 =>
      have i9:=hI 9 13 rfl rfl;simp only[List.getD_cons_succ,List.getD_cons_zero]at i9;clear hD hI;rw[i9]at hQo⊢;clear i9;go_wp2;exact hK.out _ _ ⟨rfl,hG,kkp⟩
     case o1 =>
      rw[ddq (hD 0 rfl)]at hQo⊢;clear hD hI;go_wp2;exact hK.out _ _ ⟨rfl,hG,kkp⟩
     case o4 =>
      rw[ddq (hD 1 rfl)]at hQo⊢;have d2:True:=hD 2 rfl;have d3:True:=hD 3 rfl;clear hD hI;generalize xs 2=y2 at *;generalize xs 3=y3 at *;go_wp2;exact hK.out _ _ ⟨trivial,hG,fun _ _ _ _ _ _ h=>h⟩
     case o5 =>
      rw[ddq (hD 1 rfl)]at hQo⊢;have d4:True:=hD 4 rfl;clear hD hI;generalize xs 4=y4 at *;go_wp2;exact hK.out _ _ ⟨trivial,hG,fun _ _ _ _ _ _ h=>h⟩
     case o7 =>
      rw[ddq (hD 1 rfl)]at hQo⊢;have d5:True:=hD 5 rfl;have d6:True:=hD 6 rfl;clear hD hI;generalize xs 5=y5 at *;generalize xs 6=y6 at *;go_wp2;exact hK.out _ _ ⟨trivial,hG,fun _ _ _ _ _ _ h=>h⟩
     case o8 =>
      rw[ddq (hD 1 rfl)]at hQo⊢;have d7:True:=hD 7 rfl;clear hD hI;generalize xs 7=y7 at *;go_wp2;exact hK.out _ _ ⟨rfl,hG,kkp⟩
     case o9 =>
      rw[ddq (hD 8 rfl)]at hQo⊢;clear hD hI;go_wp2;exact hK.out _ _ ⟨rfl,hG,kkp⟩
     all_goals
      rw[ddq (hD 1 rfl)]at hQo⊢;clear hD hI;go_wp2;exact hK.out _ _ ⟨trivial,hG,fun _ _ _ _ _ _ h=>h⟩
    intro xs wx hV hG;have d9:_=_:=hV 9 (by decide);clear hV;simp only[patchS,Nat.reduceAdd,Nat.reduceEqDiff,↓reduceIte];generalize xs 0=y0,xs 1=y1,xs 2=y2,xs 3=y3,xs 4=y4,xs 5=y5,xs 6=y6,xs 7=y7,xs 8=y8,xs 9=y9 at *
    replace hG:Ext w9 wx:=hG
    subst d9;have E15:=hG;clear E13 hG;generalize wx=w15 at *;go_wp2;go_roundw
    case rel=>exact⟨2,2,true,by omega,rfl,rfl,rfl,fun _ _ _=>rfl,E15⟩
    case measure=>simp[intOf]
  ·obtain rfl:z=2:=hz;have hd:decide ((2:Int)<3)=true:=by decide
   obtain⟨D,hD⟩:∃ D,D=costP t r p x y m2 qq top:=⟨_,rfl⟩;have hDC:C≤D:=by rw[hD];exact Hc2.out
   have HD:=Lib.hid hD;clear hD;have f1:decide (D<C)=false:=by simp;omega
   have hsm:=Lib.hid hsame;clear hsame;go_upto_region 13 with fail
   refine wp_region_inv2 (by kernel_rfl) [(81,0),(82,1),(83,2),(84,3),(85,4),(86,5),(87,6),(88,7),(89,8),(90,9),(91,10),(92,11),(93,12),(94,13)] [[],[],[],[],[],[],[],[5,6],[5,6,7],[],[],[0,1,2,3,4,5,6,7,8,9,10],[],[0,1,2,3,4,5,6,7,8,9,10,11,12]] (fun i own ys wx=>match i with|0=>own= .agg #[.int .i64 t.w,.int .i64 t.h,.slice a n c]|1=>own= .agg #[.int .i64 r.w,.int .i64 r.h,.slice a2 n2 c2]|2=>own= .agg #[.int .i64 p.w,.int .i64 p.h,.slice a3 n3 c3]|3=>own= .int .i64 x|4=>own= .int .i64 y|5=>own= .slice (some ⟨G,0,none⟩) 3 3|6=>own= .int .i64 2|7=>own= .pointer (some ⟨G,142,none⟩)|8=>own= .agg (ic m2.zs)|9=>own= .int .i64 qq|10=>own= .int .i64 top|11=>own= .int .i64 D|12=>own= .int .i64 C|13=>own= .bool false|_=>True) (fun kx wx=>Ext w9 wx) (by kernel_rfl) (by kernel_rfl) (by kernel_rfl) ?g0_r11 ?gop_r11 ?gend_r11
   case g0_r11=>exact Ek.trans_drewN 1
   case gop_r11 =>
    refine⟨?o0,?o1,?o2,?_,?_,?_,?_,?o7,?o8,?_,?_,?o11,?_,?o13,trivial⟩ <;> (intro kx xs wx hk hG hD hI Qo Kx hK hQo;simp only[patchS,Nat.reduceAdd,Nat.reduceEqDiff,↓reduceIte]at hQo⊢)
    case o0 =>
     clear hD hI;obtain⟨k0,k1,k2⟩:=PBx.cells (L9.e hG).b1;go_wp2;exact hK.out _ _ ⟨rfl,hG,kkp⟩
    case o1 =>
     clear hD hI;obtain⟨k0,k1,k2⟩:=PBx.cells (L9.e hG).b2;go_wp2;exact hK.out _ _ ⟨rfl,hG,kkp⟩
    case o2 =>
     clear hD hI;obtain⟨k0,k1,k2⟩:=PBx.cells (L9.e hG).b3;go_wp2;exact hK.out _ _ ⟨rfl,hG,kkp⟩
    case o7 =>
     rw[ddq (hD 5 rfl),ddq (hD 6 rfl)]at hQo⊢;clear hD hI;go_wp2;exact hK.out _ _ ⟨rfl,hG,kkp⟩
    case o8 =>
     rw[ddq (hD 7 rfl)]at hQo⊢;clear hD hI;have ix:=i9.ext hG;go_wp2_with (refine wpList_iload 32 _ rfl rfl ix 142 71 rfl _ Tryz.underlying32 rfl size_Macro (by rw[HB.out];omega) _ (by rw[HB2.out]) ?_)
     exact hK.out _ _ ⟨rfl,hG,kkp⟩
    case o11 =>
     rw[ddq (hD 0 rfl),ddq (hD 1 rfl),ddq (hD 2 rfl),ddq (hD 3 rfl),ddq (hD 4 rfl),ddq (hD 8 rfl),ddq (hD 9 rfl),ddq (hD 10 rfl)]at hQo⊢;clear hD hI;go_wp2_with fail
     refine(HMC.out m2 Ho2.out _ (hT.ext (L9.e hG).ex) (L9.e hG).s1 (L9.e hG).s2 (L9.e hG).s3).mono ?_
     rintro e wz ⟨rfl,ez⟩
     rw[←HD.out];go_wp2;exact hK.out _ _ ⟨rfl,hG.trans ez,kkp⟩
    case o13 =>
     rw[ddq (hD 11 rfl),ddq (hD 12 rfl)]at hQo⊢;clear hD hI;go_wp2;exact hK.out _ _ ⟨rfl,hG,kkp⟩
    all_goals
     clear hD hI;go_wp2;exact hK.out _ _ ⟨rfl,hG,kkp⟩
   intro xs wx hV hG;have d13:_=_:=hV 13 (by decide);clear hV;simp only[patchS,Nat.reduceAdd,Nat.reduceEqDiff,↓reduceIte];generalize xs 0=y0,xs 1=y1,xs 2=y2,xs 3=y3,xs 4=y4,xs 5=y5,xs 6=y6,xs 7=y7,xs 8=y8,xs 9=y9,xs 10=y10,xs 11=y11,xs 12=y12,xs 13=y13 at *
   replace hG:Ext w9 wx:=hG
   subst d13;have E13:=hG;clear Ek hG;generalize wx=w13 at *;cases bs
   ·by_cases hq:m2.zs=R.zs
    ·have Hq:=Lib.hid hq;clear hq;go_upto_region 15 with fail
     refine wp_region_inv2 (by kernel_rfl) [(13,9),(95,0),(96,1),(97,2),(98,3),(99,4),(100,5),(101,6),(102,7),(103,8)] [[],[0],[0,1],[0,1],[0,1,2,3],[0,1,2,3,4],[0,1],[0,1,2,3,4,5,6],[0,1,2,3,4,5,6,7],[0,1,2,3,4,5,6,7,8]] (fun i own ys wx=>match i with|0=>own= .bool false|1=>own= .bool false|2=>own= .slice (some ⟨G,0,none⟩) 3 3|3=>own= .int .i64 2|4=>own= .pointer (some ⟨G,142,none⟩)|5=>own= .agg (ic m2.zs)|6=>own= .agg (ic R.zs)|7=>own= .bool true|8=>own= .bool true|9=>own= .bool true|_=>True) (fun kx wx=>Ext w9 wx) (by kernel_rfl) (by kernel_rfl) (by kernel_rfl) ?g0_r12 ?gop_r12 ?gend_r12
     case g0_r12=>exact E13.trans_drewN 1
     case gop_r12 =>
      refine⟨?o0,?o1,?_,?_,?o4,?o5,?o6,?o7,?o8,?o9,trivial⟩ <;> (intro kx xs wx hk hG hD hI Qo Kx hK hQo;simp only[patchS,Nat.reduceAdd,Nat.reduceEqDiff,↓reduceIte]at hQo⊢)
      case o0 =>
       have i9:=hI 9 13 rfl rfl;simp only[List.getD_cons_succ,List.getD_cons_zero]at i9;clear hD hI;rw[i9]at hQo⊢;clear i9;go_wp2;exact hK.out _ _ ⟨rfl,hG,kkp⟩
      case o1 =>
       rw[ddq (hD 0 rfl)]at hQo⊢;clear hD hI;go_wp2;exact hK.out _ _ ⟨rfl,hG,kkp⟩
      case o4 =>
       rw[ddq (hD 2 rfl),ddq (hD 3 rfl),ddq (hD 1 rfl)]at hQo⊢;clear hD hI;go_wp2;exact hK.out _ _ ⟨rfl,hG,kkp⟩
      case o5 =>
       rw[ddq (hD 4 rfl),ddq (hD 1 rfl)]at hQo⊢;clear hD hI;have ix:=i9.ext hG;go_wp2_with (refine wpList_iload 32 _ rfl rfl ix 142 71 rfl _ Tryz.underlying32 rfl size_Macro (by rw[HB.out];omega) _ (by rw[HB2.out]) ?_)
       exact hK.out _ _ ⟨rfl,hG,kkp⟩
      case o6 =>
       rw[ddq (hD 1 rfl)]at hQo⊢;clear hD hI;have rx:=r9.ext hG;go_wp2_with (refine wpList_iload 32 _ rfl rfl rx 0 71 rfl _ Tryz.underlying32 rfl size_Macro (by rw[Hrl.out];omega) _ (by rw[sub_all _ _ Hrl.out]) ?_)
       exact hK.out _ _ ⟨rfl,hG,kkp⟩
      case o7 =>
       rw[ddq (hD 5 rfl),ddq (hD 6 rfl),ddq (hD 1 rfl)]at hQo⊢;clear hD hI;go_wp2_with (refine wpList_seql 32 _ _ _ rfl rfl _ _ rfl rfl m2.zs R.zs rfl rfl Tryz.underlying32 hpM (eqM Tryz.underlying32) Hl2.out Hrl.out hmM true (by rw[Hq.out];simp) ?_)
       exact hK.out _ _ ⟨rfl,hG,kkp⟩
      case o8 =>
       rw[ddq (hD 1 rfl),ddq (hD 7 rfl)]at hQo⊢;clear hD hI;go_wp2;exact hK.out _ _ ⟨rfl,hG,kkp⟩
      case o9 =>
       rw[ddq (hD 8 rfl)]at hQo⊢;clear hD hI;go_wp2;exact hK.out _ _ ⟨rfl,hG,kkp⟩
      all_goals
       rw[ddq (hD 1 rfl)]at hQo⊢;clear hD hI;go_wp2;exact hK.out _ _ ⟨rfl,hG,kkp⟩
     intro xs wx hV hG;have d9:_=_:=hV 9 (by decide);clear hV;simp only[patchS,Nat.reduceAdd,Nat.reduceEqDiff,↓reduceIte];generalize xs 0=y0,xs 1=y1,xs 2=y2,xs 3=y3,xs 4=y4,xs 5=y5,xs 6=y6,xs 7=y7,xs 8=y8,xs 9=y9 at *
     replace hG:Ext w9 wx:=hG
     subst d9;have E15:=hG;clear E13 hG;generalize wx=w15 at *;go_wp2;go_roundw
     case rel=>exact⟨3,3,true,by omega,rfl,rfl,rfl,fun _ _ _=>rfl,E15⟩
     case measure=>simp[intOf]
    ·have Hq:=Lib.hid hq;clear hq;go_upto_region 15 with fail
     refine wp_region_inv2 (by kernel_rfl) [(13,9),(95,0),(96,1),(97,2),(98,3),(99,4),(100,5),(101,6),(102,7),(103,8)] [[],[0],[0,1],[0,1],[0,1,2,3],[0,1,2,3,4],[0,1],[0,1,2,3,4,5,6],[0,1,2,3,4,5,6,7],[0,1,2,3,4,5,6,7,8]] (fun i own ys wx=>match i with|0=>own= .bool false|1=>own= .bool false|2=>own= .slice (some ⟨G,0,none⟩) 3 3|3=>own= .int .i64 2|4=>own= .pointer (some ⟨G,142,none⟩)|5=>own= .agg (ic m2.zs)|6=>own= .agg (ic R.zs)|7=>own= .bool false|8=>own= .bool false|9=>own= .bool false|_=>True) (fun kx wx=>Ext w9 wx) (by kernel_rfl) (by kernel_rfl) (by kernel_rfl) ?g0_r13 ?gop_r13 ?gend_r13
     case g0_r13=>exact E13.trans_drewN 1
     case gop_r13 =>
      refine⟨?o0,?o1,?_,?_,?o4,?o5,?o6,?o7,?o8,?o9,trivial⟩ <;> (intro kx xs wx hk hG hD hI Qo Kx hK hQo;simp only[patchS,Nat.reduceAdd,Nat.reduceEqDiff,↓reduceIte]at hQo⊢)
      case o0 =>
       have i9:=hI 9 13 rfl rfl;simp only[List.getD_cons_succ,List.getD_cons_zero]at i9;clear hD hI;rw[i9]at hQo⊢;clear i9;go_wp2;exact hK.out _ _ ⟨rfl,hG,kkp⟩
      case o1 =>
       rw[ddq (hD 0 rfl)]at hQo⊢;clear hD hI;go_wp2;exact hK.out _ _ ⟨rfl,hG,kkp⟩
      case o4 =>
       rw[ddq (hD 2 rfl),ddq (hD 3 rfl),ddq (hD 1 rfl)]at hQo⊢;clear hD hI;go_wp2;exact hK.out _ _ ⟨rfl,hG,kkp⟩
      case o5 =>
       rw[ddq (hD 4 rfl),ddq (hD 1 rfl)]at hQo⊢;clear hD hI;have ix:=i9.ext hG;go_wp2_with (refine wpList_iload 32 _ rfl rfl ix 142 71 rfl _ Tryz.underlying32 rfl size_Macro (by rw[HB.out];omega) _ (by rw[HB2.out]) ?_)
       exact hK.out _ _ ⟨rfl,hG,kkp⟩
      case o6 =>
       rw[ddq (hD 1 rfl)]at hQo⊢;clear hD hI;have rx:=r9.ext hG;go_wp2_with (refine wpList_iload 32 _ rfl rfl rx 0 71 rfl _ Tryz.underlying32 rfl size_Macro (by rw[Hrl.out];omega) _ (by rw[sub_all _ _ Hrl.out]) ?_)
       exact hK.out _ _ ⟨rfl,hG,kkp⟩
      case o7 =>
       rw[ddq (hD 5 rfl),ddq (hD 6 rfl),ddq (hD 1 rfl)]at hQo⊢;clear hD hI;go_wp2_with (refine wpList_seql 32 _ _ _ rfl rfl _ _ rfl rfl m2.zs R.zs rfl rfl Tryz.underlying32 hpM (eqM Tryz.underlying32) Hl2.out Hrl.out hmM false (by simpa using Hq.out) ?_)
       exact hK.out _ _ ⟨rfl,hG,kkp⟩
      case o8 =>
       rw[ddq (hD 1 rfl),ddq (hD 7 rfl)]at hQo⊢;clear hD hI;go_wp2;exact hK.out _ _ ⟨rfl,hG,kkp⟩
      case o9 =>
       rw[ddq (hD 8 rfl)]at hQo⊢;clear hD hI;go_wp2;exact hK.out _ _ ⟨rfl,hG,kkp⟩
      all_goals
       rw[ddq (hD 1 rfl)]at hQo⊢;clear hD hI;go_wp2;exact hK.out _ _ ⟨rfl,hG,kkp⟩
     intro xs wx hV hG;have d9:_=_:=hV 9 (by decide);clear hV;simp only[patchS,Nat.reduceAdd,Nat.reduceEqDiff,↓reduceIte];generalize xs 0=y0,xs 1=y1,xs 2=y2,xs 3=y3,xs 4=y4,xs 5=y5,xs 6=y6,xs 7=y7,xs 8=y8,xs 9=y9 at *
     replace hG:Ext w9 wx:=hG
     subst d9;have E15:=hG;clear E13 hG;generalize wx=w15 at *;go_wp2;go_roundw
     case rel =>
      refine⟨3,3,false,by omega,rfl,rfl,rfl,fun j hj he => ?_,E15⟩
      by_cases hjk:j=2
      ·subst hjk;exact absurd he Hq.out
      ·exact hsm.out j (by omega) he
     case measure=>simp[intOf]
   ·go_upto_region 15 with fail
    refine wp_region_inv2 (by kernel_rfl) [(13,9),(95,0),(96,1),(97,2),(98,3),(99,4),(100,5),(101,6),(102,7),(103,8)] [[],[0],[0,1],[0,1],[0,1,2,3],[0,1,2,3,4],[0,1],[0,1,2,3,4,5,6],[0,1,2,3,4,5,6,7],[0,1,2,3,4,5,6,7,8]] (fun i own ys wx=>match i with|0=>own= .bool true|1=>own= .bool true|2=>True|3=>True|4=>True|5=>True|6=>True|7=>True|8=>own= .bool true|9=>own= .bool true|_=>True) (fun kx wx=>Ext w9 wx) (by kernel_rfl) (by kernel_rfl) (by kernel_rfl) ?g0_r14 ?gop_r14 ?gend_r14
    case g0_r14=>exact E13.trans_drewN 1
    case gop_r14 =>
     refine⟨?o0,?o1,?_,?_,?o4,?o5,?_,?o7,?o8,?o9,trivial⟩ <;> (intro kx xs wx hk hG hD hI Qo Kx hK hQo;simp only[patchS,Nat.reduceAdd,Nat.reduceEqDiff,↓reduceIte]at hQo⊢)
     case o0 =>
      have i9:=hI 9 13 rfl rfl;simp only[List.getD_cons_succ,List.getD_cons_zero]at i9;clear hD hI;rw[i9]at hQo⊢;clear i9;go_wp2;exact hK.out _ _ ⟨rfl,hG,kkp⟩
     case o1 =>
      rw[ddq (hD 0 rfl)]at hQo⊢;clear hD hI;go_wp2;exact hK.out _ _ ⟨rfl,hG,kkp⟩
     case o4 =>
      rw[ddq (hD 1 rfl)]at hQo⊢;have d2:True:=hD 2 rfl;have d3:True:=hD 3 rfl;clear hD hI;generalize xs 2=y2 at *;generalize xs 3=y3 at *;go_wp2;exact hK.out _ _ ⟨trivial,hG,fun _ _ _ _ _ _ h=>h⟩
     case o5 =>
      rw[ddq (hD 1 rfl)]at hQo⊢;have d4:True:=hD 4 rfl;clear hD hI;generalize xs 4=y4 at *;go_wp2;exact hK.out _ _ ⟨trivial,hG,fun _ _ _ _ _ _ h=>h⟩
     case o7 =>
      rw[ddq (hD 1 rfl)]at hQo⊢;have d5:True:=hD 5 rfl;have d6:True:=hD 6 rfl;clear hD hI;generalize xs 5=y5 at *;generalize xs 6=y6 at *;go_wp2;exact hK.out _ _ ⟨trivial,hG,fun _ _ _ _ _ _ h=>h⟩
     case o8 =>
      rw[ddq (hD 1 rfl)]at hQo⊢;have d7:True:=hD 7 rfl;clear hD hI;generalize xs 7=y7 at *;go_wp2;exact hK.out _ _ ⟨rfl,hG,kkp⟩
     case o9 =>
      rw[ddq (hD 8 rfl)]at hQo⊢;clear hD hI;go_wp2;exact hK.out _ _ ⟨rfl,hG,kkp⟩
     all_goals
      rw[ddq (hD 1 rfl)]at hQo⊢;clear hD hI;go_wp2;exact hK.out _ _ ⟨trivial,hG,fun _ _ _ _ _ _ h=>h⟩
    intro xs wx hV hG;have d9:_=_:=hV 9 (by decide);clear hV;simp only[patchS,Nat.reduceAdd,Nat.reduceEqDiff,↓reduceIte];generalize xs 0=y0,xs 1=y1,xs 2=y2,xs 3=y3,xs 4=y4,xs 5=y5,xs 6=y6,xs 7=y7,xs 8=y8,xs 9=y9 at *
    replace hG:Ext w9 wx:=hG
    subst d9;have E15:=hG;clear E13 hG;generalize wx=w15 at *;go_wp2;go_roundw
    case rel=>exact⟨3,3,true,by omega,rfl,rfl,rfl,fun _ _ _=>rfl,E15⟩
    case measure=>simp[intOf]
  ·obtain rfl:z=3:=hz;have hd:decide ((3:Int)<3)=false:=by decide
   have hb:bs=true:=by
    rcases Hin.out with h|h|h
    ·exact hsame 0 (by omega) (by rw[h];rfl)
    ·exact hsame 1 (by omega) (by rw[h];rfl)
    ·exact hsame 2 (by omega) (by rw[h];rfl)
   subst hb;clear hsame;go_wp2_with fail
   refine(alive_any _).mono ?_
   rintro e we ⟨rfl,ee⟩
   go_wp2;go_ret
   exact⟨rfl,L9.ex.trans (Ek.trans ee)⟩
end Go.Proofs.YtbnhaegidfbgbaaGreatDoor
namespace Go.Proofs.YtbnhaegidfbgbaaGreatDoor
open Go.RowKit Go.ChangeShapes Go.WideShapes
section
variable {H : Type} {enc : TypeId × Value → H} {P : Program} {w : World}
/-- The cells cs read as a value of type t. -/
def Cells (enc:TypeId×Value→H) (P:Program) (w:World) (t:TypeId) (cs:List Value):Prop :=
 ∃ fuel x,DataW.trod enc P w 0 (fun _=>true) true fuel t cs=some x
theorem Cells.of_trod {t:TypeId} {v:Value} {d:DataW H} {ps:List MemPlace} (h:DataW.Trod enc P w 0 (fun _=>true) true t v d ps):Cells enc P w t v.cells.toList:=by
 obtain⟨fuel,hf⟩:=h;exact⟨fuel,_,hf⟩
theorem Cells.int {t:TypeId} {k:IntKind} {cs:List Value} (h:Cells enc P w t cs) (ht:P.underlying t=some (.int k)):∃ n,cs = [.int k n]∧(Lit.int k n).wf=true:=by
 obtain⟨fuel,x,hf⟩:=h;obtain⟨n,h1,-,h2⟩:=DataW.trod_int ht hf;exact⟨n,h1,h2⟩
theorem Cells.bool {t:TypeId} {cs:List Value} (h:Cells enc P w t cs) (ht:P.underlying t=some .bool):∃ b,cs = [.bool b]:=by
 obtain⟨fuel,x,hf⟩:=h;obtain⟨n,h1,-⟩:=DataW.trod_bool ht hf;exact⟨n,h1⟩
theorem add_add (a:Addr) (i j:Nat):a.add (i+j)=(a.add i).add j:=by
 unfold Addr.add
 by_cases h1:i=0
 ·subst h1;simp
 ·by_cases h2:j=0
  ·subst h2;simp
  ·simp[h1,h2,Nat.add_assoc]
/-- A slice whose elements have c cells each: cell j of element i. -/
theorem Cells.slice {t e:TypeId} {c:Nat} {cs:List Value} (h:Cells enc P w t cs) (ht:P.underlying t=some (.slice e)) (hc:P.cellsOf e=c) :
 ∃ a n cap,cs = [.slice a n cap]∧(n≤cap∧cap≤maxLen)∧∀ i,i<n→∃ x es,a=some x∧es.length=c∧(∀ j,j<c→w.cell? (x.add (i*c+j))=es[j]?)∧Cells enc P w e es:=by
 subst hc;obtain⟨fuel,x,hf⟩:=h;rcases Deep.open_slice ht hf with⟨rfl,-⟩|⟨a,len,cap,m,n,D,Pl,rfl,-,hl,hm,hmm,-,hx⟩
 ·exact⟨none,0,0,rfl,⟨by omega,by simp⟩,fun i hi=>by omega⟩
 ·refine⟨some a,len,cap,rfl,⟨hl,hm⟩,fun i hi => ?_⟩;obtain⟨cs',h1,h2⟩:=hx i (by simp at hmm;omega);obtain⟨-,hlen,hcell⟩:=World.cells?_some h1;refine⟨a,cs',rfl,hlen,fun j hj => ?_,⟨n,_,h2⟩⟩;have:=hcell j hj;rw[←this,add_add]
theorem Cells.struct {t:TypeId} {fs:Array Field} {cs:List Value} (h:Cells enc P w t cs) (ht:P.underlying t=some (.struct fs)) :
 cs.length=P.cellsOf t∧∀(i:Nat) (f:Field),fs[i]?=some f→Cells enc P w f.type ((cs.drop f.offset).take (P.cellsOf f.type)):=by
 obtain⟨fuel,x,hf⟩:=h;obtain⟨xs,n,-,-,h1,h2,h3⟩:=DataW.trod_struct ht hf;refine⟨h1,fun i f hi => ?_⟩;have h4:=h3 i f hi;have hl:i<xs.length:=by
  rw[h2];exact(Array.getElem?_eq_some_iff.1 hi).1
 exact⟨n,xs[i],by rw[h4];simp[hl]⟩
theorem Cells.array {t e:TypeId} {n:Nat} {cs:List Value} (h:Cells enc P w t cs) (ht:P.underlying t=some (.array n e)) :
 cs.length=P.cellsOf t∧∀ i,i<n→Cells enc P w e ((cs.drop (i*P.cellsOf e)).take (P.cellsOf e)):=by
 obtain⟨fuel,x,hf⟩:=h;cases fuel with
 | zero=>simp[DataW.trod]at hf
 | succ m =>
  unfold DataW.trod at hf;rw[ht]at hf
  split at hf <;> simp_all
  obtain⟨hl,xs,hp,hd⟩:=hf;intro i hi;have h4:=mapM_some_get hp i i (by simp[hi]);have hl:i<xs.length:=by rw[mapM_some_length hp];simpa using hi
  exact⟨m,xs[i],by rw[h4];simp[hl]⟩
theorem Sl.of_add {a:Addr} {n:Nat} {xs:List Value} (hl:xs.length=n) (h:∀ i,i<n→w.cell? (a.add i)=some (xs.getD i undef)):Sl w (some a) n xs:=by
 refine⟨hl,fun i hi => ?_⟩;obtain⟨b,off,spot⟩:=a;have hc:=h 0 (by omega);have hs:spot=none:=by simpa [Addr.add] using World.cell?_spot hc
 subst hs;exact⟨b,off,rfl,by rw[←h i hi,Addr.add_lit]⟩
/-- A list out of a choice for each index. -/
theorem list_of {α:Type} (n:Nat) (p:Nat→α→Prop) (h:∀ i,i<n→∃ y,p i y):∃ ys:List α,ys.length=n∧∀ i (hi:i<ys.length),p i ys[i]:=by
 induction n with
 | zero=>exact⟨[],rfl,fun i hi=>by simp at hi⟩
 | succ n ih =>
  obtain⟨ys,hl,hy⟩:=ih (fun i hi=>h i (by omega));obtain⟨y,hp⟩:=h n (by omega);refine⟨ys ++ [y],by simp[hl],fun i hi => ?_⟩
  by_cases h1:i<ys.length
  ·rw[List.getElem_append_left h1];exact hy i h1
  ·have:i=n:=by simp at hi;omega
   subst this;rw[List.getElem_append_right (by omega)]
   simpa [hl] using hp
/-- A slice of one-cell elements. -/
theorem Cells.slice1 {t e:TypeId} {cs:List Value} (h:Cells enc P w t cs) (ht:P.underlying t=some (.slice e)) (hc:P.cellsOf e=1) :
 ∃ a n cap xs,cs = [.slice a n cap]∧(n≤cap∧cap≤maxLen)∧Sl w a n xs∧∀ x∈xs,Cells enc P w e [x]:=by
 obtain⟨a,n,cap,rfl,hn,hx⟩:=h.slice ht hc;obtain⟨ys,hl,hy⟩:=list_of (α:=Value) n (fun i y=>(∃ x,a=some x∧w.cell? (x.add i)=some y)∧Cells enc P w e [y]) (fun i hi=>by
  obtain⟨x,es,ha,h1,h2,h3⟩:=hx i hi
  match es,h1 with
  | [y],_=>exact⟨y,⟨x,ha,by simpa using h2 0 (by omega)⟩,h3⟩)
 refine⟨a,n,cap,ys,rfl,hn,?_,?_⟩
 ·cases a with
  | none =>
   refine⟨hl,fun i hi => ?_⟩;obtain⟨⟨x,hx,-⟩,-⟩:=hy i (by omega);simp at hx
  | some a =>
   refine Sl.of_add hl fun i hi => ?_
   obtain⟨⟨x,hx,hc⟩,-⟩:=hy i (by omega);simp only[Option.some.injEq]at hx;subst hx;rw[hc];simp[show i<ys.length by omega]
 ·intro x hx;obtain⟨i,hi,rfl⟩:=List.getElem_of_mem hx;exact(hy i hi).2
theorem map_of {α:Type} (C:α→Value) (p:α→Prop) (xs:List Value) (h:∀ x∈xs,∃ z,x=C z∧p z):∃ zs:List α,xs=zs.map C∧∀ z∈zs,p z:=by
 induction xs with
 | nil=>exact⟨[],rfl,fun z hz=>by simp at hz⟩
 | cons x xs ih =>
  obtain⟨zs,rfl,hz⟩:=ih (fun y hy=>h y (by simp[hy]));obtain⟨z,rfl,hp⟩:=h x (by simp);refine⟨z::zs,rfl,fun y hy => ?_⟩;rcases List.mem_cons.1 hy with rfl|hy
  ·exact hp
  ·exact hz y hy
theorem Cells.slice_int {t e:TypeId} {k:IntKind} {cs:List Value} (h:Cells enc P w t cs) (ht:P.underlying t=some (.slice e)) (he:P.underlying e=some (.int k)) (hc:P.cellsOf e=1) :
 ∃(a:Option Addr) (n cap:Nat) (zs:List Int),cs = [.slice a n cap]∧(n≤cap∧cap≤maxLen)∧Sl w a n (zs.map (Value.int k))∧∀ z∈zs,(Lit.int k z).wf=true:=by
 obtain⟨a,n,cap,xs,rfl,hn,s,hx⟩:=h.slice1 ht hc;obtain⟨zs,rfl,hz⟩:=map_of (Value.int k) (fun z=>(Lit.int k z).wf=true) xs (fun x hx'=>by
  obtain⟨z,h1,h2⟩:=(hx x hx').int he;exact⟨z,by simpa using h1,h2⟩)
 exact⟨a,n,cap,zs,rfl,hn,s,hz⟩
theorem Cells.slice_bool {t e:TypeId} {cs:List Value} (h:Cells enc P w t cs) (ht:P.underlying t=some (.slice e)) (he:P.underlying e=some .bool) (hc:P.cellsOf e=1) :
 ∃(a:Option Addr) (n cap:Nat) (zs:List Bool),cs = [.slice a n cap]∧(n≤cap∧cap≤maxLen)∧Sl w a n (zs.map Value.bool):=by
 obtain⟨a,n,cap,xs,rfl,hn,s,hx⟩:=h.slice1 ht hc;obtain⟨zs,rfl,-⟩:=map_of Value.bool (fun _=>True) xs (fun x hx'=>by
  obtain⟨z,h1⟩:=(hx x hx').bool he;exact⟨z,by simpa using h1,trivial⟩)
 exact⟨a,n,cap,zs,rfl,hn,s⟩
theorem open_sl_int {t e:TypeId} {k:IntKind} {v:Value} {d:DataW H} {ps:List MemPlace} (ht:P.underlying t=some (.slice e)) (he:P.underlying e=some (.int k)) (hc:P.cellsOf e=1)
 (hv:∃ a len cap,v= .slice a len cap) (h:DataW.Trod enc P w 0 (fun _=>true) true t v d ps) :
 ∃(a:Option Addr) (n c:Nat) (zs:List Int),v= .slice a n c∧Sl w a n (zs.map (Value.int k))∧(n≤c∧c≤maxLen)∧∀ z∈zs,(Lit.int k z).wf=true:=by
 obtain⟨a,n,c,rfl⟩:=hv;obtain⟨a',n',c',zs,h1,h2,h3,h4⟩:=(Cells.of_trod h).slice_int ht he hc;simp[Value.cells]at h1;obtain⟨rfl,rfl,rfl⟩:=h1;exact⟨a,n,c,zs,rfl,h3,h2,h4⟩
theorem open_sl_bool {t e:TypeId} {v:Value} {d:DataW H} {ps:List MemPlace} (ht:P.underlying t=some (.slice e)) (he:P.underlying e=some .bool) (hc:P.cellsOf e=1)
 (hv:∃ a len cap,v= .slice a len cap) (h:DataW.Trod enc P w 0 (fun _=>true) true t v d ps) :
 ∃(a:Option Addr) (n c:Nat) (zs:List Bool),v= .slice a n c∧Sl w a n (zs.map Value.bool)∧(n≤c∧c≤maxLen):=by
 obtain⟨a,n,c,rfl⟩:=hv;obtain⟨a',n',c',zs,h1,h2,h3⟩:=(Cells.of_trod h).slice_bool ht he hc;simp[Value.cells]at h1;obtain⟨rfl,rfl,rfl⟩:=h1;exact⟨a,n,c,zs,rfl,h3,h2⟩
end
end Go.Proofs.YtbnhaegidfbgbaaGreatDoor
