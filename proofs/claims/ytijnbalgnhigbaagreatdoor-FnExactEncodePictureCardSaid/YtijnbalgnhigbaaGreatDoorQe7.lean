/- Part 7 of the proof. -/
import Derived.Test.YtijnbalgnhigbaaGreatDoorQe6
import Derived.Deep.Cut
import Derived.LoopIn
set_option linter.unusedVariables false
set_option linter.unusedSimpArgs false
set_option maxRecDepth 100000
set_option maxHeartbeats 4000000
namespace Go.Proofs.YtijnbalgnhigbaaGreatDoor
open Go.RowKit
def lvBT (m:Mac):Nat→List Int
 | 0=>mdL m 4
 | k+1=>lvBT m k++blkB (sub m.lv (k*16) 16)
def lvNT (m:Mac):Nat→Nat
 | 0=>mdN m 4
 | k+1=>lvNT m k+blkC (sub m.lv (k*16) 16)
def KA (m:Mac):List Int:=lvBT m 4
def Ei (m:Mac):Nat:=lvNT m 4
theorem I9 {m:Mac}(hm:m.ok)(hv:m.valid)(h2:m.kind=2):∀ k,k≤4→lvNT m k≤200+k*1023
 | 0,_=>by have:=GU hv h2 4 (Nat.le_refl _);rw[lvNT];omega
 | k+1,hk=>by
  have ih:=I9 hm hv h2 k (by omega);obtain⟨h1,h2⟩:=JF hm hv (show k<4 by omega);have:=Ew h1 h2;rw[lvNT];omega
theorem Pn {m:Mac}(hm:m.ok)(hv:m.valid)(h2:m.kind=2):Ei m≤5000:=by
 have:=I9 hm hv h2 4 (Nat.le_refl _);show lvNT m 4≤_;omega
theorem OD (m:Mac):1≤Ei m:=by
 have:=Ho (sub m.lv (3*16) 16);show 1≤lvNT m 3+blkC (sub m.lv (3*16) 16);omega
theorem MU (m:Mac)(w:World)(hm:m.ok)(hv:m.valid)(h1:m.kind=2):
 Calls Tryz.prog 82 #[.agg (ic m.zs),.bool true] w fun e w'=>∃ a c,e= .returned (.slice a (Ei m) c)∧w'.ownsRow w.heap.size 118 2 (.slice a (Ei m) c) (Ei m) ((KA m).map (Value.int .i64))∧Ext w w':=by
 have Hl:=Aa (Mac.zs_len hm);have Hm:=Aa hm;have HV:=Aa hv;have HK0:=Aa (show m.kind≠0 by rw[h1];decide);have HK1:=Aa h1;obtain⟨Bx,hBx⟩:∃ Bx,Bx=w.heap.size:=⟨_,rfl⟩;have E0:=(Ext.alloc w (.cells (ic m.zs) 50)).trans (Ext.alloc _ (.cells #[] 118));have I0:=(IB.new w 50 m.zs).alloc (.cells #[] 118);have o0:=World.ownsRow_made (base:=Bx+1) (e:=118) (size:=2) (w.alloc (.cells (ic m.zs) 50)) #[] 0 (by simp[hBx]) (by simp) rfl;have z0:Bx+1≤((w.alloc (.cells (ic m.zs) 50)).alloc (.cells #[] 118)).heap.size:=by simp[hBx]
 rw[World.size_alloc]at o0;have hk:=I0.cell (i:=0) (by rw[Mac.zs_len hm];omega);rw[Mac.zs_kind,h1]at hk;rw[←hBx]at I0 o0 hk;have HBx:=Aa hBx;have HMI:=Aa (show lvBT m 0=mdL m 4 from rfl);have HMN:=Aa (show lvNT m 0=mdN m 4 from rfl);clear hm hv h1;go_enter Tryz.func82,Tryz.ntmps82
 go_upto_region 6 with fail
 try simp only[World.size_alloc]
 rw[←hBx];clear hBx;generalize (w.alloc (.cells (ic m.zs) 50)).alloc (.cells #[] 118)=w2 at *;have E2:Ext w w2:=E0;have z2:=z0;have I2:=I0;have hk2:=hk;have o2:=ownc o0 (show _=(mdL m 0:List Int).map (Value.int .i64) by simp[mdL]);clear E0 I0 o0 z0 hk;have hke:((2:Int) == 1)=false:=rfl;have F0:=FR.refl (Bx+1) 118 w2;go_wp2_with fail
 clear hk2 hke;go_loopw [5,6] (fun v y wr=>∃ k:Nat,k≤4∧y= .int .i64 k∧wr.ownsRow (Bx+1) 118 2 v (mdN m k) ((mdL m k).map (Value.int .i64))∧FR (Bx+1) 118 w2 wr) (fun _ y _=>4-(intOf y).toNat)
 case atStart=>exact⟨0,by omega,rfl,o2,F0⟩
 case round =>
  obtain⟨k,hk,rfl,o4,F4⟩:=hrel;clear o2 F0;obtain⟨a4,c4,rfl⟩:=Al o4;have hB4:=Nat.le_trans z2 F4.size
  by_cases hlt:k<4
  ·have hd:decide ((k:Int)<4)=true:=by simp;omega
   obtain⟨z,ez,lz⟩:=JI HV.out HK1.out hlt;have hmn:=GU HV.out HK1.out k (by omega);have q1:=Bh (show z<32768 by omega);have p1:=DK z;have cz:=(F4.ib I2 (by decide)).cell (i:=3+k) (by rw[Hl.out];omega);rw[Mac.nth_mode Hm.out k hlt,ez]at cz;have HLs:=Aa (show mdL m (k+1)=mdL m k++numL z 9 by rw[mdL,ez];simp);have HC:=Aa (show mdN m k+numN z=mdN m (k+1) by rw[mdN,ez];simp);clear ez;go_wp2_with fail
   refine(BN z 9 9 rfl _ (by omega) (by omega)).mono ?_
   rintro e w5 ⟨a5,c5,rfl,o5,e5⟩
   obtain⟨g5,rfl⟩:=Bq o5 p1;have o4':=Ae o4 e5;have F5:=F4.trans (FR.of_ext e5 hB4);have hB5:=Nat.le_trans hB4 e5.size;go_wp2_with (at_builtin;refine Aw _ rfl o4' hB5 _ _ 88 rfl (.agg #[.int .i64 0,.int .i64 0]) 16 Ru A5 rfl (by decide) rfl _ _ _ _ rfl o5.1 (o5.cells rfl) (B9 _) (by omega) (by omega) ?_;intro v2 w6 own2 gr2 _;refine Hid.out ?_)
   refine Aa ?_;obtain⟨a6,c6,rfl⟩:=Al own2;have F6:=F5.trans (FR.of_row o4' gr2 hB5);have o6:=ownc own2 (show _=(mdL m (k+1)).map (Value.int .i64) by rw[HLs.out];simp);rw[HC.out]at o6⊢;clear own2 o5 o4' o4 F5 F4 e5 gr2 cz;go_wp2;go_roundw
   case rel=>exact⟨k+1,by omega,by go_num,o6,F6⟩
   case measure=>simp[intOf] <;> omega
  ·have HKR:=Aa (show k=4 by omega);have hd:decide ((k:Int)<4)=false:=by simp;omega
   have H1:=Aa (show mdN m k=lvNT m 0 by rw[HKR.out,HMN.out]);have H2:=Aa (show mdL m k=lvBT m 0 by rw[HKR.out,HMI.out]);rw[H1.out,H2.out]at o4;rw[H1.out];obtain⟨w3,hw3⟩:∃ w3,w3=wr:=⟨_,rfl⟩;rw[←hw3]at o4 F4 hB4⊢;clear hw3;have E3:Ext w w3:=Below.trans E2 (F4.lo.mono (by have:=HBx.out;omega));have z3:=hB4;have I3:=F4.ib I2 (by decide);have o3:=o4;clear o4 F4 hB4 E2 I2;have F3:=FR.refl (Bx+1) 118 w3;go_wp2_with fail
   go_loopw [5,7] (fun v y wr=>∃ k:Nat,k≤4∧y= .int .i64 k∧wr.ownsRow (Bx+1) 118 2 v (lvNT m k) ((lvBT m k).map (Value.int .i64))∧FR (Bx+1) 118 w3 wr) (fun _ y _=>4-(intOf y).toNat)
   case atStart=>exact⟨0,by omega,rfl,o3,F3⟩
   case round =>
    obtain⟨k,hk,rfl,o4,F4⟩:=hrel;clear o3 F3;obtain⟨a4,c4,rfl⟩:=Al o4;have hB4:=Nat.le_trans z3 F4.size
    by_cases hlt:k<4
    ·have hd:decide ((k:Int)<4)=true:=by simp;omega
     obtain⟨l1,l2⟩:=JF Hm.out HV.out hlt;have hbc:=Ew l1 l2;have hln:=I9 Hm.out HV.out HK1.out k (by omega);have I4:=F4.ib I3 (by decide);have HLs:=Aa (show lvBT m (k+1)=lvBT m k++blkB (sub m.lv (k*16) 16)from rfl);have HC:=Aa (show lvNT m k+blkC (sub m.lv (k*16) 16)=lvNT m (k+1)from rfl);have HBK:=Aa (fun w=>ET (sub m.lv (k*16) 16) w l1 l2);have HZB:=Aa (Mac.zs_blk Hm.out k hlt);generalize sub m.lv (k*16) 16=bz at *;clear l1 l2;go_wp2_with (refine Ab 47 _ rfl rfl I4 (7+k*16) 16 rfl _ Rm rfl Ba (by rw[Hl.out];omega) _ (by rw[HZB.out]) ?_)
     refine(HBK.out _).mono ?_
     rintro e w5 ⟨a5,c5,rfl,o5,e5⟩
     have o4':=Ae o4 e5;have F5:=F4.trans (FR.of_ext e5 hB4);have hB5:=Nat.le_trans hB4 e5.size;obtain⟨g5,rfl⟩:=Bq o5 (Ho bz);go_wp2_with (at_builtin;refine Aw _ rfl o4' hB5 _ _ 88 rfl (.agg #[.int .i64 0,.int .i64 0]) 16 Ru A5 rfl (by decide) rfl _ _ _ _ rfl o5.1 (o5.cells rfl) (B9 _) (by omega) (by omega) ?_;intro v2 w2 own2 gr2 _;refine Hid.out ?_)
     refine Aa ?_;obtain⟨a6,c6,rfl⟩:=Al own2;have F6:=F5.trans (FR.of_row o4' gr2 hB5);have o6:=ownc own2 (show _=(lvBT m (k+1)).map (Value.int .i64) by rw[HLs.out];simp);rw[HC.out]at o6⊢;clear own2 o5 o4' o4 F5 F4 e5 gr2 I4;go_wp2;go_roundw
     case rel=>exact⟨k+1,by omega,by go_num,o6,F6⟩
     case measure=>simp[intOf] <;> omega
    ·have HKR:=Aa (show k=4 by omega);have hd:decide ((k:Int)<4)=false:=by simp;omega
     have H1:=Aa (show lvNT m k=Ei m by rw[HKR.out];rfl);have H2:=Aa (show lvBT m k=KA m by rw[HKR.out];rfl);rw[H1.out,H2.out]at o4;rw[H1.out];have hlo:=F4.lo;go_wp2;go_ret
     exact⟨_,_,rfl,AH o4 (by have:=HBx.out;omega),Below.trans E3 (hlo.mono (by have:=HBx.out;omega))⟩
section
variable {P : Program}
theorem GY (w:World){b off n:Nat}{zs:List Int}(h:∀ j,j<n→w.cell? ⟨b,off+j,none⟩=some (.int .i64 (nth zs j)))(hn:zs.length=n)(ty:TypeId)(d:TypeDesc)(hu:P.underlying ty=some d)(hd:(match d with | .struct _ | .array _ _=>true|_=>false)=true)(hi:(P.info? ty).map (·.size)=some n):
 (loadVar ty ⟨b,off,none⟩).run P w= .ok (.agg (ic zs)) w:=by
 have hl:(loadCells ⟨b,off,none⟩ (zs.map (Value.int .i64)).length).run P w= .ok (zs.map (Value.int .i64)).toArray w :=
  run_loadCells_list (P:=P) w ⟨b,off,none⟩ _ (fun j v hv=>by
   have hj:j<n:=by
    have:=(List.getElem?_eq_some_iff.1 hv).1
    simpa [hn] using this
   have hadd:(⟨b,off,none⟩:Addr).add j=⟨b,off+j,none⟩:=by rw[Addr.add_lit]
   rw[hadd,h j hj];have e:(zs.map (Value.int .i64))[j]?=some (.int .i64 (nth zs j)):=by
    have:j<zs.length:=by omega
    simp[nth,this]
   rw[e]at hv;exact hv)
 cases hq:P.info? ty with
 | none=>simp[hq]at hi
 | some i =>
  have hs:i.size=n:=by simpa [hq] using hi
  rw[List.length_map,hn]at hl;simp[loadVar,Sem.run_bind,H9 w hu hd,sizeOf,typeInfo,hq,hs,hl,ic]
theorem Fc {ops:Array Oper}{rest:List Oper}{o:Oper}{a:Act}{w:World}{Q:Exit→Act→World→Prop}(ty:TypeId)(x:Operand)(ho:o.op= .load ty x)(hgd:Region.wanted o (yielded ops a.tmps)=true)
 {b off n:Nat} {zs:List Int} (h:∀ j,j<n→w.cell? ⟨b,off+j,none⟩=some (.int .i64 (nth zs j))) (hn:zs.length=n) (hx:a.eval x= .pointer (some ⟨b,off,none⟩)) (d:TypeDesc)
 (hu:P.underlying ty=some d) (hd:(match d with | .struct _ | .array _ _=>true|_=>false)=true) (hi:(P.info? ty).map (·.size)=some n)
 (hK:wpList P ops Q rest (a.put o.dst (.agg (ic zs))) w):wpList P ops Q (o::rest) a w:=by
 refine AG hgd fun _ hK' => ?_
 unfold Oper.wp execOp;simp only[ho,hx,Instr.loadAt,Instr.sureAddr,Sem.run_bind,Sem.run_pure,Result.andThen_ok,GY w h hn ty d hu hd hi];exact hK' _ _ hK
end
def MR (w:World)(a:Option Addr)(n:Nat)(ms:Nat→Mac):Prop :=
 ∀ i,i<n→(ms i).ok∧∃ b off,a=some ⟨b,off,none⟩∧∀ j,j<71→w.cell? ⟨b,off+i*71+j,none⟩=some (.int .i64 (nth (ms i).zs j))
theorem MR.ext {w w':World}{a:Option Addr}{n:Nat}{ms:Nat→Mac}(h:MR w a n ms)(e:Ext w w'):MR w' a n ms:=fun i hi=>by
 obtain⟨h0,b,off,h1,h2⟩:=h i hi;exact⟨h0,b,off,h1,fun j hj=>AI e (h2 j hj)⟩
noncomputable def mbL (m : Mac)(intra : Bool): List Int := if intra then KA m else macL m
noncomputable def mbN (m : Mac)(intra : Bool): Nat := if intra then Ei m else macN m
noncomputable def sliL (ms : Nat → Mac)(intra : Bool): Nat → List Int
 | 0 => []
 | k+1=>sliL ms intra k++mbL (ms k) intra
noncomputable def sliN (ms : Nat → Mac)(intra : Bool): Nat → Nat
 | 0=>0
 | k+1=>sliN ms intra k+mbN (ms k) intra
def mbOk (m:Mac)(intra:Bool):Prop:=m.valid∧(intra=true→m.kind=2)
noncomputable instance (m : Mac) (intra : Bool) : Decidable (mbOk m intra) := Classical.propDecidable _
def IN (ms:Nat→Mac)(intra:Bool)(n:Nat):Prop:=(1≤n∧n≤4)∧∀ k,k<n→mbOk (ms k) intra
noncomputable instance (ms : Nat → Mac) (intra : Bool) (n : Nat) : Decidable (IN ms intra n) := Classical.propDecidable _
noncomputable def slcL (ms : Nat → Mac)(intra : Bool)(n : Nat): List Int := if IN ms intra n then encS (sliL ms intra n) (sliN ms intra n) else []
theorem Pz (ms:Nat→Mac)(intra:Bool)(n:Nat):(slcL ms intra n).length≤60004:=by
 unfold slcL
 split
 ·exact O7 _ _
 ·simp
theorem Pr {m:Mac}{intra:Bool}(hm:m.ok)(h:mbOk m intra):1≤mbN m intra∧mbN m intra≤5000:=by
 unfold mbN;cases intra with
 | true=>exact⟨OD m,Pn hm h.1 (h.2 rfl)⟩
 | false=>exact⟨Po m,Jb hm h.1⟩
theorem IC (m:Mac)(intra:Bool)(w:World)(hm:m.ok)(h:mbOk m intra):
 Calls Tryz.prog 82 #[.agg (ic m.zs),.bool intra] w fun e w'=>∃ a c,e= .returned (.slice a (mbN m intra) c)∧w'.ownsRow w.heap.size 118 2 (.slice a (mbN m intra) c) (mbN m intra) ((mbL m intra).map (Value.int .i64))∧Ext w w':=by
 cases intra with
 | true=>exact MU m w hm h.1 (h.2 rfl)
 | false=>exact Ia m w hm h.1
theorem C5 (a:Option Addr)(n c:Nat)(ms:Nat→Mac)(intra:Bool)(w:World)(R:MR w a n ms)(hn:n≤2^40):
 Calls Tryz.prog 36 #[.slice a n c,.bool intra] w fun e w'=>∃ a' c',e= .returned (.slice a' (slcL ms intra n).length c')∧w'.ownsRow w.heap.size 5 1 (.slice a' (slcL ms intra n).length c') (slcL ms intra n).length (u8s (slcL ms intra n))∧Ext w w':=by
 by_cases h0:1≤n∧n≤4
 ·have EA:=Ext.alloc w (.cells #[] 118);have oA:=World.ownsRow_made (base:=w.heap.size) (e:=118) (size:=2) w #[] 0 (Nat.le_refl _) (by simp) rfl;have hsA:=EA.size;go_enter Tryz.func36,Tryz.ntmps36
  go_wp2_with fail
  refine(Az _ _ _ _ (by omega) (by omega)).mono ?_
  rintro e w' ⟨rfl,rfl⟩
  go_wp2_with fail
  go_loopw [5,6] (fun v i wr=>∃ k:Nat,k≤n∧i= .int .i64 (k:Nat)∧Ext w wr∧w.heap.size≤wr.heap.size∧(∀ j,j<k→mbOk (ms j) intra)∧sliN ms intra k≤k*5000∧wr.ownsRow w.heap.size 118 2 v (sliN ms intra k) ((sliL ms intra k).map (Value.int .i64))) (fun _ i _=>n-(intOf i).toNat)
  case atStart=>exact⟨0,by omega,rfl,EA,hsA,fun j hj=>by omega,Nat.zero_le _,oA⟩
  case round =>
   obtain⟨k,hk,rfl,E2,hs2,hall,hsum,o2⟩:=hrel;clear EA oA hsA;obtain⟨al,cl,rfl⟩:=Al o2;have Hall:=Aa hall;clear hall
   by_cases hlt:k<n
   ·obtain⟨hok,b,off,rfl,hcs⟩:=R.ext E2 k hlt;have hzl:=Mac.zs_len hok;have hkd:=hcs 0 (by omega);rw[Mac.zs_kind,Nat.add_zero]at hkd;have Hcs:=Aa hcs;have HR:=Aa R;have Hok:=Aa hok;obtain⟨m,hm⟩:∃ m,m=ms k:=⟨_,rfl⟩;rw[←hm]at hkd hzl Hcs Hok;have HM:=Aa hm;have Hzl:=Aa hzl;clear hm hcs hok hzl R;go_wp2_with (refine Fc 50 _ rfl rfl Hcs.out Hzl.out rfl _ Ro rfl Ah ?_)
    refine(GA m _ Hok.out).mono ?_
    rintro e w3 ⟨rfl,e3⟩
    have hkd3:=AI e3 hkd;have E3:=E2.trans e3
    by_cases hmb:mbOk m intra
    ·have hb:=Pr Hok.out hmb;have Hmb:=Aa hmb;rw[decide_eq_true hmb.1];have hk2:intra=true→m.kind=2:=hmb.2;have Hcs3:=Aa (fun j (hj:j<71)=>AI e3 (Hcs.out j hj));have o3:=Ae o2 e3;have hs3:=Nat.le_trans hs2 e3.size;have HL:=Aa (show sliL ms intra (k+1)=sliL ms intra k++mbL m intra by rw[HM.out];rfl);have HN:=Aa (show sliN ms intra k+mbN m intra=sliN ms intra (k+1) by rw[HM.out];rfl);obtain⟨N2,hN2⟩:∃ N2,N2=sliN ms intra k:=⟨_,rfl⟩;rw[←hN2]at o3 hsum HN⊢;obtain⟨M2,hM2⟩:∃ M2,M2=mbN m intra:=⟨_,rfl⟩;rw[←hM2]at hb HN;have HM2:=Aa hM2;clear hmb o2 hkd e3 hN2 hM2;cases intra
     case' true=>rw[hk2 rfl]at hkd3
     all_goals
      clear hk2;go_wp2_with (refine Fc 50 _ rfl rfl Hcs3.out Hzl.out rfl _ Ro rfl Ah ?_)
      refine(IC m _ _ Hok.out Hmb.out).mono ?_;rw[←HM2.out]
      rintro e w5 ⟨a5,c5,rfl,o5,e5⟩
      obtain⟨g5,rfl⟩:=Bq o5 hb.1;have o4':=Ae o3 e5;have hB5:=Nat.le_trans hs3 e5.size;go_wp2_with (at_builtin;refine Aw _ rfl o4' hB5 _ _ 88 rfl (.agg #[.int .i64 0,.int .i64 0]) 16 Ru A5 rfl (by decide) rfl _ _ _ _ rfl o5.1 (o5.cells rfl) (B9 _) (by omega) (by omega) ?_;intro v2 w6 own2 gr2 _;refine Hid.out ?_)
      refine Aa ?_;obtain⟨a6,c6,rfl⟩:=Al own2;have E6:Ext w w6:=Ext.grown (E3.trans e5) gr2 (Bt o4');have hs6:=E6.size;have o6:=ownc own2 (show _=(sliL ms _ (k+1)).map (Value.int .i64) by rw[HL.out];simp);rw[HN.out]at o6⊢;clear own2 o5 o4' o3 e5 gr2 hkd3;go_wp2;go_roundw
      case rel =>
       refine⟨k+1,by omega,by go_num,E6,hs6,fun j hj => ?_,by have:=HN.out;omega,o6⟩
       by_cases e:j=k
       ·rw[e,←HM.out];exact Hmb.out
       ·exact Hall.out j (by omega)
      case measure=>simp[intOf];omega
    ·have Hno:=Aa (show slcL ms intra n = [] by unfold slcL;rw[if_neg (fun h=>hmb (by rw[HM.out];exact h.2 k hlt))]);have e4:=Ext.alloc w3 (.cells #[] 5);have o0:=World.ownsRow_made (base:=w.heap.size) (e:=5) (size:=1) w3 #[] 0 E3.size (by simp) rfl;have E4:=E3.trans e4;clear e3 e4 E2 E3 o2
     by_cases hv:m.valid
     ·rw[decide_eq_true hv];have hn2:intra=true∧m.kind≠2:=by
       refine Classical.byContradiction fun h=>hmb ⟨hv,fun hi => ?_⟩
       exact Classical.byContradiction fun h2=>h ⟨hi,h2⟩
      obtain⟨rfl,hk2⟩:=hn2;have hdk:(m.kind == 2)=false:=by simpa using hk2
      clear hmb hv;go_wp2;go_ret
      rw[Hno.out];exact⟨_,_,rfl,o0,E4⟩
     ·rw[decide_eq_false hv];clear hmb hv;go_wp2;go_ret
      rw[Hno.out];exact⟨_,_,rfl,o0,E4⟩
   ·obtain rfl:k=n:=by omega
    have Hs:=Aa (show slcL ms intra k=encS (sliL ms intra k) (sliN ms intra k) by unfold slcL;rw[if_pos ⟨h0,Hall.out⟩]);go_wp2_with fail
    refine(Gz al _ cl w.heap.size _ _ o2 (by omega)).mono ?_
    rintro e w4 ⟨a4,c4,rfl,o4,e4⟩
    have E4:=E2.trans e4;have o5:=AH o4 hs2;clear o4 e4 E2 o2;go_wp2;go_ret
    rw[Hs.out];exact⟨_,_,rfl,o5,E4⟩
 ·have hs:slcL ms intra n = []:=by unfold slcL;rw[if_neg (fun h=>h0 h.1)]
  rw[hs];clear hs R;have E1:=(Ext.alloc w (.cells #[] 118)).trans (Ext.alloc _ (.cells #[] 5));have o0:=World.ownsRow_made (base:=w.heap.size) (e:=5) (size:=1) (w.alloc (.cells #[] 118)) #[] 0 (by simp) (by simp) rfl;rw[World.size_alloc]at o0;go_enter Tryz.func36,Tryz.ntmps36
  go_wp2_with fail
  refine(BU _ _ _ _ (by omega)).mono ?_
  rintro e w' ⟨rfl,rfl⟩
  go_wp2;go_ret
  exact⟨_,_,rfl,o0,E1⟩
end Go.Proofs.YtijnbalgnhigbaaGreatDoor
namespace Go.Proofs.YtijnbalgnhigbaaGreatDoor
open Go.RowKit
def lget (L:List (List Int))(i:Nat):List Int:=L.getD i []
theorem Qh (L:List (List Int))(i:Nat)(h:i<L.length):lget L i=L[i]:=by simp[lget,h]
theorem Pm (L:List (List Int))(i:Nat)(h:i<L.length):lget L i∈L:=by rw[Qh L i h];exact List.getElem_mem h
def BsAt (w:World)(b o:Nat)(xs:List Int):Prop :=
 ∃(a:Option Addr) (c:Nat),w.cell? ⟨b,o,none⟩=some (.slice a xs.length c)∧Sl w a xs.length (xs.map (Value.int .u8))∧xs.length≤c∧c≤maxLen
def SS (w:World)(a:Option Addr)(n:Nat)(L:List (List Int)):Prop :=
 L.length=n∧∀ i,i<n→∃ b off,a=some ⟨b,off,none⟩∧BsAt w b (off+i) (lget L i)
theorem BsAt.ext {w w':World}{b o:Nat}{xs:List Int}(h:BsAt w b o xs)(e:Ext w w'):BsAt w' b o xs:=by
 obtain⟨a,c,h1,h2,h3⟩:=h;exact⟨a,c,AI e h1,h2.ext e,h3⟩
theorem SS.ext {w w':World}{a:Option Addr}{n:Nat}{L:List (List Int)}(h:SS w a n L)(e:Ext w w'):SS w' a n L:=by
 refine⟨h.1,fun i hi => ?_⟩;obtain⟨b,off,ha,hs⟩:=h.2 i hi;exact⟨b,off,ha,hs.ext e⟩
theorem SS.drewN {w:World}{a:Option Addr}{n:Nat}{L:List (List Int)}(h:SS w a n L)(m:Nat):SS (w.drewN m) a n L:=h
def bx (a b:Int):Int:=bits .xor .u8 a b
theorem wrap_u8 (n:Int):IntKind.u8.wrap n=n%256:=by simp[IntKind.wrap,IntKind.signed,IntKind.bits]
def byt (z:Int):Prop:=0≤z∧z≤255
def tab (n:Nat)(f:Nat→Int):List Int:=(List.range n).map f
theorem Io (n:Nat)(f:Nat→Int):(tab n f).length=n:=by simp[tab]
theorem NR (n:Nat)(f:Nat→Int)(i:Nat)(h:i<n):nth (tab n f) i=f i:=by simp[nth,tab,h]
def fr (s:List Int)(i:Nat):Int:=if i=0 then(s.length:Int)else nth s (i-1)
def parT (L:List (List Int)):Nat→Nat→Int
 | 0,_=>0
 | t+1,i=>bx (parT L t i) (fr (lget L t) i)
def QC (L:List (List Int)):Nat→Nat
 | 0=>0
 | t+1=>max (QC L t) ((lget L t).length+1)
def small (L:List (List Int)):Prop:=∀ s∈L,s.length≤255∧∀ z∈s,byt z
def QP (L:List (List Int)):Bool:=decide (1≤L.length) && decide (L.length≤8) && L.all fun s=>decide (s.length≤255)
def Rk (L:List (List Int)):List Int:=if QP L=true then tab (QC L L.length) (parT L L.length)else []
structure Tch (w w' : World) (lo hi : Nat) : Prop where
 os:w'.os=w.os
 tape:w'.tape=w.tape
 output:w'.output=w.output
 size:w.heap.size≤w'.heap.size
 block:∀ k,k<w.heap.size→(k<lo∨hi≤k)→w'.heap[k]?=w.heap[k]?
theorem Tch.refl (w:World)(lo hi:Nat):Tch w w lo hi:=⟨rfl,rfl,rfl,Nat.le_refl _,fun _ _ _=>rfl⟩
theorem Tch.trans {a b c:World}{lo hi:Nat}(h:Tch a b lo hi)(k:Tch b c lo hi):Tch a c lo hi :=
 ⟨k.os.trans h.os,k.tape.trans h.tape,k.output.trans h.output,Nat.le_trans h.size k.size,fun i hi ho=>(k.block i (Nat.lt_of_lt_of_le hi h.size) ho).trans (h.block i hi ho)⟩
theorem Tch.of_grown {w w':World}{lo hi:Nat}{row:Option Nat}(g:w.grownBy w' row)(h:∀ k,row=some k→lo≤k∧k<hi):Tch w w' lo hi :=
 ⟨g.os,g.tape,g.output,g.size,fun k hk ho=>g.block k hk (fun e=>by have:=h k e.symm;omega)⟩
theorem Tch.ext {w w1 w2:World}{lo hi:Nat}(h:Tch w w1 lo hi)(e:Ext w1 w2):Tch w w2 lo hi :=
 ⟨e.os.trans h.os,e.tape.trans h.tape,e.output.trans h.output,Nat.le_trans h.size e.size,fun k hk ho=>(e.block k (Nat.lt_of_lt_of_le hk h.size)).trans (h.block k hk ho)⟩
theorem Ext.tch {a w w':World}{lo hi:Nat}(e:Ext a w)(h:Tch w w' lo hi)(hl:a.heap.size≤lo):Ext a w' :=
 ⟨h.os.trans e.os,h.tape.trans e.tape,h.output.trans e.output,Nat.le_trans e.size h.size,fun k hk=>(h.block k (Nat.lt_of_lt_of_le hk e.size) (by omega)).trans (e.block k hk)⟩
theorem Tch.cell {w w':World}{lo hi:Nat}(t:Tch w w' lo hi){p:Addr}{v:Value}(h:w.cell? p=some v)(ho:p.block<lo∨hi≤p.block):w'.cell? p=some v:=by
 have hb:=t.block p.block (World.block_lt_of_cell? w _ h) ho;obtain⟨b,o,s⟩:=p;simp only[World.cell?]at h⊢;simp only at hb;rw[hb];exact h
theorem Sl.tch {w w':World}{lo hi n:Nat}{a:Option Addr}{xs:List Value}(h:Sl w a n xs)(t:Tch w w' lo hi)(ho:∀ x,a=some x→x.block<lo∨hi≤x.block):Sl w' a n xs:=by
 refine⟨h.1,fun i hi => ?_⟩;obtain⟨b,off,ha,hc⟩:=h.2 i hi;have h2:=ho _ ha;exact⟨b,off,ha,t.cell hc h2⟩
def CF (k:Int)(n:Nat):List Int:=tab n fun i=>(k+(i:Int))%256
theorem Kd (v:Value)(n:Nat)(xs:List Value)(k:Int)(base:Nat)(w:World)(hn:n<2^47)(hk0:0≤k)(hk:k<2^60)
 (own:w.ownsRow base 5 1 v n xs) :
 Calls Tryz.prog 66 #[v,.int .i64 k] w fun e w'=>e= .returned (.int .i64 (k+n))∧w'.ownsRow base 5 1 v n ((CF k n).map (Value.int .u8))∧w.grownBy w' v.ownBlock:=by
 have hxl:xs.length=n:=by have:=own.1;omega
 rcases id own.2 with⟨rfl,rfl⟩|⟨g,cap,cur,rfl,-⟩
 ·go_enter Tryz.func66,Tryz.ntmps66
  go_wp2;go_loopw [1,5] (fun q i wr=>i= .int .i64 0∧q= .int .i64 k∧w=wr) (fun _ _ _=>0)
  case atStart=>exact⟨rfl,rfl,rfl⟩
  case round =>
   obtain⟨rfl,rfl,rfl⟩:=hrel;go_wp2;go_ret
   exact⟨by simp,World.ownsRow_nil _ _ _ _,World.grownBy.refl _ _⟩
 ·have H0:=Ig ((CF k n).map (Value.int .u8)) xs;rw[←H0]at own;clear H0;go_enter Tryz.func66,Tryz.ntmps66
  go_wp2;go_loopw [1,5] (fun q i wr=>∃ j:Nat,j≤n∧i= .int .i64 j∧q= .int .i64 (k+j)∧w.grownBy wr (some g)∧wr.ownsRow base 5 1 (.slice (some ⟨g,0,none⟩) n cap) n (mix ((CF k n).map (Value.int .u8)) xs j)) (fun _ i _=>n-(intOf i).toNat)
  case atStart=>exact⟨0,by omega,rfl,by simp,World.grownBy.refl _ _,own⟩
  case round =>
   obtain⟨j,hj,rfl,rfl,E2,hown2⟩:=hrel;clear own
   by_cases hlt:j<n
   ·obtain⟨u,g2,-⟩:=Ii hown2 hlt;have g3:=hown2.frozenAt j;have Hx:=Aa hxl;have hrel2:(wr.setCell ⟨g,j,none⟩ (.int .u8 (IntKind.u8.wrap (k+j)))).ownsRow base 5 1 (.slice (some ⟨g,0,none⟩) n cap) n (mix ((CF k n).map (Value.int .u8)) xs (j+1))∧wr.grownBy (wr.setCell ⟨g,j,none⟩ (.int .u8 (IntKind.u8.wrap (k+j)))) (some g):=by
     obtain⟨o2,gr⟩:=hown2.stored j (.int .u8 (IntKind.u8.wrap (k+j)));rw[Jd _ _ j (by simp[CF,Io,hxl]) (by simp[CF,Io,hlt]) _ (by rw[getD_map_int _ _ _ (by rw[CF,Io];exact hlt),CF,NR _ _ _ hlt,wrap_u8])]at o2;exact⟨o2,gr⟩
    have Hrel:=Aa hrel2;have GG:=Aa (grownBy_trans E2 hrel2.2);clear hxl hrel2 hown2 E2;go_wp2;go_roundw
    case rel=>exact⟨j+1,by omega,rfl,by go_num,by first|exact GG.out|simpa [wrap_u8] using GG.out,by first|exact Hrel.out.1|simpa [wrap_u8] using Hrel.out.1⟩
    case measure=>simp[intOf];omega
   ·obtain rfl:j=n:=by omega
    rw[Jc _ _ j (by simp[CF,Io]) hxl]at hown2;clear hxl;go_wp2;go_ret
    exact⟨rfl,hown2,E2⟩
theorem J7 (a:Option Addr)(c n:Nat)(k:Int)(w:World)(hn:n<2^47)(hk0:0≤k)(hk:k<2^60)
 (r:Sl w a n ((CF k n).map (Value.int .u8))) :
 Calls Tryz.prog 67 #[.slice a n c,.int .i64 k] w fun e w'=>e= .returned (.int .i64 (k+n))∧∃ m,w'=w.drewN m:=by
 go_enter Tryz.func67,Tryz.ntmps67
 go_wp2;go_loopw [1,5] (fun q i wr=>∃ j:Nat,j≤n∧i= .int .i64 j∧q= .int .i64 (k+j)∧∃ m,wr=w.drewN m) (fun _ i _=>n-(intOf i).toNat)
 case atStart=>exact⟨0,by omega,rfl,by simp,0,rfl⟩
 case round =>
  obtain⟨j,hj,rfl,rfl,m,rfl⟩:=hrel
  by_cases hlt:j<n
  ·obtain⟨b1,o1,rfl,g1⟩:=r.int hlt;rw[CF,NR _ _ _ hlt]at g1;have hw:IntKind.u8.wrap (k+(j:Int))=(k+(j:Int))%256:=wrap_u8 _;generalize (k+(j:Int))%256=y at g1 hw;have hb:(y != y)=false:=by simp
   go_wp2;go_roundw
   case rel=>exact⟨j+1,by omega,rfl,by go_num,m,rfl⟩
   case measure=>simp[intOf];omega
  ·obtain rfl:j=n:=by omega
   go_wp2;go_ret
   exact⟨rfl,m,rfl⟩
theorem KT (a1 a2:Option Addr)(c1 c2 n:Nat)(xs:List Int)(w:World)(hn:n<2^47)(r1:Sl w a1 n (xs.map (Value.int .u8)))(r2:Sl w a2 n (xs.map (Value.int .u8))):
 Calls Tryz.prog 65 #[.slice a1 n c1,.slice a2 n c2] w fun e w'=>e= .returned (.bool true)∧∃ m,w'=w.drewN m:=by
 refine(LC a1 a2 c1 c2 n n xs xs w hn hn r1 r2).mono ?_
 rintro e w' ⟨rfl,h⟩
 exact⟨by rw[decide_eq_true rfl],h⟩
theorem ER : (Tryz.prog.info? 54).map (fun i=>(i.zero,i.size,i.bytes))=some (some (.slice none 0 0),1,24):=by kernel_rfl
theorem J6 (a b:Option Addr)(c d n:Nat)(L:List (List Int))(w:World)(hn:n<2^40)(hL:∀ x∈L,x.length<2^45)(r1:SS w a n L)(r2:SS w b n L):
 Calls Tryz.prog 27 #[.slice a n c,.slice b n d] w fun e w'=>e= .returned (.bool true)∧Ext w w':=by
 have Hl:=Aa r1.1;have HL:=Aa hL;clear hL;go_enter Tryz.func27,Tryz.ntmps27
 go_wp2_with fail
 go_loopw [5] (fun i wr=>∃(k:Nat),k≤n∧i= .int .i64 k∧Ext w wr) (fun i _=>n-(intOf i).toNat)
 case atStart=>exact⟨0,by omega,rfl,Below.refl _ _⟩
 case round =>
  obtain⟨k,hk,rfl,E2⟩:=hrel
  by_cases hlt:k<n
  ·obtain⟨b1,o1,rfl,a2,c2,h1,h2,h3,h4⟩:=(r1.ext E2).2 k hlt;obtain⟨b2,o2,rfl,a3,c3,j1,j2,j3,j4⟩:=(r2.ext E2).2 k hlt;have hdl:=HL.out _ (Pm L k (by rw[Hl.out];exact hlt));have hcl:=fun(wz:World) (e:Ext wr wz)=>KT a2 a3 c2 c3 _ (lget L k) wz (by omega) (h2.ext e) (j2.ext e)
   have Hcl:=Aa hcl;clear r1 r2 hcl h2 h3 h4 j2 j3 j4;go_wp2_with fail
   refine An (by kernel_rfl) [(17,0),(18,1),(19,2),(20,3),(21,4),(22,5),(23,6),(24,7),(25,8),(26,9)] [[],[],[0,1],[0,1,2],[],[],[4,5],[4,5,6],[0,1,2,3,4,5,6,7],[0,1,2,3,4,5,6,7,8]] (fun i own ys wx=>match i with|0=>own= .slice (some ⟨b1,o1,none⟩) n c|1=>own= .int .i64 k|2=>own= .pointer (some ⟨b1,o1+k,none⟩)|3=>own= .slice a2 (lget L k).length c2|4=>own= .slice (some ⟨b2,o2,none⟩) n d|5=>own= .int .i64 k|6=>own= .pointer (some ⟨b2,o2+k,none⟩)|7=>own= .slice a3 (lget L k).length c3|8=>own= .bool true|9=>own= .bool false|_=>True) (fun kx wx=>Ext wr wx) (by kernel_rfl) (by kernel_rfl) (by kernel_rfl) ?g0_r1 ?gop_r1 ?gend_r1
   case g0_r1=>exact Ext.drewN _ 1
   case gop_r1 =>
    refine⟨?_,?_,?o2,?o3,?_,?_,?o6,?o7,?o8,?o9,trivial⟩ <;> (intro kx xs wx hk hG hD hI Qo Kx hK hQo;simp only[Ad,Nat.reduceAdd,Nat.reduceEqDiff,↓reduceIte]at hQo⊢)
    case o2 =>
     rw[ddq (hD 0 rfl),ddq (hD 1 rfl)]at hQo⊢;clear hD hI;go_wp2;exact hK.out _ _ ⟨rfl,hG,kkp⟩
    case o3 =>
     rw[ddq (hD 2 rfl)]at hQo⊢;clear hD hI;have h1':=(AI hG h1);go_wp2;exact hK.out _ _ ⟨rfl,hG,kkp⟩
    case o6 =>
     rw[ddq (hD 4 rfl),ddq (hD 5 rfl)]at hQo⊢;clear hD hI;go_wp2;exact hK.out _ _ ⟨rfl,hG,kkp⟩
    case o7 =>
     rw[ddq (hD 6 rfl)]at hQo⊢;clear hD hI;have h1':=(AI hG j1);go_wp2;exact hK.out _ _ ⟨rfl,hG,kkp⟩
    case o8 =>
     rw[ddq (hD 3 rfl),ddq (hD 7 rfl)]at hQo⊢;clear hD hI;go_wp2_with fail
     refine(Hcl.out _ hG).mono ?_
     rintro e w4 ⟨rfl,m4,rfl⟩
     have e4:Ext wx (wx.drewN m4):=Ext.drewN _ _;go_wp2;exact hK.out _ _ ⟨rfl,hG.trans e4,kkp⟩
    case o9 =>
     rw[ddq (hD 8 rfl)]at hQo⊢;clear hD hI;go_wp2;exact hK.out _ _ ⟨rfl,hG,kkp⟩
    all_goals
     clear hD hI;go_wp2;exact hK.out _ _ ⟨rfl,hG,kkp⟩
   intro xs wx hV hG;have d0:_=_:=hV 0 (by decide);have d1:_=_:=hV 1 (by decide);have d2:_=_:=hV 2 (by decide);have d3:_=_:=hV 3 (by decide);have d4:_=_:=hV 4 (by decide);have d5:_=_:=hV 5 (by decide);have d6:_=_:=hV 6 (by decide);have d7:_=_:=hV 7 (by decide);have d8:_=_:=hV 8 (by decide);have d9:_=_:=hV 9 (by decide);clear hV;simp only[Ad,Nat.reduceAdd,Nat.reduceEqDiff,↓reduceIte];generalize xs 0=y0,xs 1=y1,xs 2=y2,xs 3=y3,xs 4=y4,xs 5=y5,xs 6=y6,xs 7=y7,xs 8=y8,xs 9=y9 at *
   replace hG:Ext wr wx:=hG
   subst d0 d1 d2 d3 d4 d5 d6 d7 d8 d9;go_wp2;go_roundw
   case rel=>exact⟨k+1,by omega,by go_num,E2.trans hG⟩
   case measure=>simp[intOf];omega
  ·obtain rfl:k=n:=by omega
   go_wp2;go_ret
   exact⟨rfl,E2⟩
theorem bx5 {w:World}{b:Nat}{x0 x1 x2 x3 x4:Value}{T:TypeId}(h:w.heap[b]?=some (.cells #[x0,x1,x2,x3,x4] T (0,0))):b<w.heap.size∧w.cell? ⟨b,0,none⟩=some x0∧w.cell? ⟨b,1,none⟩=some x1∧w.cell? ⟨b,2,none⟩=some x2∧w.cell? ⟨b,3,none⟩=some x3∧w.cell? ⟨b,4,none⟩=some x4 :=
 ⟨lt_of_block h,by simp[World.cell?,h],by simp[World.cell?,h],by simp[World.cell?,h],by simp[World.cell?,h],by simp[World.cell?,h]⟩
theorem fz5 {w:World}{b:Nat}{x0 x1 x2 x3 x4:Value}{T:TypeId}(h:w.heap[b]?=some (.cells #[x0,x1,x2,x3,x4] T (0,0))):w.frozen? ⟨b,0,none⟩=false∧w.frozen? ⟨b,1,none⟩=false∧w.frozen? ⟨b,2,none⟩=false∧w.frozen? ⟨b,3,none⟩=false∧w.frozen? ⟨b,4,none⟩=false :=
 ⟨by simp[World.frozen?,h],by simp[World.frozen?,h],by simp[World.frozen?,h],by simp[World.frozen?,h],by simp[World.frozen?,h]⟩
theorem BA {w:World}{b:Nat}{x0 x1 x2 x3 x4 y0 y1 y2 y3 y4:Value}{T:TypeId}(h:w.heap[b]?=some (.cells #[x0,x1,x2,x3,x4] T (0,0))):(((((w.setCell ⟨b,0,none⟩ y0).setCell ⟨b,1,none⟩ y1).setCell ⟨b,2,none⟩ y2).setCell ⟨b,3,none⟩ y3).setCell ⟨b,4,none⟩ y4).heap[b]?=some (.cells #[y0,y1,y2,y3,y4] T (0,0)):=by
 have h1:=heap_setCell_same w b 0 _ _ y0 h;have h2:=heap_setCell_same _ b 1 _ _ y1 h1;have h3:=heap_setCell_same _ b 2 _ _ y2 h2;have h4:=heap_setCell_same _ b 3 _ _ y3 h3;have h5:=heap_setCell_same _ b 4 _ _ y4 h4
 simpa using h5
theorem gs1 (w:World)(g o:Nat)(u:Value):w.grownBy (w.setCell ⟨g,o,none⟩ u) (some g):=⟨rfl,rfl,rfl,by simp,fun k _ hk=>heap_setCell_other w ⟨g,o,none⟩ k u (fun e=>hk (by simp[e]))⟩
theorem gs5 (w:World)(B i0 i1 i2 i3 i4:Nat)(u0 u1 u2 u3 u4:Value):w.grownBy (((((w.setCell ⟨B,i0,none⟩ u0).setCell ⟨B,i1,none⟩ u1).setCell ⟨B,i2,none⟩ u2).setCell ⟨B,i3,none⟩ u3).setCell ⟨B,i4,none⟩ u4) (some B) :=
 grownBy_trans (grownBy_trans (grownBy_trans (grownBy_trans (gs1 _ _ _ _) (gs1 _ _ _ _)) (gs1 _ _ _ _)) (gs1 _ _ _ _)) (gs1 _ _ _ _)
theorem BO {w:World}{b1 b2 e1 e2 s1 s2 n1 n2:Nat}{v1 v2:Value}{x1 x2:List Value}(h1:w.ownsRow b1 e1 s1 v1 n1 x1)(h2:w.ownsRow b2 e2 s2 v2 n2 x2)(hne:e1≠e2):v1.ownBlock=none∨v1.ownBlock≠v2.ownBlock:=by
 rcases h1.2 with⟨rfl,-⟩|⟨g,cap,cur,rfl,-,p1,-⟩
 ·exact .inl rfl
 ·right
  intro he;rcases h2.2 with⟨rfl,-⟩|⟨g',cap',cur',rfl,-,p2,-⟩
  ·simp[Value.ownBlock]at he
  ·simp[Value.ownBlock]at he;subst he;rw[p1]at p2;simp at p2;exact hne p2.2
def sumN (g:Nat→Nat):Nat→Nat
 | 0=>0
 | n+1=>sumN g n+g n
theorem IE {g:Nat→Nat}{i n:Nat}(h:i≤n):sumN g i≤sumN g n:=by
 induction n with
 | zero =>
  obtain rfl:i=0:=by omega
  exact Nat.le_refl _
 | succ n ih =>
  by_cases hi:i=n+1
  ·subst hi;exact Nat.le_refl _
  ·have:=ih (by omega);simp only[sumN];omega
theorem J3 {g:Nat→Nat}{i n:Nat}(h:i<n):g i≤sumN g n:=by
 have:=IE (g:=g) (show i+1≤n from h);simp only[sumN]at this;omega
theorem G6 {bs:Nat→Nat}{n:Nat}(h:∀ i,i<n→bs i≤bs (i+1)):∀ {j i:Nat},i≤j→j≤n→bs i≤bs j:=by
 intro j
 induction j with
 | zero =>
  intro i hi _;obtain rfl:i=0:=by omega
  exact Nat.le_refl _
 | succ j ih =>
  intro i hi hj
  by_cases e:i=j+1
  ·subst e;exact Nat.le_refl _
  ·exact Nat.le_trans (ih (by omega) (by omega)) (h j (by omega))
theorem Mm {us:Nat→Nat}{k lo hi hi':Nat}(h2:lo≤us 0)(h4:us k≤hi)(h5:∀ i,i<k→us i≤us (i+1))(hh:hi≤hi'):
 ∃ vs:Nat→Nat,(∀ i,i<k→vs i=us i)∧vs k=hi∧vs (k+1)=hi'∧lo≤vs 0∧(∀ i,i<k+1→vs i≤vs (i+1))∧∀ i,i<k→us (i+1)≤vs (i+1):=by
 obtain⟨vs,v1,v2,v3⟩:∃ vs:Nat→Nat,(∀ i,i<k→vs i=us i)∧vs k=hi∧vs (k+1)=hi' :=
  ⟨fun i=>if i<k then us i else if i=k then hi else hi',fun i hi=>by simp[hi],by simp,by simp;omega⟩
 have hle:∀ i,i<k→us (i+1)≤vs (i+1):=fun i hi3=>by
  by_cases e:i+1=k
  ·rw[e,v2];exact h4
  ·rw[v1 _ (by omega)];exact Nat.le_refl _
 refine⟨vs,v1,v2,v3,?_,fun i hi2 => ?_,hle⟩
 ·by_cases h0:k=0
  ·subst h0;rw[v2];omega
  ·rw[v1 0 (by omega)];exact h2
 ·by_cases e:i=k
  ·subst e;rw[v2,v3];exact hh
  ·rw[v1 i (by omega)];exact Nat.le_trans (h5 i (by omega)) (hle i (by omega))
def lst (n:Nat)(f:Nat→List Int):List (List Int):=(List.range n).map f
theorem Qj (n:Nat)(f:Nat→List Int):(lst n f).length=n:=by simp[lst]
theorem LX {n:Nat}{f:Nat→List Int}{i:Nat}(h:i<n):lget (lst n f) i=f i:=by simp[lget,lst,h]
theorem Qk {n:Nat}{f:Nat→List Int}{x:List Int}(h:x∈lst n f):∃ i,i<n∧x=f i:=by
 simp only[lst,List.mem_map,List.mem_range]at h;obtain⟨i,hi,rfl⟩:=h;exact⟨i,hi,rfl⟩
theorem SS.of {w:World}{a:Option Addr}{n:Nat}{f:Nat→List Int}(h:∀ i,i<n→∃ b off,a=some ⟨b,off,none⟩∧BsAt w b (off+i) (f i)):SS w a n (lst n f) :=
 ⟨Qj _ _,fun i hi=>by rw[LX hi];exact h i hi⟩
theorem SS.at {w:World}{a:Option Addr}{n:Nat}{f:Nat→List Int}(h:SS w a n (lst n f)){i:Nat}(hi:i<n):∃ b off,a=some ⟨b,off,none⟩∧BsAt w b (off+i) (f i):=by
 have:=h.2 i hi;rw[LX hi]at this;exact this
structure Cd where
 w:Int
 h:Int
 i:Bool
 q:Int
 n:Nat
 f:Nat→List Int
def cd0 : Cd:=⟨0,0,false,0,0,fun _ => []⟩
def CdAt (w:World)(b o:Nat)(x:Cd):Prop :=
 ∃(a:Option Addr) (c:Nat),(w.cell? ⟨b,o,none⟩=some (.int .i64 x.w)∧w.cell? ⟨b,o+1,none⟩=some (.int .i64 x.h)∧w.cell? ⟨b,o+2,none⟩=some (.bool x.i)∧w.cell? ⟨b,o+3,none⟩=some (.int .i64 x.q)∧w.cell? ⟨b,o+4,none⟩=some (.slice a x.n c))∧SS w a x.n (lst x.n x.f)∧x.n≤c∧c≤maxLen
def CP (w:World)(a:Option Addr)(n:Nat)(r:Nat→Cd):Prop :=
 ∀ i,i<n→∃ b off,a=some ⟨b,off,none⟩∧CdAt w b (off+i*5) (r i)
theorem CdAt.ext {w w':World}{b o:Nat}{x:Cd}(h:CdAt w b o x)(e:Ext w w'):CdAt w' b o x:=by
 obtain⟨a,c,⟨h1,h2,h3,h4,h5⟩,h6,h7⟩:=h;exact⟨a,c,⟨AI e h1,AI e h2,AI e h3,AI e h4,AI e h5⟩,h6.ext e,h7⟩
theorem CP.ext {w w':World}{a:Option Addr}{n:Nat}{r:Nat→Cd}(h:CP w a n r)(e:Ext w w'):CP w' a n r:=fun i hi=>by
 obtain⟨b,off,ha,hs⟩:=h i hi;exact⟨b,off,ha,hs.ext e⟩
theorem CP.congr {w:World}{a:Option Addr}{n:Nat}{r s:Nat→Cd}(h:CP w a n r)(e:∀ i,i<n→r i=s i):CP w a n s:=fun i hi=>by
 obtain⟨b,off,ha,hs⟩:=h i hi;exact⟨b,off,ha,by rw[←e i hi];exact hs⟩
def SSb (w:World)(lo hi:Nat)(v:Value)(n k:Nat)(f:Nat→List Int)(cs:List Value)(bs:Nat→Nat):Prop :=
 w.ownsRow lo 54 1 v n cs∧lo≤bs 0∧bs k≤hi∧(∀ i,i<k→bs i≤bs (i+1))∧∀ i,i<k→∃(a':Option Addr) (c':Nat),cs[i]?=some (.slice a' (f i).length c')∧w.ownsRow (bs i) 5 1 (.slice a' (f i).length c') (f i).length ((f i).map (Value.int .u8))∧∀ y,a'=some y→y.block<bs (i+1)
def SSk (w:World)(lo hi:Nat)(v:Value)(n k:Nat)(f:Nat→List Int)(cs:List Value):Prop:=∃ bs,SSb w lo hi v n k f cs bs
def SSg (w:World)(lo hi:Nat)(v:Value)(n:Nat)(f:Nat→List Int)(cs:List Value):Prop:=SSk w lo hi v n n f cs
theorem SSb.ext {w w':World}{lo hi n k:Nat}{v:Value}{f:Nat→List Int}{cs:List Value}{bs:Nat→Nat}(h:SSb w lo hi v n k f cs bs)(e:Ext w w'):SSb w' lo hi v n k f cs bs:=by
 obtain⟨h1,h2,h3,h4,h5⟩:=h;refine⟨Ae h1 e,h2,h3,h4,fun i hi => ?_⟩;obtain⟨a',c',k1,k2,k3⟩:=h5 i hi;exact⟨a',c',k1,Ae k2 e,k3⟩
theorem SSk.ext {w w':World}{lo hi n k:Nat}{v:Value}{f:Nat→List Int}{cs:List Value}(h:SSk w lo hi v n k f cs)(e:Ext w w'):SSk w' lo hi v n k f cs:=by
 obtain⟨bs,h⟩:=h;exact⟨bs,h.ext e⟩
theorem SSg.ext {w w':World}{lo hi n:Nat}{v:Value}{f:Nat→List Int}{cs:List Value}(h:SSg w lo hi v n f cs)(e:Ext w w'):SSg w' lo hi v n f cs:=SSk.ext h e
theorem SSk.kept {w w':World}{lo hi n k b0 T s0 n0:Nat}{v v0:Value}{f:Nat→List Int}{cs x0:List Value}(h:SSk w lo hi v n k f cs)(g:w.grownBy w' v0.ownBlock)
 (o0:w.ownsRow b0 T s0 v0 n0 x0) (t1:54≠T) (t2:5≠T):SSk w' lo hi v n k f cs:=by
 obtain⟨bs,h1,h2,h3,h4,h5⟩:=h;refine⟨bs,h1.kept g (BO h1 o0 t1),h2,h3,h4,fun i hi => ?_⟩;obtain⟨a',c',k1,k2,k3⟩:=h5 i hi;exact⟨a',c',k1,k2.kept g (BO k2 o0 t2),k3⟩
theorem SSg.kept {w w':World}{lo hi n b0 T s0 n0:Nat}{v v0:Value}{f:Nat→List Int}{cs x0:List Value}(h:SSg w lo hi v n f cs)(g:w.grownBy w' v0.ownBlock)
 (o0:w.ownsRow b0 T s0 v0 n0 x0) (t1:54≠T) (t2:5≠T):SSg w' lo hi v n f cs:=SSk.kept h g o0 t1 t2
theorem SSg.toSS {w:World}{lo hi n c:Nat}{a:Option Addr}{f:Nat→List Int}{cs:List Value}(h:SSg w lo hi (.slice a n c) n f cs):SS w a n (lst n f):=by
 obtain⟨bs,h1,-,-,-,h2⟩:=h;have s:=Sl.of_owns h1;refine SS.of fun i hi => ?_
 obtain⟨b,off,ha,hc⟩:=s.2 i hi;obtain⟨a',c',h3,h4,-⟩:=h2 i hi;exact⟨b,off,ha,a',c',by rw[hc];simp[List.getD,h3],Sl.of_owns h4,(Md h4).1,(Md h4).2⟩
theorem SSk.zero {w:World}{lo hi n:Nat}{v:Value}{cs:List Value}(f:Nat→List Int)(h:w.ownsRow lo 54 1 v n cs)(hh:lo≤hi):SSk w lo hi v n 0 f cs :=
 ⟨fun _=>lo,h,Nat.le_refl _,hh,fun i hi=>by omega,fun i hi=>by omega⟩
theorem SSk.own {w:World}{lo hi n k:Nat}{v:Value}{f:Nat→List Int}{cs:List Value}(h:SSk w lo hi v n k f cs):w.ownsRow lo 54 1 v n cs:=by
 obtain⟨bs,h1,-⟩:=h;exact h1
theorem SSk.nil (w:World)(lo hi:Nat)(f:Nat→List Int)(h:lo≤hi):SSk w lo hi (.slice none 0 0) 0 0 f []:=SSk.zero f (World.ownsRow_nil _ _ _ _) h
theorem SSk.up {w:World}{lo hi hi' n k:Nat}{v:Value}{f:Nat→List Int}{cs:List Value}(h:SSk w lo hi v n k f cs)(e:hi≤hi'):SSk w lo hi' v n k f cs:=by
 obtain⟨bs,h1,h2,h3,h4⟩:=h;exact⟨bs,h1,h2,Nat.le_trans h3 e,h4⟩
theorem SSk.gr {w w':World}{lo hi n k b:Nat}{v:Value}{f:Nat→List Int}{cs:List Value}(h:SSk w lo hi v n k f cs)(g:w.grownBy w' (some b))(hb:b<lo):SSk w' lo hi v n k f cs:=by
 obtain⟨bs,h1,h2,h3,h4,h5⟩:=h;refine⟨bs,BI h1 g hb,h2,h3,h4,fun i hi2 => ?_⟩;obtain⟨a',c',k1,k2,k3⟩:=h5 i hi2;have:=G6 h4 (show 0≤i by omega) (by omega);exact⟨a',c',k1,BI k2 g (by omega),k3⟩
theorem SSk.mono {w:World}{lo lo' hi n k:Nat}{v:Value}{f:Nat→List Int}{cs:List Value}(h:SSk w lo hi v n k f cs)(e:lo'≤lo):SSk w lo' hi v n k f cs:=by
 obtain⟨bs,h1,h2,h3,h4⟩:=h;exact⟨bs,AH h1 e,Nat.le_trans e h2,h3,h4⟩
theorem SSk.snoc {w w':World}{lo hi hi' n n' k:Nat}{v v':Value}{f:Nat→List Int}{cs cs':List Value}{a1:Option Addr}{c1:Nat}(h:SSk w lo hi v n k f cs)
 (h3:w.ownsRow hi 5 1 (.slice a1 (f k).length c1) (f k).length ((f k).map (Value.int .u8))) (hh:hi≤hi') (hlt:∀ y,a1=some y→y.block<hi')
 (own:w'.ownsRow lo 54 1 v' n' cs') (g:w.grownBy w' v.ownBlock) (hold:∀ o,o<k→cs'[o]?=cs[o]?) (hnew:cs'[k]?=some (.slice a1 (f k).length c1)):SSk w' lo hi' v' n' (k+1) f cs':=by
 obtain⟨bs,h1,h2,h4,h5,h6⟩:=h;have hk:∀ {b m xs a c},w.ownsRow b 5 1 (.slice a m c) m xs→w'.ownsRow b 5 1 (.slice a m c) m xs:=fun o=>o.kept g (BO o h1 (by decide))
 obtain⟨vs,v1,v2,v3,v4,v5,v6⟩:=Mm h2 h4 h5 hh;refine⟨vs,own,v4,by rw[v3];exact Nat.le_refl _,v5,fun i hi2 => ?_⟩
 by_cases e:i=k
 ·subst e;exact⟨a1,c1,hnew,by rw[v2];exact hk h3,by rw[v3];exact hlt⟩
 ·obtain⟨a',c',k1,k2,k3⟩:=h6 i (by omega);exact⟨a',c',by rw[hold _ (by omega)];exact k1,by rw[v1 i (by omega)];exact hk k2,fun y hy=>Nat.lt_of_lt_of_le (k3 y hy) (v6 i (by omega))⟩
theorem SSk.app {w w':World}{lo hi hi' n:Nat}{v v':Value}{f:Nat→List Int}{cs:List Value}{a1:Option Addr}{c1:Nat}(h:SSk w lo hi v n n f cs)
 (h3:w.ownsRow hi 5 1 (.slice a1 (f n).length c1) (f n).length ((f n).map (Value.int .u8))) (hh:hi≤hi') (hlt:∀ y,a1=some y→y.block<hi')
 (own:w'.ownsRow lo 54 1 v' (n+1) (cs ++ [.slice a1 (f n).length c1])) (g:w.grownBy w' v.ownBlock):SSk w' lo hi' v' (n+1) (n+1) f (cs ++ [.slice a1 (f n).length c1]):=by
 have hcl:cs.length=n:=by have:=h.own.1;omega
 exact h.snoc h3 hh hlt own g (fun o ho=>by rw[List.getElem?_append_left (by omega)]) (by rw[←hcl];simp)
def RC (cs:List Value)(o:Nat)(x:Cd)(a:Option Addr)(c:Nat):Prop :=
 cs[o]?=some (.int .i64 x.w)∧cs[o+1]?=some (.int .i64 x.h)∧cs[o+2]?=some (.bool x.i)∧cs[o+3]?=some (.int .i64 x.q)∧cs[o+4]?=some (.slice a x.n c)
def CEu (w:World)(lo hi:Nat)(v:Value)(n k:Nat)(r:Nat→Cd)(cs:List Value)(us:Nat→Nat):Prop :=
 w.ownsRow lo 28 5 v n cs∧lo≤us 0∧us k≤hi∧(∀ i,i<k→us i≤us (i+1))∧∀ i,i<k→∃(a:Option Addr) (c:Nat) (ss:List Value),RC cs (i*5) (r i) a c∧SSg w (us i) (us (i+1)) (.slice a (r i).n c) (r i).n (r i).f ss
def CE (w:World)(lo hi:Nat)(v:Value)(n k:Nat)(r:Nat→Cd)(cs:List Value):Prop:=∃ us,CEu w lo hi v n k r cs us
theorem CEu.ext {w w':World}{lo hi n k:Nat}{v:Value}{r:Nat→Cd}{cs:List Value}{us:Nat→Nat}(h:CEu w lo hi v n k r cs us)(e:Ext w w'):CEu w' lo hi v n k r cs us:=by
 obtain⟨h1,h2,h3,h4,h5⟩:=h;refine⟨Ae h1 e,h2,h3,h4,fun i hi => ?_⟩;obtain⟨a,c,ss,k1,k2⟩:=h5 i hi;exact⟨a,c,ss,k1,k2.ext e⟩
theorem CE.ext {w w':World}{lo hi n k:Nat}{v:Value}{r:Nat→Cd}{cs:List Value}(h:CE w lo hi v n k r cs)(e:Ext w w'):CE w' lo hi v n k r cs:=by
 obtain⟨us,h⟩:=h;exact⟨us,h.ext e⟩
theorem CE.up {w:World}{lo hi hi' n k:Nat}{v:Value}{r:Nat→Cd}{cs:List Value}(h:CE w lo hi v n k r cs)(e:hi≤hi'):CE w lo hi' v n k r cs:=by
 obtain⟨us,h1,h2,h3,h4⟩:=h;exact⟨us,h1,h2,Nat.le_trans h3 e,h4⟩
theorem CE.congr {w:World}{lo hi n k:Nat}{v:Value}{r s:Nat→Cd}{cs:List Value}(h:CE w lo hi v n k r cs)(e:∀ i,i<k→r i=s i):CE w lo hi v n k s cs:=by
 obtain⟨us,h1,h2,h3,h4,h5⟩:=h;refine⟨us,h1,h2,h3,h4,fun i hi => ?_⟩;rw[←e i hi];exact h5 i hi
theorem CE.zero {w:World}{lo hi n:Nat}{v:Value}{cs:List Value}(r:Nat→Cd)(h:w.ownsRow lo 28 5 v n cs)(hh:lo≤hi):CE w lo hi v n 0 r cs :=
 ⟨fun _=>lo,h,Nat.le_refl _,hh,fun i hi=>by omega,fun i hi=>by omega⟩
theorem CE.snoc {w w':World}{lo hi hi' n n' k:Nat}{v v':Value}{r:Nat→Cd}{cs cs':List Value}{a1:Option Addr}{c1:Nat}{ss:List Value}(h:CE w lo hi v n k r cs)
 (h3:SSg w hi hi' (.slice a1 (r k).n c1) (r k).n (r k).f ss) (hh:hi≤hi')
 (own:w'.ownsRow lo 28 5 v' n' cs') (g:w.grownBy w' v.ownBlock) (hold:∀ o,o<k*5→cs'[o]?=cs[o]?) (hnew:RC cs' (k*5) (r k) a1 c1):CE w' lo hi' v' n' (k+1) r cs':=by
 obtain⟨us,h1,h2,h4,h5,h6⟩:=h;obtain⟨vs,v1,v2,v3,v4,v5,v6⟩:=Mm h2 h4 h5 hh;refine⟨vs,own,v4,by rw[v3];exact Nat.le_refl _,v5,fun i hi2 => ?_⟩
 by_cases e:i=k
 ·subst e;exact⟨a1,c1,ss,hnew,by rw[v2,v3];exact h3.kept g h1 (by decide) (by decide)⟩
 ·obtain⟨a',c',s',⟨k1,k2,k3,k4,k5⟩,k6⟩:=h6 i (by omega);have hr:RC cs' (i*5) (r i) a' c':=⟨by rw[hold _ (by omega)];exact k1,by rw[hold _ (by omega)];exact k2,by rw[hold _ (by omega)];exact k3,by rw[hold _ (by omega)];exact k4,by rw[hold _ (by omega)];exact k5⟩;obtain⟨bs,q1,q2,q3,q4⟩:=k6.kept g h1 (by decide) (by decide);refine⟨a',c',s',hr,bs,?_,?_,Nat.le_trans q3 (v6 i (by omega)),q4⟩
  ·rw[v1 i (by omega)];exact q1
  ·rw[v1 i (by omega)];exact q2
noncomputable def emB (t r : Pic)(W H : Nat)(px : List Int)(x y q : Nat)(intra : Bool): Mac := if intra then BP t ⟨W, H, px⟩ x y q y 4 else chM t r ⟨W, H, px⟩ x y q y
noncomputable def rowE (t r : Pic)(W H y q : Nat)(intra : Bool)(px : List Int): Nat → List Int
 | 0=>px
 | k+1=>bldS r ⟨W,H,rowE t r W H y q intra px k⟩ (8*k) y (emB t r W H (rowE t r W H y q intra px k) (8*k) y q intra) q y 4
noncomputable def rowB (t r : Pic)(W H y q : Nat)(intra : Bool)(px : List Int)(k : Nat): Mac := emB t r W H (rowE t r W H y q intra px k) (8 * k) y q intra
noncomputable def picE (t r : Pic)(W H q : Nat)(intra : Bool)(W8 : Nat): Nat → List Int
 | 0=>List.replicate (W*H) 128
 | j+1=>rowE t r W H (8*j) q intra (picE t r W H q intra W8 j) W8
noncomputable def slcE (t r : Pic)(W H q : Nat)(intra : Bool)(W8 j : Nat): List Int := slcL (rowB t r W H (8 * j) q intra (picE t r W H q intra W8 j)) intra W8
def okE (t r:Pic)(intra:Bool)(q:Int):Prop:=t.valid∧(0≤q∧q≤15)∧(intra=false→AS t r)
noncomputable instance (t r : Pic) (intra : Bool) (q : Int) : Decidable (okE t r intra q) := Classical.propDecidable _
noncomputable def encP (t r : Pic)(intra : Bool)(q : Int): Cd := if okE t r intra q then ⟨t.w, t.h, intra, q, t.h.toNat / 8, slcE t r t.w.toNat t.h.toNat q.toNat intra (t.w.toNat / 8)⟩ else cd0
theorem Fw (t r:Pic)(W H:Nat)(px:List Int)(x y q:Nat)(intra:Bool):(emB t r W H px x y q intra).ok:=by
 unfold emB;cases intra with
 | true=>exact FG t _ x y q y (Nat.le_refl 4)
 | false=>exact KQ t r _ x y q y
theorem Qt {t r p:Pic}{x y q:Nat}{top:Int}{m1 m2:Mac}(h1:m1.valid)(h2:m2.valid)(k:Nat):(stC t r p x y q top m1 m2 k).valid:=by
 induction k with
 | zero=>exact If
 | succ k ih =>
  have hc:(if k=0 then m1 else m2).valid:=by split <;> assumption
  unfold stC
  by_cases hlt:cst t r p x y q top (if k=0 then m1 else m2)<cst t r p x y q top (stC t r p x y q top m1 m2 k)
  ·rw[if_pos hlt];exact hc
  ·rw[if_neg hlt];exact ih
theorem Jy {t r:Pic}{W H:Nat}{px:List Int}(x y:Nat){q:Nat}{intra:Bool}(ht:t.valid)(hr:intra=false→r.valid)(hp:Pic.valid ⟨W,H,px⟩)(hq:q<16):mbOk (emB t r W H px x y q intra) intra:=by
 unfold emB;cases intra with
 | true=>exact⟨II ht hp x y q hq y,fun _=>rfl⟩
 | false=>exact⟨Qt (GK ht (hr rfl) x y hq) (GL ht hp x y hq y) 2,fun h=>by cases h⟩
theorem Ce {t r:Pic}{W H y q:Nat}{intra:Bool}{px:List Int}(h:Pic.valid ⟨W,H,px⟩):∀ k,Pic.valid ⟨W,H,rowE t r W H y q intra px k⟩
 | 0=>h
 | k+1=>BM (Ce h k) r _ _ _ _ _ 4
theorem DN {t r:Pic}{W H q:Nat}{intra:Bool}{W8:Nat}(hW:side W)(hH:side H):∀ j,Pic.valid ⟨W,H,picE t r W H q intra W8 j⟩
 | 0=>⟨hW,hH,by simp[picE],fun z hz=>by have:=List.eq_of_mem_replicate hz;omega⟩
 | j+1=>Ce (DN hW hH j) W8
theorem Lh {t r:Pic}{W H y q:Nat}{intra:Bool}{px:List Int}{W8:Nat}(ht:t.valid)(hr:intra=false→r.valid)(hp:Pic.valid ⟨W,H,px⟩)(hq:q<16)(hW8:1≤W8∧W8≤4):IN (rowB t r W H y q intra px) intra W8 :=
 ⟨hW8,fun k _=>Jy _ _ ht hr (Ce hp k) hq⟩
theorem Df (W H v:Int)(n:Nat)(w:World)(hx:8≤W∧W≤32∧W%8=0)(hy:8≤H∧H≤32∧H%8=0)(hv:0≤v∧v≤255)(hn:W*H=n)(hn2:n≤1024):
 Calls Tryz.prog 32 #[.int .i64 W,.int .i64 H,.int .i64 v] w fun e w'=>∃ a c,e= .returned (.agg #[.int .i64 W,.int .i64 H,.slice a n c])∧w'.ownsRow w.heap.size 3 1 (.slice a n c) n (List.replicate n (.int .i64 v))∧Ext w w':=by
 have Hn:=Aa hn;have d1:decide (W%8=0)=true:=by simpa using hx.2.2
 have d2:decide (H%8=0)=true:=by simpa using hy.2.2
 have d3:(W%8 != 0)=false:=by simpa using hx.2.2
 have d4:(H%8 != 0)=false:=by simpa using hy.2.2
 clear hn;go_enter Tryz.func32,Tryz.ntmps32
 go_wp2_with fail
 refine(Az _ _ _ _ (by omega) (by omega)).mono ?_
 rintro e w1 ⟨rfl,rfl⟩
 go_wp2_with fail
 refine(Az _ _ _ _ (by omega) (by omega)).mono ?_
 rintro e w1 ⟨rfl,rfl⟩
 go_wp2_with fail
 refine(Az _ _ _ _ (by omega) (by omega)).mono ?_
 rintro e w1 ⟨rfl,rfl⟩
 go_wp2_with fail
 have B1:=(Ext.alloc (w.alloc (.cells #[.int .i64 0,.int .i64 0,.slice none 0 0] 30)) (.cells #[.int .i64 W,.int .i64 H,.slice none 0 0] 30)).blk (Aj w (.cells #[.int .i64 0,.int .i64 0,.slice none 0 0] 30));have B2:=Aj (w.alloc (.cells #[.int .i64 0,.int .i64 0,.slice none 0 0] 30)) (.cells #[.int .i64 W,.int .i64 H,.slice none 0 0] 30);have E2:=(Ext.alloc w (.cells #[.int .i64 0,.int .i64 0,.slice none 0 0] 30)).trans (Ext.alloc _ (.cells #[.int .i64 W,.int .i64 H,.slice none 0 0] 30));simp only[World.size_alloc]at B2;have hs0:((w.alloc (.cells #[.int .i64 0,.int .i64 0,.slice none 0 0] 30)).alloc (.cells #[.int .i64 W,.int .i64 H,.slice none 0 0] 30)).heap.size=w.heap.size+2:=by simp
 have o0:=World.ownsRow_nil ((w.alloc (.cells #[.int .i64 0,.int .i64 0,.slice none 0 0] 30)).alloc (.cells #[.int .i64 W,.int .i64 H,.slice none 0 0] 30)) (w.heap.size+2) 3 1;try simp only[World.size_alloc]
 generalize (w.alloc (.cells #[.int .i64 0,.int .i64 0,.slice none 0 0] 30)).alloc (.cells #[.int .i64 W,.int .i64 H,.slice none 0 0] 30)=w2 at *;obtain⟨B,hB⟩:∃ B,B=w.heap.size:=⟨_,rfl⟩;rw[←hB]at B1 B2 hs0 o0⊢;have hwB:w.heap.size≤B:=by omega
 have HB:=Aa hB;clear hB;have hn:=Hn.out;go_loopw [8] (fun i wr=>∃(k:Nat) (z:Value),k≤n∧i= .int .i64 (k:Nat)∧Ext w wr∧wr.heap[B]?=some (.cells #[.int .i64 0,.int .i64 0,.slice none 0 0] 30 (0,0))∧wr.heap[B+1]?=some (.cells #[.int .i64 W,.int .i64 H,z] 30 (0,0))∧wr.ownsRow (B+2) 3 1 z k (List.replicate k (.int .i64 v))∧B+2≤wr.heap.size) (fun i _=>n-(intOf i).toNat)
 case atStart=>exact⟨0,_,by omega,rfl,E2,B1,B2,o0,by omega⟩
 case round =>
  clear B1 B2 E2 o0 hs0;obtain⟨k,z,hk,rfl,E3,B1,B2,o3,hs3⟩:=hrel;obtain⟨z0,k0,k1,k2,f0,f1,f2⟩:=bx3 B2;obtain⟨y0,j0,j1,j2,e0,e1,e2⟩:=bx3 B1
  by_cases hlt:k<n
  ·have HB1:=Aa B1;have HB2:=Aa B2;clear B1 B2;go_wp2_with (at_builtin;refine CH _ o3 hs3 _ rfl _ _ 22 rfl (.int .i64 0) 8 Rv Cp rfl rfl rfl rfl (by omega) (by omega) ?_;intro v2 w4 own4 gr4 _;refine Hid.out ?_)
   have b4:=Ar HB1.out gr4 (by rcases AU o3 HB1.out (by decide)with h|h;(rw[h];simp);exact h);have c4:=Ar HB2.out gr4 (by rcases AU o3 HB2.out (by decide)with h|h;(rw[h];simp);exact h);have E4:Ext w w4:=Ext.grown E3 gr4 (fun q hq=>by have:=Bt o3 q hq;omega);have hs4:=Nat.le_trans hs3 gr4.size;clear k0 k1 k2 f0 f1 f2 j0 j1 j2 e0 e1 e2 z0 y0 gr4 o3 E3;obtain⟨z0,k0,k1,k2,f0,f1,f2⟩:=bx3 c4;obtain⟨a4,c4',rfl⟩:=Al own4;have HO4:=Aa own4;clear own4;refine Aa ?_;go_wp2;have g5:=Ax w4 (B+1) 2 (.slice a4 (k+1) c4');have c5:=heap_setCell_same w4 (B+1) 2 _ _ (.slice a4 (k+1) c4') c4;go_roundw
   case rel =>
    refine⟨k+1,_,by omega,by go_num,Ext.grown E4 g5 (fun q hq=>by cases hq;omega),Ar b4 g5 (by simp),by simpa using c5,?_,by simpa using hs4⟩;rw[List.replicate_succ'];exact HO4.out.kept g5 (AU HO4.out c4 (by decide))
   case measure=>simp[intOf] <;> omega
  ·obtain rfl:k=n:=by omega
   obtain⟨a3,c3,rfl⟩:=Al o3;have o4:=AH o3 (show w.heap.size≤B+2 by omega);have o5:=o4.kept (grownBy_trans (grownBy_trans (Ax wr B 0 (.int .i64 W)) (Ax _ B 1 (.int .i64 H))) (Ax _ B 2 (.slice a3 k c3))) (AU o4 B1 (by decide));have E6:Ext w (((wr.setCell ⟨B,0,none⟩ (.int .i64 W)).setCell ⟨B,1,none⟩ (.int .i64 H)).setCell ⟨B,2,none⟩ (.slice a3 k c3)):=Ext.grown E3 (grownBy_trans (grownBy_trans (Ax wr B 0 (.int .i64 W)) (Ax _ B 1 (.int .i64 H))) (Ax _ B 2 (.slice a3 k c3))) (fun q hq=>by cases hq;omega);have b6:=Fu (x' := .int .i64 W) (y' := .int .i64 H) (z' := .slice a3 k c3) B1;clear o3 o4 E3;go_wp2;exact bodyPost_ret (v := .agg #[.int .i64 W,.int .i64 H,.slice a3 k c3]) (results_cell_row rfl _ _ B 30 #[.int .i64 W,.int .i64 H,.slice a3 k c3] (0,0) _ rfl b6 RA rfl Dn) rfl ⟨a3,c3,rfl,o5,E6⟩
def ecs (c:Ac)(vo:Value):List Value := .int .u64 (c.low:Int) :: .int .u64 (c.span:Int)::(ch64 c.ch ++ [vo])
theorem Ee (l:List Nat):(ch64 l).length=l.length:=by simp[ch64]
theorem P6 (c:Ac)(vo:Value)(v:Nat):(ecs c vo).set 0 (.int .u64 (v:Int))=ecs ⟨v,c.span,c.out,c.ch⟩ vo:=rfl
theorem P7 (c:Ac)(vo:Value)(v:Nat):(ecs c vo).set 1 (.int .u64 (v:Int))=ecs ⟨c.low,v,c.out,c.ch⟩ vo:=rfl
theorem P5 (c:Ac)(vo:Value)(x v:Nat)(hx:x<c.ch.length):(ecs c vo).set (2+x) (.int .i64 (v:Int))=ecs ⟨c.low,c.span,c.out,c.ch.set x v⟩ vo:=by
 unfold ecs;rw[show 2+x=x+1+1 by omega,List.set_cons_succ,List.set_cons_succ,List.set_append_left _ _ (by rw[Ee];exact hx)];simp[ch64,List.map_set]
theorem Nz (c:Ac)(vo v:Value)(h:c.ch.length=40):(ecs c vo).set 42 v=ecs c v:=by
 unfold ecs;rw[show(42:Nat)=40+1+1 from rfl,List.set_cons_succ,List.set_cons_succ,List.set_append_right _ _ (by rw[Ee];omega),Ee,h];rfl
theorem QJ (c:Ac)(vo:Value){x p:Nat}(h:c.ch[x]?=some p):(ecs c vo)[2+x]?=some (.int .i64 (p:Int)):=by
 have hx:x<c.ch.length:=(List.getElem?_eq_some_iff.1 h).1;unfold ecs;rw[show 2+x=x+1+1 by omega,List.getElem?_cons_succ,List.getElem?_cons_succ,List.getElem?_append_left (by rw[Ee];exact hx)];simp[ch64,h]
theorem LB (c:Ac)(vo:Value)(h:c.ch.length=40):(ecs c vo)[42]?=some vo:=by
 unfold ecs;rw[show(42:Nat)=40+1+1 from rfl,List.getElem?_cons_succ,List.getElem?_cons_succ,List.getElem?_append_right (by rw[Ee];omega),Ee,h];rfl
structure EM (w : World) (H E : Nat) (c : Ac) (vo : Value) : Prop where
 bk:w.heap[E]?=some (.cells (ecs c vo).toArray 132 (0,0))
 ro:w.ownsRow H 5 1 vo c.out.length (u8s c.out)
 hl:c.ch.length=40
 hO:H≤E
 hs:H≤w.heap.size
theorem EM.cell {w:World}{H E:Nat}{c:Ac}{vo:Value}(h:EM w H E c vo){i:Nat}{v:Value}(hv:(ecs c vo)[i]?=some v):w.cell? ⟨E,i,none⟩=some v:=by
 simp only[World.cell?,h.bk]
 simpa using hv
theorem EM.cells {w:World}{H E:Nat}{c:Ac}{vo:Value}(h:EM w H E c vo):E<w.heap.size∧w.cell? ⟨E,0,none⟩=some (.int .u64 (c.low:Int))∧w.cell? ⟨E,1,none⟩=some (.int .u64 (c.span:Int))∧w.cell? ⟨E,42,none⟩=some vo :=
 ⟨lt_of_block h.bk,h.cell rfl,h.cell rfl,h.cell (LB c vo h.hl)⟩
theorem EM.ch {w:World}{H E:Nat}{c:Ac}{vo:Value}(h:EM w H E c vo){x p:Nat}(hp:c.ch[x]?=some p):w.cell? ⟨E,2+x,none⟩=some (.int .i64 (p:Int)):=h.cell (QJ c vo hp)
theorem EM.fz {w:World}{H E:Nat}{c:Ac}{vo:Value}(h:EM w H E c vo)(i:Nat):w.frozen? ⟨E,i,none⟩=false:=by simp[World.frozen?,h.bk]
theorem neE {w:World}{E n e B:Nat}{v:Value}{xs:List Value}{arr:Array Value}(h:w.ownsRow B e 1 v n xs)(hq:w.heap[E]?=some (.cells arr 132 (0,0)))(hne:e≠132):v.ownBlock≠some E:=by
 rcases AU h hq hne with h0|h0
 ·rw[h0];exact fun h=>by cases h
 ·exact h0
theorem EM.set {w:World}{H E:Nat}{c c':Ac}{vo:Value}(h:EM w H E c vo)(i:Nat)(v:Value)(hs:(ecs c vo).set i v=ecs c' vo)(ho:c'.out=c.out)(hc:c'.ch.length=40):EM (w.setCell ⟨E,i,none⟩ v) H E c' vo:=by
 refine⟨?_,?_,hc,h.hO,by simpa using h.hs⟩
 ·have h1:=heap_setCell_same w E i _ _ v h.bk;rw[List.setIfInBounds_toArray,hs]at h1;exact h1
 ·rw[ho];exact ownsRow_setCell_other h.ro (neE h.ro h.bk (by decide)) _
theorem EM.low {w:World}{H E:Nat}{c:Ac}{vo:Value}(h:EM w H E c vo)(v:Nat):EM (w.setCell ⟨E,0,none⟩ (.int .u64 (v:Int))) H E ⟨v,c.span,c.out,c.ch⟩ vo:=h.set 0 _ (P6 c vo v) rfl h.hl
theorem EM.spn {w:World}{H E:Nat}{c:Ac}{vo:Value}(h:EM w H E c vo)(v:Nat):EM (w.setCell ⟨E,1,none⟩ (.int .u64 (v:Int))) H E ⟨c.low,v,c.out,c.ch⟩ vo:=h.set 1 _ (P7 c vo v) rfl h.hl
theorem EM.chs {w:World}{H E:Nat}{c:Ac}{vo:Value}(h:EM w H E c vo)(x v:Nat)(hx:x<40):EM (w.setCell ⟨E,2+x,none⟩ (.int .i64 (v:Int))) H E ⟨c.low,c.span,c.out,c.ch.set x v⟩ vo:=h.set _ _ (P5 c vo x v (by rw[h.hl];exact hx)) rfl (by rw[List.length_set];exact h.hl)
theorem EM.ext {w w':World}{H E:Nat}{c:Ac}{vo:Value}(h:EM w H E c vo)(e:Ext w w'):EM w' H E c vo:=⟨e.blk h.bk,Ae h.ro e,h.hl,h.hO,Nat.le_trans h.hs e.size⟩
theorem EM.mk5 {w:World}{H E L S m:Nat}{out:List Int}{ch:List Nat}{x:Int}{vo:Value}(hb:w.heap[E]?=some (.cells (ecs ⟨L,S,out,ch⟩ vo).toArray 132 (0,0)))
 (ho:w.ownsRow H 5 1 vo (m+1) (u8s out ++ [.int .u8 x])) (hm:out.length=m) (hl:ch.length=40) (hO:H≤E) (hs:H≤w.heap.size):EM w H E ⟨L,S,out ++ [x],ch⟩ vo:=by
 refine⟨hb,?_,hl,hO,hs⟩;have e:(out ++ [x]).length=m+1:=by simp[hm]
 show World.ownsRow _ _ _ _ _ (out ++ [x]).length _;rw[e];unfold u8s at *;rw[List.map_append];exact ho
theorem EM.byte {w:World}{H E g n cap:Nat}{c:Ac}(h:EM w H E c (.slice (some ⟨g,0,none⟩) n cap))(i:Nat)(v:Int):EM (w.setCell ⟨g,i,none⟩ (.int .u8 v)) H E ⟨c.low,c.span,c.out.set i v,c.ch⟩ (.slice (some ⟨g,0,none⟩) n cap):=by
 have h1:=neE h.ro h.bk (by decide);have hn:n=c.out.length:=by rcases h.ro.2 with⟨h0,-⟩|⟨_,_,_,h0,-⟩ <;> cases h0 <;> rfl
 subst hn;refine⟨Ai h.bk (fun e=>h1 (by rw[e];rfl)),?_,h.hl,h.hO,by simpa using h.hs⟩;have o2:=(h.ro.stored i (.int .u8 v)).1;unfold u8s at *;rw[←List.map_set]at o2
 simpa using o2
theorem EM.cellB {w:World}{H E g n cap:Nat}{c:Ac}(h:EM w H E c (.slice (some ⟨g,0,none⟩) n cap)){i:Nat}{v:Int}(hv:c.out[i]?=some v):w.cell? ⟨g,i,none⟩=some (.int .u8 v):=by
 have:=h.ro.cells (g:=g) rfl i (.int .u8 v) (by simp[u8s,hv])
 by_cases h0:i=0 <;> simpa [Addr.add,h0] using this
theorem EM.frozB {w:World}{H E g n cap:Nat}{c:Ac}(h:EM w H E c (.slice (some ⟨g,0,none⟩) n cap))(i:Nat):w.frozen? ⟨g,i,none⟩=false:=by
 have hn:n=c.out.length:=by rcases h.ro.2 with⟨h0,-⟩|⟨_,_,_,h0,-⟩ <;> cases h0 <;> rfl
 subst hn;exact h.ro.frozenAt i
theorem GR (p bit:Nat)(w:World)(h1:1≤p)(h2:p≤4095)(hb:bit≤1):
 Calls Tryz.prog 151 #[.int .i64 p,.int .i64 bit] w fun e w'=>e= .returned (.int .i64 (nch p bit))∧w=w':=by
 have hn:(nch p bit:Int)=if bit=0 then(p:Int)+(4096-p)/16 else(p:Int)-p/16:=by
  unfold nch
  split <;> omega
 have Hn:=Aa hn;clear hn;obtain rfl|rfl:bit=0∨bit=1:=by omega
 ·go_enter Tryz.func151,Tryz.ntmps151
  go_wp2;go_ret
  exact⟨by rw[Hn.out];rfl,rfl⟩
 ·go_enter Tryz.func151,Tryz.ntmps151
  go_wp2;go_ret
  exact⟨by rw[Hn.out];rfl,rfl⟩
theorem JA (w:World)(H E x p S0 bn:Nat)(c:Ac)(vo:Value)(h:EM w H E c vo)(hx:x<40)(hp:c.ch[x]?=some p)(h1:1≤p∧p≤4095)(h2:S0<4294967296)(hb:bn=S0/4096*p):
 Calls Tryz.prog 141 #[.pointer (some ⟨E,2,none⟩),.int .u64 (S0:Nat),.int .i64 (x:Nat)] w fun e w'=>e= .returned (.int .u64 (bn:Nat))∧w=w':=by
 have k0:=h.ch hp;have hq:(S0:Int)/4096*p=(bn:Int):=by rw[hb];simp
 have hq2:S0/4096≤1048575:=by omega
 have hq3:S0/4096*p≤1048575*4095:=Nat.mul_le_mul hq2 h1.2;have hq4:bn<4294967296:=by omega
 have hx2:(x:Int)<40:=by omega
 have hpw:IntKind.u64.wrap (p:Int)=(p:Int):=by rw[IntKind.wrap_u64];omega
 have hbw:IntKind.u64.wrap (bn:Int)=(bn:Int):=by rw[IntKind.wrap_u64];omega
 have Hq:=Aa hq;have Hs:=Aa (show IntKind.u64.wrap ((S0:Int)/4096)=(S0:Int)/4096 by rw[IntKind.wrap_u64];omega);clear hq hb hq2 hq3 h2 h hp;go_enter Tryz.func141,Tryz.ntmps141
 go_wp2;go_ret
 refine⟨?_,rfl⟩
 congr 1
 show Value.int .u64 (IntKind.u64.wrap (IntKind.u64.wrap ((S0:Int)/4096)*p))=Value.int .u64 (bn:Int);rw[Hs.out,Hq.out,hbw]
theorem FF (w:World)(H E x p bit:Nat)(c:Ac)(vo:Value)(h:EM w H E c vo)(hx:x<40)(hp:c.ch[x]?=some p)(h1:1≤p∧p≤4095)(hb:bit≤1):
 Calls Tryz.prog 142 #[.pointer (some ⟨E,2,none⟩),.int .i64 (x:Nat),.int .i64 (bit:Nat)] w fun e w'=>e= .returned (.tuple #[])∧EM w' H E ⟨c.low,c.span,c.out,c.ch.set x (nch p bit)⟩ vo∧Below H w w':=by
 obtain⟨L,S0,out,ch⟩:=c;have hl:=h.hl;simp only at hp hl;have hset:ch.set x p=ch:=by
  obtain⟨hlt,hge⟩:=List.getElem?_eq_some_iff.1 hp;rw[←hge];exact List.set_getElem_self hlt
 have Hset:=Aa hset;have Hp:=Aa hp;have hx2:(x:Int)<40:=by omega
 have hO:=h.hO;clear hset hp;go_enter Tryz.func142,Tryz.ntmps142
 go_upto_region 0 with fail
 refine Am (by kernel_rfl) [(6,0),(7,1),(8,2),(9,3),(10,4),(11,5),(12,6),(13,7),(14,8),(15,9),(16,10)] [[],[],[],[],[2],[2,3,4],[2,3,4,5],[],[2,3,4,5,6,7],[0],[0,1,2,3,4,5,6,7,8,9],[0,1,2,3,4,5,6,7,8,9,10]] (fun i own ys wx=>match i with|0=>own= .pointer (some ⟨E,2,none⟩)|1=>own= .int .i64 (x:Int)|2=>own= .pointer (some ⟨E,2,none⟩)|3=>own= .int .i64 (x:Int)|4=>own= .pointer (some ⟨E,2,none⟩)|5=>own= .pointer (some ⟨E,2+x,none⟩)|6=>own= .int .i64 (p:Int)|7=>own= .int .i64 (bit:Int)|8=>own= .int .i64 (nch p bit:Nat)|9=>own= .pointer (some ⟨E,2,none⟩)|10=>own= .pointer (some ⟨E,2+x,none⟩)|11=>∃ _z:Nat,EM wx H E ⟨L,S0,out,ch.set x (nch p bit)⟩ vo|_=>True) (fun Lx wx=>(∃ q:Nat,EM wx H E ⟨L,S0,out,ch.set x q⟩ vo∧(Lx 11=false→q=p))∧Below H w wx) (by kernel_rfl) (by kernel_rfl) (by kernel_rfl) ?g0_r1 ?gop_r1 ?gend_r1
 case g0_r1=>exact⟨⟨p,by rw[Hset.out];exact h.ext (Ext.drewN _ 1),fun _=>rfl⟩,(Below.refl H w).drew⟩
 case gop_r1 =>
  refine⟨?_,?_,?_,?_,?o4,?o5,?o6,?_,?o8,?o9,?o10,?o11,trivial⟩ <;> (intro Lx xs wx hG hl ha hb hD hI Qo Kx hK hQo;simp only[Ad,Nat.reduceAdd,Nat.reduceEqDiff,↓reduceIte]at hQo⊢)
  case o4 =>
   clear hl ha hb;rw[ddq (hD 2 rfl)]at hQo⊢;clear hD hI;go_wp2;exact hK.out _ _ ⟨rfl,hG,kkp⟩
  case o5 =>
   clear hl ha hb;rw[ddq (hD 3 rfl),ddq (hD 4 rfl)]at hQo⊢;clear hD hI;go_wp2;exact hK.out _ _ ⟨rfl,hG,kkp⟩
  case o6 =>
   have l11:Lx 11=false:=hb 11 rfl;clear hl ha hb;rw[ddq (hD 5 rfl)]at hQo⊢;clear hD hI;obtain⟨q,g1,g2⟩:=hG.1;obtain rfl:=g2 l11;rw[Hset.out]at g1;have k0:=g1.ch Hp.out;go_wp2;exact hK.out _ _ ⟨rfl,hG,kkp⟩
  case o8 =>
   clear hl ha hb;rw[ddq (hD 6 rfl),ddq (hD 7 rfl)]at hQo⊢;clear hD hI;go_wp2_with fail
   refine(GR p bit _ h1.1 h1.2 hb).mono ?_
   rintro e wz ⟨rfl,rfl⟩
   go_wp2;exact hK.out _ _ ⟨rfl,hG,kkp⟩
  case o9 =>
   clear hl ha hb;rw[ddq (hD 0 rfl)]at hQo⊢;clear hD hI;go_wp2;exact hK.out _ _ ⟨rfl,hG,kkp⟩
  case o10 =>
   clear hl ha hb;rw[ddq (hD 1 rfl),ddq (hD 9 rfl)]at hQo⊢;clear hD hI;go_wp2;exact hK.out _ _ ⟨rfl,hG,kkp⟩
  case o11 =>
   clear hl ha hb;rw[ddq (hD 8 rfl),ddq (hD 10 rfl)]at hQo⊢;clear hD hI;obtain⟨q,g1,g2⟩:=hG.1;have f0:=g1.fz (2+x);have k0:=g1.ch (x:=x) (p:=q) (by rw[List.getElem?_set_self (by omega)]);go_wp2;have hst:∀(wy:World),True→Stbn 12 11 [[],[],[],[],[2],[2,3,4],[2,3,4,5],[],[2,3,4,5,6,7],[0],[0,1,2,3,4,5,6,7,8,9],[0,1,2,3,4,5,6,7,8,9,10]] (fun i own ys wx=>match i with|0=>own= .pointer (some ⟨E,2,none⟩)|1=>own= .int .i64 (x:Int)|2=>own= .pointer (some ⟨E,2,none⟩)|3=>own= .int .i64 (x:Int)|4=>own= .pointer (some ⟨E,2,none⟩)|5=>own= .pointer (some ⟨E,2+x,none⟩)|6=>own= .int .i64 (p:Int)|7=>own= .int .i64 (bit:Int)|8=>own= .int .i64 (nch p bit:Nat)|9=>own= .pointer (some ⟨E,2,none⟩)|10=>own= .pointer (some ⟨E,2+x,none⟩)|11=>∃ _z:Nat,EM wx H E ⟨L,S0,out,ch.set x (nch p bit)⟩ vo|_=>True) wx wy:=by
    intro wy hy ii hii hne hc own ys h
    match ii,h with
    | 0,h|1,h|2,h|3,h|4,h|5,h|6,h|7,h|8,h|9,h|10,h=>exact h
    | 11,h=>exact absurd rfl hne
    | _+12,_=>trivial
   have hf:=g1.chs x (nch p bit) hx;simp only[List.set_set]at hf;exact hQo undef _ (hK.out _ _ ⟨⟨0,hf⟩,⟨⟨_,hf,fun h=>by cases h⟩,hG.2.setCell hO _⟩,hst _ trivial⟩)
  all_goals
   clear hl ha hb hD hI;go_wp2;exact hK.out _ _ ⟨rfl,hG,kkp⟩
 intro xs wx hV hG0;obtain⟨Lx,hL,hG⟩:=hG0;have l11:Lx 11=true:=hL 11 (by decide);clear hL;have d11:∃ _z:Nat,EM wx H E ⟨L,S0,out,ch.set x (nch p bit)⟩ vo:=hV 11 (by decide);clear hV;simp only[Ad,Nat.reduceAdd,Nat.reduceEqDiff,↓reduceIte];generalize xs 0=y0,xs 1=y1,xs 2=y2,xs 3=y3,xs 4=y4,xs 5=y5,xs 6=y6,xs 7=y7,xs 8=y8,xs 9=y9,xs 10=y10,xs 11=y11 at *
 replace hG:(∃ q:Nat,EM wx H E ⟨L,S0,out,ch.set x q⟩ vo∧(Lx 11=false→q=p))∧Below H w wx:=hG
 obtain⟨_,c18⟩:=d11;have HC:=Aa c18;have hB:=hG.2;clear c18 hG;go_wp2;refine bodyPost_end (results_none rfl _ _ _) rfl ?_;exact⟨rfl,HC.out,hB⟩
theorem Z8 (a:Nat)(ha:a<9223372036854775808):bits .and .u64 (a:Int) 16777215=((a%16777216:Nat):Int):=by
 show IntKind.u64.wrap ((BitVec.ofInt 64 (a:Int) &&& BitVec.ofInt 64 (16777215:Int)).toNat:Int)=_;rw[BitVec.toNat_and,D8 a (by omega),show(BitVec.ofInt 64 (16777215:Int)).toNat=2^24-1 from rfl,Nat.and_two_pow_sub_one_eq_mod,IntKind.wrap_u64];omega
theorem Dr {w:World}{E:Nat}{c:Ac}{z:Value}(h:w.heap[E]?=some (.cells (ecs c z).toArray 132 (0,0)))(hl:c.ch.length=40):w.cell? ⟨E,0,none⟩=some (.int .u64 (c.low:Int))∧w.cell? ⟨E,1,none⟩=some (.int .u64 (c.span:Int))∧w.cell? ⟨E,42,none⟩=some z:=by
 have hc:∀ i v,(ecs c z)[i]?=some v→w.cell? ⟨E,i,none⟩=some v:=fun i v hv=>by
  simp only[World.cell?,h]
  simpa using hv
 exact⟨hc 0 _ rfl,hc 1 _ rfl,hc 42 _ (LB c z hl)⟩
theorem IV (w:World)(H E:Nat)(c:Ac)(vo:Value)(h:EM w H E c vo)(hn:c.out.length≤1000000)(hl:c.low<4294967296):
 Calls Tryz.prog 111 #[.pointer (some ⟨E,0,none⟩)] w fun e w'=>e= .returned (.tuple #[])∧(∃ vo',EM w' H E ⟨c.low%16777216*256,c.span,c.out ++ [((c.low/16777216:Nat):Int)],c.ch⟩ vo')∧Below H w w':=by
 obtain⟨L,S0,out,ch⟩:=c;simp only at hl hn⊢;have hd:decide ((4294967296:Int)≤(L:Int))=false:=by simp;omega
 have HL:=Aa hl;obtain⟨m,hm⟩:∃ m,out.length=m:=⟨_,rfl⟩;rw[hm]at hn;obtain⟨bl,k0,k1,k2⟩:=h.cells;simp only at k0;have HC:=Aa h;clear hl h;go_enter Tryz.func111,Tryz.ntmps111
 go_upto_region 7 with fail
 clear hd bl k0 k1 k2;have hC:=HC.out;have hL:=HL.out;have hB:=Below.refl H w;obtain⟨wr,hwr⟩:∃ wr,wr=w:=⟨_,rfl⟩;rw[←hwr];rw[show EM w H E ⟨L,S0,out,ch⟩ vo=EM wr H E ⟨L,S0,out,ch⟩ vo by rw[hwr]]at hC;rw[show Below H w w=Below H w wr by rw[hwr]]at hB;clear hwr HC HL;obtain⟨HI,hHI0⟩:∃ HI,HI=wr.heap.size:=⟨_,rfl⟩;have hHI:H≤HI:=by rw[hHI0];exact hC.hs
 have hvl:∀ q,vo.ownBlock=some q→q<HI:=fun q hq=>by rw[hHI0];exact(hC.ro.lt q hq).2
 have hOI:E<HI:=by rw[hHI0];exact lt_of_block hC.bk
 have hHIs:HI≤wr.heap.size:=by omega
 have hch:=hC.hl;have hro:=hC.ro;have hbk:=hC.bk;simp only at hch;have hHO:=hC.hO;rw[show((⟨L,S0,out,ch⟩:Ac).out.length)=m from hm]at hro;have hq8:IntKind.u8.wrap ((L:Int)/16777216)=(L:Int)/16777216:=by rw[IntKind.wrap_u8];omega
 clear hHI0 hC;have hext:Stab (fun wa wb=>Ext wa wb) (fun i own ys wx=>match i with|0=>own= .pointer (some ⟨E,0,none⟩)|1=>own= .pointer (some ⟨E,0,none⟩)|2=>own= .pointer (some ⟨E,0,none⟩)|3=>own= .pointer (some ⟨E,42,none⟩)|4=>own=vo|5=>own= .pointer (some ⟨E,0,none⟩)|6=>own= .pointer (some ⟨E,0,none⟩)|7=>own= .pointer (some ⟨E,0,none⟩)|8=>own= .int .u64 (L:Int)|9=>own= .int .u64 ((L:Int)/16777216)|10=>own= .int .u8 ((L:Int)/16777216)|11=>∃(q:Nat),own= .slice (some ⟨q,0,none⟩) 1 1∧wx.ownsRow HI 5 1 (.slice (some ⟨q,0,none⟩) 1 1) 1 [.int .u8 ((L:Int)/16777216)]|12=>∃(a3:Option Addr) (c3:Nat),own= .slice a3 (m+1) c3∧wx.ownsRow H 5 1 (.slice a3 (m+1) c3) (m+1) (u8s out ++ [.int .u8 ((L:Int)/16777216)])|13=>own= .pointer (some ⟨E,0,none⟩)|14=>own= .pointer (some ⟨E,42,none⟩)|15=>∃ v2,EM wx H E ⟨L,S0,out ++ [(L:Int)/16777216],ch⟩ v2|_=>True):=by
  intro i own ys wa wb e h
  match i,h with
  | 0,h|1,h|2,h|3,h|4,h|5,h|6,h|7,h|8,h|9,h|10,h|13,h|14,h=>exact h
  | 11,h=>obtain⟨q9,h1,h2⟩:=h;exact⟨q9,h1,Ae h2 e⟩
  | 12,h=>obtain⟨a9,c9,h1,h2⟩:=h;exact⟨a9,c9,h1,Ae h2 e⟩
  | 15,h=>obtain⟨v9,h1⟩:=h;exact⟨v9,h1.ext e⟩
  | _+16,_=>trivial
 have Hext:=Aa hext;clear hext;refine Am (by kernel_rfl) [(42,0),(43,1),(44,2),(45,3),(46,4),(47,5),(48,6),(49,7),(50,8),(51,9),(52,10),(53,11),(54,12),(55,13),(56,14)] [[],[],[1],[1,2],[1,2,3],[],[5],[5,6],[5,6,7],[5,6,7,8],[5,6,7,8,9],[5,6,7,8,9,10],[1,2,3,4,5,6,7,8,9,10,11],[0,1,2,3,4,5,6,7,8,9,10,11,12],[0,1,2,3,4,5,6,7,8,9,10,11,12,13],[0,1,2,3,4,5,6,7,8,9,10,11,12,13,14]] (fun i own ys wx=>match i with|0=>own= .pointer (some ⟨E,0,none⟩)|1=>own= .pointer (some ⟨E,0,none⟩)|2=>own= .pointer (some ⟨E,0,none⟩)|3=>own= .pointer (some ⟨E,42,none⟩)|4=>own=vo|5=>own= .pointer (some ⟨E,0,none⟩)|6=>own= .pointer (some ⟨E,0,none⟩)|7=>own= .pointer (some ⟨E,0,none⟩)|8=>own= .int .u64 (L:Int)|9=>own= .int .u64 ((L:Int)/16777216)|10=>own= .int .u8 ((L:Int)/16777216)|11=>∃(q:Nat),own= .slice (some ⟨q,0,none⟩) 1 1∧wx.ownsRow HI 5 1 (.slice (some ⟨q,0,none⟩) 1 1) 1 [.int .u8 ((L:Int)/16777216)]|12=>∃(a3:Option Addr) (c3:Nat),own= .slice a3 (m+1) c3∧wx.ownsRow H 5 1 (.slice a3 (m+1) c3) (m+1) (u8s out ++ [.int .u8 ((L:Int)/16777216)])|13=>own= .pointer (some ⟨E,0,none⟩)|14=>own= .pointer (some ⟨E,42,none⟩)|15=>∃ v2,EM wx H E ⟨L,S0,out ++ [(L:Int)/16777216],ch⟩ v2|_=>True) (fun Lx wx=>(Below H w wx∧HI≤wx.heap.size)∧(∃ z,wx.heap[E]?=some (.cells (ecs ⟨L,S0,out,ch⟩ z).toArray 132 (0,0))∧(Lx 15=false→z=vo))∧wx.ownsRow H 5 1 vo m (u8s out)) (by kernel_rfl) (by kernel_rfl) (by kernel_rfl) ?g0_r1 ?gop_r1 ?gend_r1
 case g0_r1=>exact⟨⟨hB.drew,hHIs⟩,⟨_,hbk,fun _=>rfl⟩,Ae hro (Ext.drewN _ 1)⟩
 case gop_r1 =>
  refine⟨?_,?_,?o2,?o3,?o4,?_,?o6,?o7,?o8,?o9,?o10,?o11,?o12,?o13,?o14,?o15,trivial⟩ <;> (intro Lx xs wx hG hl ha hb hD hI Qo Kx hK hQo;simp only[Ad,Nat.reduceAdd,Nat.reduceEqDiff,↓reduceIte]at hQo⊢)
  case o2 =>
   clear hl ha hb;rw[ddq (hD 1 rfl)]at hQo⊢;clear hD hI;go_wp2;exact hK.out _ _ ⟨rfl,hG,kkp⟩
  case o3 =>
   clear hl ha hb;rw[ddq (hD 2 rfl)]at hQo⊢;clear hD hI;go_wp2;exact hK.out _ _ ⟨rfl,hG,kkp⟩
  case o4 =>
   have l15:Lx 15=false:=hb 15 rfl;clear hl ha hb;rw[ddq (hD 3 rfl)]at hQo⊢;clear hD hI;obtain⟨z,g1,g2⟩:=hG.2.1;obtain rfl:=g2 l15;obtain⟨k0,k1,k2⟩:=Dr g1 hch;go_wp2;exact hK.out _ _ ⟨rfl,hG,kkp⟩
  case o6 =>
   clear hl ha hb;rw[ddq (hD 5 rfl)]at hQo⊢;clear hD hI;go_wp2;exact hK.out _ _ ⟨rfl,hG,kkp⟩
  case o7 =>
   clear hl ha hb;rw[ddq (hD 6 rfl)]at hQo⊢;clear hD hI;go_wp2;exact hK.out _ _ ⟨rfl,hG,kkp⟩
  case o8 =>
   clear hl ha hb;rw[ddq (hD 7 rfl)]at hQo⊢;clear hD hI;obtain⟨z,g1,g2⟩:=hG.2.1;obtain⟨k0,k1,k2⟩:=Dr g1 hch;go_wp2;exact hK.out _ _ ⟨rfl,hG,kkp⟩
  case o9 =>
   clear hl ha hb;rw[ddq (hD 8 rfl)]at hQo⊢;clear hD hI;go_wp2;exact hK.out _ _ ⟨rfl,hG,kkp⟩
  case o10 =>
   clear hl ha hb;rw[ddq (hD 9 rfl)]at hQo⊢;clear hD hI;go_wp2;exact hK.out _ _ ⟨rfl,hG,kkp⟩
  case o11 =>
   clear hl ha hb;rw[ddq (hD 10 rfl)]at hQo⊢;clear hD hI;have e8:=Ext.alloc wx (.cells #[.int .u8 ((L:Int)/16777216)] 5);have o9:=World.ownsRow_lit (base:=HI) (e:=5) (size:=1) wx #[.int .u8 ((L:Int)/16777216)] 1 hG.1.2 (by unfold maxLen;omega) rfl;go_wp2;obtain⟨⟨g0,gs⟩,⟨z,g3,g4⟩,g5⟩:=hG;exact hK.out _ _ ⟨⟨_,rfl,o9⟩,⟨⟨g0.alloc (Nat.le_trans hHI gs) _,Nat.le_trans gs e8.size⟩,⟨z,e8.blk g3,g4⟩,Ae g5 e8⟩,fun i _ _ _ own ys h=>Hext.out i own ys _ _ e8 h⟩
  case o12 =>
   clear hl ha hb;rw[ddq (hD 4 rfl)]at hQo⊢;have d11:∃(q:Nat),(xs 11) = .slice (some ⟨q,0,none⟩) 1 1∧wx.ownsRow HI 5 1 (.slice (some ⟨q,0,none⟩) 1 1) 1 [.int .u8 ((L:Int)/16777216)]:=hD 11 rfl;clear hD hI;generalize xs 11=y11 at *;obtain⟨q11,rfl,o11⟩:=d11;refine Aw _ rfl hG.2.2 (Nat.le_trans hHI hG.1.2) _ _ _ rfl (.int .u8 0) 1 Ry DD rfl (by decide) rfl ⟨q11,0,none⟩ 1 1 _ rfl rfl (o11.cells rfl) (by intro u hu;simp at hu;subst hu;rfl) (by omega) (by omega) ?_;intro v14 w14 own14 gr14 keep14;obtain⟨a14,c14,rfl⟩:=Al own14;have hst:∀(wy:World),(∀ e' own n' xs',wx.ownsRow HI e' 1 own n' xs'→wy.ownsRow HI e' 1 own n' xs')→Stbn 16 12 [[],[],[1],[1,2],[1,2,3],[],[5],[5,6],[5,6,7],[5,6,7,8],[5,6,7,8,9],[5,6,7,8,9,10],[1,2,3,4,5,6,7,8,9,10,11],[0,1,2,3,4,5,6,7,8,9,10,11,12],[0,1,2,3,4,5,6,7,8,9,10,11,12,13],[0,1,2,3,4,5,6,7,8,9,10,11,12,13,14]] (fun i own ys wx=>match i with|0=>own= .pointer (some ⟨E,0,none⟩)|1=>own= .pointer (some ⟨E,0,none⟩)|2=>own= .pointer (some ⟨E,0,none⟩)|3=>own= .pointer (some ⟨E,42,none⟩)|4=>own=vo|5=>own= .pointer (some ⟨E,0,none⟩)|6=>own= .pointer (some ⟨E,0,none⟩)|7=>own= .pointer (some ⟨E,0,none⟩)|8=>own= .int .u64 (L:Int)|9=>own= .int .u64 ((L:Int)/16777216)|10=>own= .int .u8 ((L:Int)/16777216)|11=>∃(q:Nat),own= .slice (some ⟨q,0,none⟩) 1 1∧wx.ownsRow HI 5 1 (.slice (some ⟨q,0,none⟩) 1 1) 1 [.int .u8 ((L:Int)/16777216)]|12=>∃(a3:Option Addr) (c3:Nat),own= .slice a3 (m+1) c3∧wx.ownsRow H 5 1 (.slice a3 (m+1) c3) (m+1) (u8s out ++ [.int .u8 ((L:Int)/16777216)])|13=>own= .pointer (some ⟨E,0,none⟩)|14=>own= .pointer (some ⟨E,42,none⟩)|15=>∃ v2,EM wx H E ⟨L,S0,out ++ [(L:Int)/16777216],ch⟩ v2|_=>True) wx wy:=by
    intro wy hy ii hii hne hc own ys h
    match ii,h with
    | 0,h|1,h|2,h|3,h|4,h|5,h|6,h|7,h|8,h|9,h|10,h=>exact h
    | 11,h=>obtain⟨q9,h1,h2⟩:=h;exact⟨q9,h1,hy _ _ _ _ h2⟩
    | 12,h=>exact absurd rfl hne
    | 13,h|14,h|15,h=>exact absurd hc (by decide)
    | _+16,_=>trivial
   obtain⟨⟨g0,gs⟩,⟨z,g3,g4⟩,g5⟩:=hG;have hb1:=Ar g3 gr14 (neE g5 g3 (by decide));exact hQo _ _ (hK.out _ _ ⟨⟨_,_,rfl,own14⟩,⟨⟨g0.grown gr14 (Nat.le_trans hHI gs) (Bt g5),Nat.le_trans gs gr14.size⟩,⟨z,hb1,g4⟩,keep14 _ _ _ _ (Nat.le_refl _) g5⟩,hst _ (fun _ _ _ _ h=>Jh h gr14 hvl)⟩)
  case o13 =>
   clear hl ha hb;rw[ddq (hD 0 rfl)]at hQo⊢;clear hD hI;go_wp2;exact hK.out _ _ ⟨rfl,hG,kkp⟩
  case o14 =>
   clear hl ha hb;rw[ddq (hD 13 rfl)]at hQo⊢;clear hD hI;go_wp2;exact hK.out _ _ ⟨rfl,hG,kkp⟩
  case o15 =>
   clear hl ha hb;rw[ddq (hD 14 rfl)]at hQo⊢;have d12:∃(a3:Option Addr) (c3:Nat),(xs 12) = .slice a3 (m+1) c3∧wx.ownsRow H 5 1 (.slice a3 (m+1) c3) (m+1) (u8s out ++ [.int .u8 ((L:Int)/16777216)]):=hD 12 rfl;clear hD hI;generalize xs 12=y12 at *;obtain⟨a12,c12,rfl,o12⟩:=d12;obtain⟨z,g1,g2⟩:=hG.2.1;obtain⟨k0,k1,k2⟩:=Dr g1 hch;have f2:wx.frozen? ⟨E,42,none⟩=false:=by simp[World.frozen?,g1]
   go_wp2;have hst:∀(wy:World),(∀ b' own n' xs',wx.ownsRow b' 5 1 own n' xs'→wy.ownsRow b' 5 1 own n' xs')→Stbn 16 15 [[],[],[1],[1,2],[1,2,3],[],[5],[5,6],[5,6,7],[5,6,7,8],[5,6,7,8,9],[5,6,7,8,9,10],[1,2,3,4,5,6,7,8,9,10,11],[0,1,2,3,4,5,6,7,8,9,10,11,12],[0,1,2,3,4,5,6,7,8,9,10,11,12,13],[0,1,2,3,4,5,6,7,8,9,10,11,12,13,14]] (fun i own ys wx=>match i with|0=>own= .pointer (some ⟨E,0,none⟩)|1=>own= .pointer (some ⟨E,0,none⟩)|2=>own= .pointer (some ⟨E,0,none⟩)|3=>own= .pointer (some ⟨E,42,none⟩)|4=>own=vo|5=>own= .pointer (some ⟨E,0,none⟩)|6=>own= .pointer (some ⟨E,0,none⟩)|7=>own= .pointer (some ⟨E,0,none⟩)|8=>own= .int .u64 (L:Int)|9=>own= .int .u64 ((L:Int)/16777216)|10=>own= .int .u8 ((L:Int)/16777216)|11=>∃(q:Nat),own= .slice (some ⟨q,0,none⟩) 1 1∧wx.ownsRow HI 5 1 (.slice (some ⟨q,0,none⟩) 1 1) 1 [.int .u8 ((L:Int)/16777216)]|12=>∃(a3:Option Addr) (c3:Nat),own= .slice a3 (m+1) c3∧wx.ownsRow H 5 1 (.slice a3 (m+1) c3) (m+1) (u8s out ++ [.int .u8 ((L:Int)/16777216)])|13=>own= .pointer (some ⟨E,0,none⟩)|14=>own= .pointer (some ⟨E,42,none⟩)|15=>∃ v2,EM wx H E ⟨L,S0,out ++ [(L:Int)/16777216],ch⟩ v2|_=>True) wx wy:=by
    intro wy hy ii hii hne hc own ys h
    match ii,h with
    | 0,h|1,h|2,h|3,h|4,h|5,h|6,h|7,h|8,h|9,h|10,h|13,h|14,h=>exact h
    | 11,h=>obtain⟨q9,h1,h2⟩:=h;exact⟨q9,h1,hy _ _ _ _ h2⟩
    | 12,h=>obtain⟨a9,c9,h1,h2⟩:=h;exact⟨a9,c9,h1,hy _ _ _ _ h2⟩
    | 15,h=>exact absurd rfl hne
    | _+16,_=>trivial
   obtain⟨⟨g0,gs⟩,-,g5⟩:=hG;have gB:=gsO wx E 42 (.slice a12 (m+1) c12);have hb:=heap_setCell_same wx E 42 _ _ (.slice a12 (m+1) c12) g1;rw[List.setIfInBounds_toArray,Nz _ _ _ hch]at hb;have hk:∀ b' own n' xs',wx.ownsRow b' 5 1 own n' xs'→(wx.setCell ⟨E,42,none⟩ (.slice a12 (m+1) c12)).ownsRow b' 5 1 own n' xs':=fun _ _ _ _ h=>ownsRow_setCell_other h (neE h g1 (by decide)) _
   exact hQo undef _ (hK.out _ _ ⟨⟨_,EM.mk5 hb (hk _ _ _ _ o12) hm hch hHO (by have:=gB.size;omega)⟩,⟨⟨g0.setCell hHO _,Nat.le_trans gs gB.size⟩,⟨_,hb,fun h=>by cases h⟩,hk _ _ _ _ g5⟩,hst _ hk⟩)
  all_goals
   clear hl ha hb hD hI;go_wp2;exact hK.out _ _ ⟨rfl,hG,kkp⟩
 clear Hext;intro xs wx hV hG0;obtain⟨Lx,hL,hG⟩:=hG0;have l15:Lx 15=true:=hL 15 (by decide);clear hL;have d15:∃ v2,EM wx H E ⟨L,S0,out ++ [(L:Int)/16777216],ch⟩ v2:=hV 15 (by decide);clear hV;simp only[Ad,Nat.reduceAdd,Nat.reduceEqDiff,↓reduceIte];generalize xs 0=y0,xs 1=y1,xs 2=y2,xs 3=y3,xs 4=y4,xs 5=y5,xs 6=y6,xs 7=y7,xs 8=y8,xs 9=y9,xs 10=y10,xs 11=y11,xs 12=y12,xs 13=y13,xs 14=y14,xs 15=y15 at *
 replace hG:(Below H w wx∧HI≤wx.heap.size)∧(∃ z,wx.heap[E]?=some (.cells (ecs ⟨L,S0,out,ch⟩ z).toArray 132 (0,0))∧(Lx 15=false→z=vo))∧wx.ownsRow H 5 1 vo m (u8s out):=hG
 obtain⟨v15,c15⟩:=d15;obtain⟨⟨g0,gs⟩,-⟩:=hG;obtain⟨bl,k0,k1,k2⟩:=c15.cells;simp only at k0;have f0:=c15.fz 0;have HC:=Aa c15;have hand:bits BinOp.and IntKind.u64 (L:Int) 16777215=((L%16777216:Nat):Int):=Z8 L (by omega);have hshl:IntKind.u64.wrap ((((L%16777216:Nat):Int))*256)=((L%16777216*256:Nat):Int):=by rw[IntKind.wrap_u64];omega
 have HL:=Aa hL;have Hm:=Aa hm;obtain⟨M,hM⟩:∃ M,M=L%16777216:=⟨_,rfl⟩;rw[←hM]at hand hshl;have HM:=Aa hM;clear c15 hvl hM hm hbk hro hL;go_wp2;refine bodyPost_end (results_none rfl _ _ _) rfl ?_;have hf:=HC.out.low (M*256);rw[HM.out]at hf;refine⟨rfl,⟨v15,?_⟩,g0.setCell hHO _⟩;first|exact hf|(rw[show(((L/16777216:Nat)):Int)=(L:Int)/16777216 by omega];exact hf)|(simpa [HM.out] using hf)
theorem Iw (w:World)(H E s:Nat)(c:Ac)(vo:Value)(h:EM w H E c vo)(hi:c.inv s)(hs:0<s)(hn:c.out.length≤1000000)(hl:4294967296≤c.low):
 Calls Tryz.prog 111 #[.pointer (some ⟨E,0,none⟩)] w fun e w'=>e= .returned (.tuple #[])∧(∃ vo',EM w' H E c.shift vo')∧Below H w w':=by
 have hsplit:=Kv (Ac.carry hi hs hl);have hlo:=Ac.lo_lt hi;have hbyt:=hi.1;clear hi hs;obtain⟨L0,S0,out0,ch⟩:=c;simp only at hl hn hsplit hbyt;unfold Ac.lo at hlo;simp only at hlo;rw[if_pos hl]at hlo;obtain⟨r,x,mm,hout,hx⟩:=hsplit;subst hout;have hx2:0≤x∧x≤255:=hbyt x (by simp);have hx3:0≤x+1∧x+1≤255:=by omega
 obtain⟨L,hL0⟩:∃ q,q=L0-4294967296:=⟨_,rfl⟩;rw[←hL0]at hlo;have hshift:(⟨L0,S0,r++x::List.replicate mm 255,ch⟩:Ac).shift=⟨L%16777216*256,S0,(r++(x+1)::List.replicate mm 0) ++ [((L/16777216:Nat):Int)],ch⟩:=by
  unfold Ac.shift Ac.car Ac.lo;simp only;rw[if_pos hl,if_pos hl,Ph r x mm hx,←hL0]
 rw[hshift];rw[show r++x::List.replicate mm 255=outL r x mm 0 by simp[outL]]at h hn;obtain⟨g,cap,rfl,hc1,hc2,hgH⟩:∃ g cap,vo= .slice (some ⟨g,0,none⟩) (outL r x mm 0).length cap∧(outL r x mm 0).length≤cap∧cap≤maxLen∧H≤g:=by
  have hpos:0<(outL r x mm 0).length:=by rw[En (by omega)];omega
  rcases h.ro.2 with⟨rfl,h0⟩|⟨g,cap,cur,rfl,p0,-,p2,p3,-⟩
  ·exact absurd h0 (by show ¬ ((outL r x mm 0).length=0);omega)
  ·exact⟨g,cap,rfl,p2,p3,p0⟩
 rw[En (by omega)]at hc1 hn h;obtain⟨N,hN⟩:∃ N,N=r.length+1+mm:=⟨_,rfl⟩;rw[←hN]at hc1 hn h;have HN:=Aa hN;have hrN:r.length+mm<N:=by omega
 clear hN;have hd:decide ((4294967296:Int)≤(L0:Int))=true:=by simp;omega
 obtain⟨bl,k0,k1,k2⟩:=h.cells;simp only at k0;have f0:=h.fz 0;have HC:=Aa h;have HL:=Aa hlo;have HL0:=Aa (show(L0:Int)-4294967296=(L:Int) by omega);have hL1:(L0:Int)<8589934592:=by omega
 have hL2:(4294967296:Int)≤L0:=by omega
 have hwr:IntKind.u64.wrap ((L0:Int)-4294967296)=(L0:Int)-4294967296:=by rw[IntKind.wrap_u64];omega
 clear hshift hbyt hl h hlo hL0;go_enter Tryz.func111,Tryz.ntmps111
 go_upto_region 2 with fail
 have hC:=HC.out.low L;simp only at hC;rw[←HL0.out]at hC;have hB:=(Below.refl H w).setCell (p:=⟨E,0,none⟩) HC.out.hO (.int .u64 ((L0:Int)-4294967296));clear hd bl k0 k1 k2 f0 HC hL1 hL2 hwr HL0 hc2;generalize World.setCell _ _ _=w1 at *;obtain⟨bl,k0,k1,k2⟩:=hC.cells;have hC1:=Aa hC;clear hC;go_wp2_with fail
 go_loopw [2] (fun kx wr=>∃ i,i≤mm∧kx= .int .i64 ((r.length+(mm-i):Nat):Int)∧Below H w wr∧EM wr H E ⟨L,S0,outL r x mm i,ch⟩ (.slice (some ⟨g,0,none⟩) N cap)) (fun kx _=>(intOf kx).toNat)
 case atStart=>exact⟨0,by omega,by have:=HN.out;congr 1;omega,hB,hC1.out⟩
 case round =>
  clear hB hC1 bl k0 k1 k2;obtain⟨i,hi,rfl,hB,hC⟩:=hrel;obtain⟨K,hK0⟩:∃ K,K=r.length+(mm-i):=⟨_,rfl⟩;rw[←hK0];have hKN:(K:Int)<N:=by omega
  have hKm:i<mm→1≤K:=by omega
  have HK:=Aa hK0;have Hrn:=Aa hrN;clear hK0 hrN;obtain⟨bl,k0,k1,k2⟩:=hC.cells
  by_cases hlt:i<mm
  ·have hk:=hC.cellB (Ma hlt);rw[←HK.out]at hk;have hf:=hC.frozB K;have hC5:=hC.byte K 0;simp only at hC5;rw[show(outL r x mm i).set K 0=outL r x mm (i+1) by rw[HK.out];exact JN hlt]at hC5;have hB5:=hB.setCell (p:=⟨g,K,none⟩) hgH (.int .u8 0);have HC5:=Aa (⟨hC5,hB5⟩:_∧_);have hK1:=hKm hlt;have Hlt:=Aa hlt;have hKb:K<(outL r x mm (i+1)).length:=by rw[En (by omega)];have:=HK.out;omega
   have hz0:(outL r x mm (i+1))[K]?=some 0:=by
    rw[←JN hlt,←HK.out];exact List.getElem?_set_self (by have h1:=En (r:=r) (x:=x) (m:=mm) (i:=i) (by omega);have:=HK.out;omega)
   have Hz0:=Aa hz0;have hw0:IntKind.u8.wrap (255+1)=0:=rfl;have hw1:IntKind.u8.wrap 256=0:=rfl;clear hC hC5 hB5 hKm hlt hKb hz0;go_upto_region 6 with fail
   obtain⟨hC5,hB5⟩:=HC5.out;clear HC5 k0 k1 k2 hk hf bl hw0 hw1 hB;generalize World.setCell _ _ _=w5 at *;obtain⟨bl,k0,k1,k2⟩:=hC5.cells;have hk:=hC5.cellB Hz0.out;have HC6:=Aa (⟨hC5,hB5⟩:_∧_);clear hC5 hB5;go_wp2;go_roundw
   case rel=>exact⟨i+1,by have:=Hlt.out;omega,by have:=HK.out;have:=Hlt.out;congr 1;omega,HC6.out.2,HC6.out.1⟩
   case measure=>simp[intOf];omega
  ·obtain rfl:i=mm:=by omega
   have hKr:K=r.length:=by have:=HK.out;omega
   have htop:(outL r x i i)[K]?=some x:=by rw[hKr];exact Mb
   have hk:=hC.cellB htop;have hf:=hC.frozB K;have hts:(r++x::List.replicate i (0:Int)).set K (x+1)=r++(x+1)::List.replicate i 0:=by rw[hKr,List.set_append_right _ _ (Nat.le_refl _)];simp
   have hty:(r++(x+1)::List.replicate i (0:Int))[K]?=some (x+1):=by rw[hKr,List.getElem?_append_right (Nat.le_refl _)];simp
   have hC6:=hC.byte K (x+1);simp only at hC6;rw[show outL r x i i=r++x::List.replicate i 0 by simp[outL],hts]at hC6;have hB6:=hB.setCell (p:=⟨g,K,none⟩) hgH (.int .u8 (x+1));have HC6:=Aa (⟨hC6,hB6⟩:_∧_);have Hty:=Aa hty;have hw8:IntKind.u8.wrap (x+1)=x+1:=by rw[IntKind.wrap_u8];omega
   have Hkr:=Aa hKr;clear hC hC6 hB6 htop hty hts hKr hKm;go_upto_region 6 with fail
   obtain⟨hC6,hB6⟩:=HC6.out;clear HC6 k0 k1 k2 hk hf bl hw8 hB;generalize World.setCell _ _ _=w5 at *;obtain⟨bl,k0,k1,k2⟩:=hC6.cells;have hk:=hC6.cellB Hty.out;have hno:decide (x+1=0)=false:=by simp;omega
   have hno2:((x+1:Int) == 0)=false:=by simp;omega
   have HC7:=Aa hC6;clear hC6;go_upto_region 7 with fail
   clear k0 k1 k2 hk bl hno hno2;have hC:=HC7.out;have hB:=hB6;clear hB6 HC7;obtain⟨mm,hmm⟩:∃ q,q=i:=⟨_,rfl⟩;rw[←hmm]at hC HN;obtain⟨out,hout⟩:∃ q,q=r++(x+1)::List.replicate mm 0:=⟨_,rfl⟩;rw[←hout]at hC;have Hout:=Aa hout;have hm:out.length=N:=by have:=HN.out;rw[hout];simp;omega
   obtain⟨m,hmN⟩:∃ m,m=N:=⟨_,rfl⟩;rw[←hmN]at hm hn;have hL:=HL.out;clear hout hmN;obtain⟨vo,hvo⟩:∃ v,v=Value.slice (some ⟨g,0,none⟩) N cap:=⟨_,rfl⟩;rw[←hvo]at hC;clear hvo;generalize w5=wr at *;generalize (x+1 != 0)=bb;obtain⟨HI,hHI0⟩:∃ HI,HI=wr.heap.size:=⟨_,rfl⟩;have hHI:H≤HI:=by rw[hHI0];exact hC.hs
   have hvl:∀ q,vo.ownBlock=some q→q<HI:=fun q hq=>by rw[hHI0];exact(hC.ro.lt q hq).2
   have hOI:E<HI:=by rw[hHI0];exact lt_of_block hC.bk
   have hHIs:HI≤wr.heap.size:=by omega
   have hch:=hC.hl;have hro:=hC.ro;have hbk:=hC.bk;simp only at hch;have hHO:=hC.hO;rw[show((⟨L,S0,out,ch⟩:Ac).out.length)=m from hm]at hro;have hq8:IntKind.u8.wrap ((L:Int)/16777216)=(L:Int)/16777216:=by rw[IntKind.wrap_u8];omega
   clear hHI0 hC;have hext:Stab (fun wa wb=>Ext wa wb) (fun i own ys wx=>match i with|0=>own= .pointer (some ⟨E,0,none⟩)|1=>own= .pointer (some ⟨E,0,none⟩)|2=>own= .pointer (some ⟨E,0,none⟩)|3=>own= .pointer (some ⟨E,42,none⟩)|4=>own=vo|5=>own= .pointer (some ⟨E,0,none⟩)|6=>own= .pointer (some ⟨E,0,none⟩)|7=>own= .pointer (some ⟨E,0,none⟩)|8=>own= .int .u64 (L:Int)|9=>own= .int .u64 ((L:Int)/16777216)|10=>own= .int .u8 ((L:Int)/16777216)|11=>∃(q:Nat),own= .slice (some ⟨q,0,none⟩) 1 1∧wx.ownsRow HI 5 1 (.slice (some ⟨q,0,none⟩) 1 1) 1 [.int .u8 ((L:Int)/16777216)]|12=>∃(a3:Option Addr) (c3:Nat),own= .slice a3 (m+1) c3∧wx.ownsRow H 5 1 (.slice a3 (m+1) c3) (m+1) (u8s out ++ [.int .u8 ((L:Int)/16777216)])|13=>own= .pointer (some ⟨E,0,none⟩)|14=>own= .pointer (some ⟨E,42,none⟩)|15=>∃ v2,EM wx H E ⟨L,S0,out ++ [(L:Int)/16777216],ch⟩ v2|_=>True):=by
    intro i own ys wa wb e h
    match i,h with
    | 0,h|1,h|2,h|3,h|4,h|5,h|6,h|7,h|8,h|9,h|10,h|13,h|14,h=>exact h
    | 11,h=>obtain⟨q9,h1,h2⟩:=h;exact⟨q9,h1,Ae h2 e⟩
    | 12,h=>obtain⟨a9,c9,h1,h2⟩:=h;exact⟨a9,c9,h1,Ae h2 e⟩
    | 15,h=>obtain⟨v9,h1⟩:=h;exact⟨v9,h1.ext e⟩
    | _+16,_=>trivial
   have Hext:=Aa hext;clear hext;refine Am (by kernel_rfl) [(42,0),(43,1),(44,2),(45,3),(46,4),(47,5),(48,6),(49,7),(50,8),(51,9),(52,10),(53,11),(54,12),(55,13),(56,14)] [[],[],[1],[1,2],[1,2,3],[],[5],[5,6],[5,6,7],[5,6,7,8],[5,6,7,8,9],[5,6,7,8,9,10],[1,2,3,4,5,6,7,8,9,10,11],[0,1,2,3,4,5,6,7,8,9,10,11,12],[0,1,2,3,4,5,6,7,8,9,10,11,12,13],[0,1,2,3,4,5,6,7,8,9,10,11,12,13,14]] (fun i own ys wx=>match i with|0=>own= .pointer (some ⟨E,0,none⟩)|1=>own= .pointer (some ⟨E,0,none⟩)|2=>own= .pointer (some ⟨E,0,none⟩)|3=>own= .pointer (some ⟨E,42,none⟩)|4=>own=vo|5=>own= .pointer (some ⟨E,0,none⟩)|6=>own= .pointer (some ⟨E,0,none⟩)|7=>own= .pointer (some ⟨E,0,none⟩)|8=>own= .int .u64 (L:Int)|9=>own= .int .u64 ((L:Int)/16777216)|10=>own= .int .u8 ((L:Int)/16777216)|11=>∃(q:Nat),own= .slice (some ⟨q,0,none⟩) 1 1∧wx.ownsRow HI 5 1 (.slice (some ⟨q,0,none⟩) 1 1) 1 [.int .u8 ((L:Int)/16777216)]|12=>∃(a3:Option Addr) (c3:Nat),own= .slice a3 (m+1) c3∧wx.ownsRow H 5 1 (.slice a3 (m+1) c3) (m+1) (u8s out ++ [.int .u8 ((L:Int)/16777216)])|13=>own= .pointer (some ⟨E,0,none⟩)|14=>own= .pointer (some ⟨E,42,none⟩)|15=>∃ v2,EM wx H E ⟨L,S0,out ++ [(L:Int)/16777216],ch⟩ v2|_=>True) (fun Lx wx=>(Below H w wx∧HI≤wx.heap.size)∧(∃ z,wx.heap[E]?=some (.cells (ecs ⟨L,S0,out,ch⟩ z).toArray 132 (0,0))∧(Lx 15=false→z=vo))∧wx.ownsRow H 5 1 vo m (u8s out)) (by kernel_rfl) (by kernel_rfl) (by kernel_rfl) ?g0_r2 ?gop_r2 ?gend_r2
   case g0_r2=>exact⟨⟨hB.drew,hHIs⟩,⟨_,hbk,fun _=>rfl⟩,Ae hro (Ext.drewN _ 1)⟩
   case gop_r2 =>
    refine⟨?_,?_,?o2,?o3,?o4,?_,?o6,?o7,?o8,?o9,?o10,?o11,?o12,?o13,?o14,?o15,trivial⟩ <;> (intro Lx xs wx hG hl ha hb hD hI Qo Kx hK hQo;simp only[Ad,Nat.reduceAdd,Nat.reduceEqDiff,↓reduceIte]at hQo⊢)
    case o2 =>
     clear hl ha hb;rw[ddq (hD 1 rfl)]at hQo⊢;clear hD hI;go_wp2;exact hK.out _ _ ⟨rfl,hG,kkp⟩
    case o3 =>
     clear hl ha hb;rw[ddq (hD 2 rfl)]at hQo⊢;clear hD hI;go_wp2;exact hK.out _ _ ⟨rfl,hG,kkp⟩
    case o4 =>
     have l15:Lx 15=false:=hb 15 rfl;clear hl ha hb;rw[ddq (hD 3 rfl)]at hQo⊢;clear hD hI;obtain⟨z,g1,g2⟩:=hG.2.1;obtain rfl:=g2 l15;obtain⟨k0,k1,k2⟩:=Dr g1 hch;go_wp2;exact hK.out _ _ ⟨rfl,hG,kkp⟩
    case o6 =>
     clear hl ha hb;rw[ddq (hD 5 rfl)]at hQo⊢;clear hD hI;go_wp2;exact hK.out _ _ ⟨rfl,hG,kkp⟩
    case o7 =>
     clear hl ha hb;rw[ddq (hD 6 rfl)]at hQo⊢;clear hD hI;go_wp2;exact hK.out _ _ ⟨rfl,hG,kkp⟩
    case o8 =>
     clear hl ha hb;rw[ddq (hD 7 rfl)]at hQo⊢;clear hD hI;obtain⟨z,g1,g2⟩:=hG.2.1;obtain⟨k0,k1,k2⟩:=Dr g1 hch;go_wp2;exact hK.out _ _ ⟨rfl,hG,kkp⟩
    case o9 =>
     clear hl ha hb;rw[ddq (hD 8 rfl)]at hQo⊢;clear hD hI;go_wp2;exact hK.out _ _ ⟨rfl,hG,kkp⟩
    case o10 =>
     clear hl ha hb;rw[ddq (hD 9 rfl)]at hQo⊢;clear hD hI;go_wp2;exact hK.out _ _ ⟨rfl,hG,kkp⟩
    case o11 =>
     clear hl ha hb;rw[ddq (hD 10 rfl)]at hQo⊢;clear hD hI;have e8:=Ext.alloc wx (.cells #[.int .u8 ((L:Int)/16777216)] 5);have o9:=World.ownsRow_lit (base:=HI) (e:=5) (size:=1) wx #[.int .u8 ((L:Int)/16777216)] 1 hG.1.2 (by unfold maxLen;omega) rfl;go_wp2;obtain⟨⟨g0,gs⟩,⟨z,g3,g4⟩,g5⟩:=hG;exact hK.out _ _ ⟨⟨_,rfl,o9⟩,⟨⟨g0.alloc (Nat.le_trans hHI gs) _,Nat.le_trans gs e8.size⟩,⟨z,e8.blk g3,g4⟩,Ae g5 e8⟩,fun i _ _ _ own ys h=>Hext.out i own ys _ _ e8 h⟩
    case o12 =>
     clear hl ha hb;rw[ddq (hD 4 rfl)]at hQo⊢;have d11:∃(q:Nat),(xs 11) = .slice (some ⟨q,0,none⟩) 1 1∧wx.ownsRow HI 5 1 (.slice (some ⟨q,0,none⟩) 1 1) 1 [.int .u8 ((L:Int)/16777216)]:=hD 11 rfl;clear hD hI;generalize xs 11=y11 at *;obtain⟨q11,rfl,o11⟩:=d11;refine Aw _ rfl hG.2.2 (Nat.le_trans hHI hG.1.2) _ _ _ rfl (.int .u8 0) 1 Ry DD rfl (by decide) rfl ⟨q11,0,none⟩ 1 1 _ rfl rfl (o11.cells rfl) (by intro u hu;simp at hu;subst hu;rfl) (by omega) (by omega) ?_;intro v14 w14 own14 gr14 keep14;obtain⟨a14,c14,rfl⟩:=Al own14;have hst:∀(wy:World),(∀ e' own n' xs',wx.ownsRow HI e' 1 own n' xs'→wy.ownsRow HI e' 1 own n' xs')→Stbn 16 12 [[],[],[1],[1,2],[1,2,3],[],[5],[5,6],[5,6,7],[5,6,7,8],[5,6,7,8,9],[5,6,7,8,9,10],[1,2,3,4,5,6,7,8,9,10,11],[0,1,2,3,4,5,6,7,8,9,10,11,12],[0,1,2,3,4,5,6,7,8,9,10,11,12,13],[0,1,2,3,4,5,6,7,8,9,10,11,12,13,14]] (fun i own ys wx=>match i with|0=>own= .pointer (some ⟨E,0,none⟩)|1=>own= .pointer (some ⟨E,0,none⟩)|2=>own= .pointer (some ⟨E,0,none⟩)|3=>own= .pointer (some ⟨E,42,none⟩)|4=>own=vo|5=>own= .pointer (some ⟨E,0,none⟩)|6=>own= .pointer (some ⟨E,0,none⟩)|7=>own= .pointer (some ⟨E,0,none⟩)|8=>own= .int .u64 (L:Int)|9=>own= .int .u64 ((L:Int)/16777216)|10=>own= .int .u8 ((L:Int)/16777216)|11=>∃(q:Nat),own= .slice (some ⟨q,0,none⟩) 1 1∧wx.ownsRow HI 5 1 (.slice (some ⟨q,0,none⟩) 1 1) 1 [.int .u8 ((L:Int)/16777216)]|12=>∃(a3:Option Addr) (c3:Nat),own= .slice a3 (m+1) c3∧wx.ownsRow H 5 1 (.slice a3 (m+1) c3) (m+1) (u8s out ++ [.int .u8 ((L:Int)/16777216)])|13=>own= .pointer (some ⟨E,0,none⟩)|14=>own= .pointer (some ⟨E,42,none⟩)|15=>∃ v2,EM wx H E ⟨L,S0,out ++ [(L:Int)/16777216],ch⟩ v2|_=>True) wx wy:=by
      intro wy hy ii hii hne hc own ys h
      match ii,h with
      | 0,h|1,h|2,h|3,h|4,h|5,h|6,h|7,h|8,h|9,h|10,h=>exact h
      | 11,h=>obtain⟨q9,h1,h2⟩:=h;exact⟨q9,h1,hy _ _ _ _ h2⟩
      | 12,h=>exact absurd rfl hne
      | 13,h|14,h|15,h=>exact absurd hc (by decide)
      | _+16,_=>trivial
     obtain⟨⟨g0,gs⟩,⟨z,g3,g4⟩,g5⟩:=hG;have hb1:=Ar g3 gr14 (neE g5 g3 (by decide));exact hQo _ _ (hK.out _ _ ⟨⟨_,_,rfl,own14⟩,⟨⟨g0.grown gr14 (Nat.le_trans hHI gs) (Bt g5),Nat.le_trans gs gr14.size⟩,⟨z,hb1,g4⟩,keep14 _ _ _ _ (Nat.le_refl _) g5⟩,hst _ (fun _ _ _ _ h=>Jh h gr14 hvl)⟩)
    case o13 =>
     clear hl ha hb;rw[ddq (hD 0 rfl)]at hQo⊢;clear hD hI;go_wp2;exact hK.out _ _ ⟨rfl,hG,kkp⟩
    case o14 =>
     clear hl ha hb;rw[ddq (hD 13 rfl)]at hQo⊢;clear hD hI;go_wp2;exact hK.out _ _ ⟨rfl,hG,kkp⟩
    case o15 =>
     clear hl ha hb;rw[ddq (hD 14 rfl)]at hQo⊢;have d12:∃(a3:Option Addr) (c3:Nat),(xs 12) = .slice a3 (m+1) c3∧wx.ownsRow H 5 1 (.slice a3 (m+1) c3) (m+1) (u8s out ++ [.int .u8 ((L:Int)/16777216)]):=hD 12 rfl;clear hD hI;generalize xs 12=y12 at *;obtain⟨a12,c12,rfl,o12⟩:=d12;obtain⟨z,g1,g2⟩:=hG.2.1;obtain⟨k0,k1,k2⟩:=Dr g1 hch;have f2:wx.frozen? ⟨E,42,none⟩=false:=by simp[World.frozen?,g1]
     go_wp2;have hst:∀(wy:World),(∀ b' own n' xs',wx.ownsRow b' 5 1 own n' xs'→wy.ownsRow b' 5 1 own n' xs')→Stbn 16 15 [[],[],[1],[1,2],[1,2,3],[],[5],[5,6],[5,6,7],[5,6,7,8],[5,6,7,8,9],[5,6,7,8,9,10],[1,2,3,4,5,6,7,8,9,10,11],[0,1,2,3,4,5,6,7,8,9,10,11,12],[0,1,2,3,4,5,6,7,8,9,10,11,12,13],[0,1,2,3,4,5,6,7,8,9,10,11,12,13,14]] (fun i own ys wx=>match i with|0=>own= .pointer (some ⟨E,0,none⟩)|1=>own= .pointer (some ⟨E,0,none⟩)|2=>own= .pointer (some ⟨E,0,none⟩)|3=>own= .pointer (some ⟨E,42,none⟩)|4=>own=vo|5=>own= .pointer (some ⟨E,0,none⟩)|6=>own= .pointer (some ⟨E,0,none⟩)|7=>own= .pointer (some ⟨E,0,none⟩)|8=>own= .int .u64 (L:Int)|9=>own= .int .u64 ((L:Int)/16777216)|10=>own= .int .u8 ((L:Int)/16777216)|11=>∃(q:Nat),own= .slice (some ⟨q,0,none⟩) 1 1∧wx.ownsRow HI 5 1 (.slice (some ⟨q,0,none⟩) 1 1) 1 [.int .u8 ((L:Int)/16777216)]|12=>∃(a3:Option Addr) (c3:Nat),own= .slice a3 (m+1) c3∧wx.ownsRow H 5 1 (.slice a3 (m+1) c3) (m+1) (u8s out ++ [.int .u8 ((L:Int)/16777216)])|13=>own= .pointer (some ⟨E,0,none⟩)|14=>own= .pointer (some ⟨E,42,none⟩)|15=>∃ v2,EM wx H E ⟨L,S0,out ++ [(L:Int)/16777216],ch⟩ v2|_=>True) wx wy:=by
      intro wy hy ii hii hne hc own ys h
      match ii,h with
      | 0,h|1,h|2,h|3,h|4,h|5,h|6,h|7,h|8,h|9,h|10,h|13,h|14,h=>exact h
      | 11,h=>obtain⟨q9,h1,h2⟩:=h;exact⟨q9,h1,hy _ _ _ _ h2⟩
      | 12,h=>obtain⟨a9,c9,h1,h2⟩:=h;exact⟨a9,c9,h1,hy _ _ _ _ h2⟩
      | 15,h=>exact absurd rfl hne
      | _+16,_=>trivial
     obtain⟨⟨g0,gs⟩,-,g5⟩:=hG;have gB:=gsO wx E 42 (.slice a12 (m+1) c12);have hb:=heap_setCell_same wx E 42 _ _ (.slice a12 (m+1) c12) g1;rw[List.setIfInBounds_toArray,Nz _ _ _ hch]at hb;have hk:∀ b' own n' xs',wx.ownsRow b' 5 1 own n' xs'→(wx.setCell ⟨E,42,none⟩ (.slice a12 (m+1) c12)).ownsRow b' 5 1 own n' xs':=fun _ _ _ _ h=>ownsRow_setCell_other h (neE h g1 (by decide)) _
     exact hQo undef _ (hK.out _ _ ⟨⟨_,EM.mk5 hb (hk _ _ _ _ o12) hm hch hHO (by have:=gB.size;omega)⟩,⟨⟨g0.setCell hHO _,Nat.le_trans gs gB.size⟩,⟨_,hb,fun h=>by cases h⟩,hk _ _ _ _ g5⟩,hst _ hk⟩)
    all_goals
     clear hl ha hb hD hI;go_wp2;exact hK.out _ _ ⟨rfl,hG,kkp⟩
   clear Hext;intro xs wx hV hG0;obtain⟨Lx,hL,hG⟩:=hG0;have l15:Lx 15=true:=hL 15 (by decide);clear hL;have d15:∃ v2,EM wx H E ⟨L,S0,out ++ [(L:Int)/16777216],ch⟩ v2:=hV 15 (by decide);clear hV;simp only[Ad,Nat.reduceAdd,Nat.reduceEqDiff,↓reduceIte];generalize xs 0=y0,xs 1=y1,xs 2=y2,xs 3=y3,xs 4=y4,xs 5=y5,xs 6=y6,xs 7=y7,xs 8=y8,xs 9=y9,xs 10=y10,xs 11=y11,xs 12=y12,xs 13=y13,xs 14=y14,xs 15=y15 at *
   replace hG:(Below H w wx∧HI≤wx.heap.size)∧(∃ z,wx.heap[E]?=some (.cells (ecs ⟨L,S0,out,ch⟩ z).toArray 132 (0,0))∧(Lx 15=false→z=vo))∧wx.ownsRow H 5 1 vo m (u8s out):=hG
   obtain⟨v15,c15⟩:=d15;obtain⟨⟨g0,gs⟩,-⟩:=hG;obtain⟨bl,k0,k1,k2⟩:=c15.cells;simp only at k0;have f0:=c15.fz 0;have HC:=Aa c15;have hand:bits BinOp.and IntKind.u64 (L:Int) 16777215=((L%16777216:Nat):Int):=Z8 L (by omega);have hshl:IntKind.u64.wrap ((((L%16777216:Nat):Int))*256)=((L%16777216*256:Nat):Int):=by rw[IntKind.wrap_u64];omega
   have HL:=Aa hL;have Hm:=Aa hm;obtain⟨M,hM⟩:∃ M,M=L%16777216:=⟨_,rfl⟩;rw[←hM]at hand hshl;have HM:=Aa hM;clear c15 hvl hM hm hbk hro hL;go_wp2;refine bodyPost_end (results_none rfl _ _ _) rfl ?_;have hf:=HC.out.low (M*256);rw[HM.out]at hf;refine⟨rfl,⟨v15,?_⟩,g0.setCell hHO _⟩;first|exact hf|(rw[show(((L/16777216:Nat)):Int)=(L:Int)/16777216 by omega];exact hf)|(have hw:((L%16777216*256:Nat):Int)=(M:Int)*256:=(by have:=HM.out;omega);rw[hw,Hout.out,hmm]at hf;simp only[List.append_assoc,List.cons_append]at hf;exact hf)
theorem Cz (w:World)(H E s:Nat)(c:Ac)(vo:Value)(h:EM w H E c vo)(hi:c.inv s)(hs:0<s)(hn:c.out.length≤1000000):
 Calls Tryz.prog 111 #[.pointer (some ⟨E,0,none⟩)] w fun e w'=>e= .returned (.tuple #[])∧(∃ vo',EM w' H E c.shift vo')∧Below H w w':=by
 by_cases hl:4294967296≤c.low
 ·exact Iw w H E s c vo h hi hs hn hl
 ·refine(IV w H E c vo h hn (by omega)).mono ?_
  rintro e w' ⟨rfl,⟨v,hC⟩,hB⟩
  refine⟨rfl,⟨v,?_⟩,hB⟩;have:c.shift=⟨c.low%16777216*256,c.span,c.out ++ [((c.low/16777216:Nat):Int)],c.ch⟩:=by
   unfold Ac.shift Ac.car Ac.lo;rw[if_neg hl,if_neg hl]
  rw[this];exact hC
theorem EM.span {w:World}{H E:Nat}{c:Ac}{vo:Value}(h:EM w H E c vo):FW w E=c.span:=by
 obtain⟨bl,k0,k1,k2⟩:=h.cells;simp[FW,k1]
def NJ (w wr:World)(H E N:Nat)(t:Ac):Prop :=
 ∃(k:Nat) (c:Ac) (vo:Value),k≤3∧EM wr H E c vo∧Below H w wr∧Ac.norm k c=t∧c.inv c.span∧1≤c.span∧c.span<4294967296∧16777216≤c.span*256^k∧c.out.length+k≤N
theorem IU (w:World)(H E x bit:Nat)(c:Ac)(vo:Value)(h:EM w H E c vo)(hg:c.good)(hn:c.out.length≤900000)(hx:x<40)(hbit:bit≤1):
 Calls Tryz.prog 110 #[.pointer (some ⟨E,0,none⟩),.agg #[.int .i64 (x:Int),.int .i64 (bit:Int)]] w fun e w'=>e= .returned (.tuple #[])∧(∃ vo',EM w' H E (c.put (x,bit)) vo')∧Below H w w':=by
 have hok:=Ac.upd_inv hg.1 hg.2.2.2 hg.2.1 hg.2.2.1 (bit:=bit) hx;have hbd:=Ac.bnd_rng hg.2.2.2 hg.2.1 hg.2.2.1 hx;have hlow:=hg.1.2.1;have hsp1:=hg.2.1;have hsp2:=hg.2.2.1;have hlen:=hg.2.2.2.1;have Hok:=Aa hok;obtain⟨tg,htg⟩:∃ t,t=c.put (x,bit):=⟨_,rfl⟩;rw[←htg];have Htg:=Aa htg;clear hok hg htg;obtain⟨L,S0,out,ch⟩:=c;simp only at hlow hsp1 hsp2 hlen hn;obtain⟨bn,hbn0⟩:∃ q,q=(⟨L,S0,out,ch⟩:Ac).bnd x:=⟨_,rfl⟩;rw[←hbn0]at hbd;obtain⟨p,hp0⟩:∃ q,q=ch.getD x 0:=⟨_,rfl⟩;have Hp0:=Aa hp0;have hp:ch[x]?=some p:=by rw[hp0];exact Ku (by omega)
 simp only at hbd;rw[←hp0]at hbd;obtain⟨hb1,hb2,hq1,hq2,hp1,hp2⟩:=hbd;have hbn:bn=S0/4096*p:=by
  rw[hbn0,hp0];rfl
 have Hbn:=Aa hbn0;have HBn:=Aa hbn;have Hp:=Aa hp;clear hbn0 hbn hp hp0;go_enter Tryz.func110,Tryz.ntmps110
 go_upto_region 1 with fail
 have hC:=h.ext (Ext.alloc w (.cells #[.int .i64 (x:Int),.int .i64 (bit:Int)] 118));have hb0:=Aj w (.cells #[.int .i64 (x:Int),.int .i64 (bit:Int)] 118);have hBl:=(Below.refl H w).alloc h.hs (.cells #[.int .i64 (x:Int),.int .i64 (bit:Int)] 118);have hBO:E≠w.heap.size:=by have:=lt_of_block h.bk;omega
 generalize w.alloc (.cells #[.int .i64 (x:Int),.int .i64 (bit:Int)] 118)=w1 at *;obtain⟨B,hB0⟩:∃ B,B=w.heap.size:=⟨_,rfl⟩;rw[←hB0]at hb0 hBO⊢;clear hB0;refine An (by kernel_rfl) [(4,10),(5,0),(6,1),(7,2),(8,3),(9,4),(10,5),(11,6),(12,7),(13,8),(14,9)] [[],[0],[0,1],[],[3],[3,4],[3,4,5],[],[7],[0,1,2,3,4,5,6,7,8],[0,1,2,3,4,5,6,7,8,9]] (fun i own ys wx=>match i with|0=>own= .pointer (some ⟨E,0,none⟩)|1=>own= .pointer (some ⟨E,0,none⟩)|2=>own= .pointer (some ⟨E,2,none⟩)|3=>own= .pointer (some ⟨E,0,none⟩)|4=>own= .pointer (some ⟨E,0,none⟩)|5=>own= .pointer (some ⟨E,1,none⟩)|6=>own= .int .u64 (S0:Int)|7=>own= .pointer (some ⟨B,0,none⟩)|8=>own= .int .i64 (x:Int)|9=>own= .int .u64 (bn:Int)|10=>own= .int .u64 (bn:Int)|_=>True) (fun kx wx=>EM wx H E ⟨L,S0,out,ch⟩ vo∧wx.heap[B]?=some (.cells #[.int .i64 (x:Int),.int .i64 (bit:Int)] 118 (0,0))∧Below H w wx) (by kernel_rfl) (by kernel_rfl) (by kernel_rfl) ?g0_r1 ?gop_r1 ?gend_r1
 case g0_r1=>exact⟨hC.ext (Ext.drewN _ 1),(Ext.drewN _ 1).blk hb0,hBl.drew⟩
 case gop_r1 =>
  refine⟨?_,?o1,?o2,?_,?o4,?o5,?o6,?_,?o8,?o9,?o10,trivial⟩ <;> (intro kx xs wx hk hG hD hI Qo Kx hK hQo;simp only[Ad,Nat.reduceAdd,Nat.reduceEqDiff,↓reduceIte]at hQo⊢)
  case o1 =>
   rw[ddq (hD 0 rfl)]at hQo⊢;clear hD hI;go_wp2;exact hK.out _ _ ⟨rfl,hG,kkp⟩
  case o2 =>
   rw[ddq (hD 1 rfl)]at hQo⊢;clear hD hI;go_wp2;exact hK.out _ _ ⟨rfl,hG,kkp⟩
  case o4 =>
   rw[ddq (hD 3 rfl)]at hQo⊢;clear hD hI;go_wp2;exact hK.out _ _ ⟨rfl,hG,kkp⟩
  case o5 =>
   rw[ddq (hD 4 rfl)]at hQo⊢;clear hD hI;go_wp2;exact hK.out _ _ ⟨rfl,hG,kkp⟩
  case o6 =>
   rw[ddq (hD 5 rfl)]at hQo⊢;clear hD hI;obtain⟨-,k0,k1,k2⟩:=hG.1.cells;go_wp2;exact hK.out _ _ ⟨rfl,hG,kkp⟩
  case o8 =>
   rw[ddq (hD 7 rfl)]at hQo⊢;clear hD hI;obtain⟨-,k0,k1,-⟩:=bx2 hG.2.1;go_wp2;exact hK.out _ _ ⟨rfl,hG,kkp⟩
  case o9 =>
   rw[ddq (hD 2 rfl),ddq (hD 6 rfl),ddq (hD 8 rfl)]at hQo⊢;clear hD hI;go_wp2_with fail
   refine(JA _ H E x p S0 bn _ vo hG.1 hx Hp.out ⟨hp1,hp2⟩ hsp2 HBn.out).mono ?_
   rintro e wz ⟨rfl,rfl⟩
   go_wp2;exact hK.out _ _ ⟨rfl,hG,kkp⟩
  case o10 =>
   rw[ddq (hD 9 rfl)]at hQo⊢;clear hD hI;go_wp2;exact hK.out _ _ ⟨rfl,hG,kkp⟩
  all_goals
   clear hD hI;go_wp2;exact hK.out _ _ ⟨rfl,hG,kkp⟩
 intro xs wx hV hG;have d10:_=_:=hV 10 (by decide);clear hV;simp only[Ad,Nat.reduceAdd,Nat.reduceEqDiff,↓reduceIte];generalize xs 0=y0,xs 1=y1,xs 2=y2,xs 3=y3,xs 4=y4,xs 5=y5,xs 6=y6,xs 7=y7,xs 8=y8,xs 9=y9,xs 10=y10 at *
 replace hG:EM wx H E ⟨L,S0,out,ch⟩ vo∧wx.heap[B]?=some (.cells #[.int .i64 (x:Int),.int .i64 (bit:Int)] 118 (0,0))∧Below H w wx:=hG
 subst d10;obtain⟨hC2,hb2',hB2⟩:=hG;clear hC hb0 hBl;have hBw:B≠E:=fun e=>hBO e.symm
 obtain⟨bl,k0,k1,k2⟩:=hC2.cells;simp only at k0 k1;have f0:=hC2.fz 0;have f1:=hC2.fz 1;obtain⟨-,j0,j1,-⟩:=bx2 hb2';have HC2:=Aa hC2;have Hb2:=Aa hb2';clear hC2 hb2' h
 by_cases h0:bit=0
 ·have hd:decide ((bit:Int)=0)=true:=by simp;omega
  go_upto_region 6 with fail
  have hC:=HC2.out.spn bn;have hb0:=Ai (i:=1) (v := .int .u64 (bn:Int)) Hb2.out hBw;have hBl:=hB2.setCell (p:=⟨E,1,none⟩) HC2.out.hO (.int .u64 (bn:Int));clear bl k0 k1 k2 f0 f1 j0 j1 HC2 Hb2 hB2 hd;have H0:=Aa h0;clear h0;generalize World.setCell _ _ _=w3 at *;obtain⟨L2,hL2⟩:∃ q,q=L:=⟨_,rfl⟩;obtain⟨S2,hS2⟩:∃ q,q=bn:=⟨_,rfl⟩;rw[←hL2,←hS2]at hC;have HL2:=Aa hL2;have HS2:=Aa hS2;clear hL2 hS2;refine Am (by kernel_rfl) [(38,0),(39,1),(40,2),(41,3),(42,4),(43,5),(44,6),(45,7)] [[],[0],[0,1],[],[3],[],[5],[0,1,2,3,4,5,6]] (fun i own ys wx=>match i with|0=>own= .pointer (some ⟨E,0,none⟩)|1=>own= .pointer (some ⟨E,0,none⟩)|2=>own= .pointer (some ⟨E,2,none⟩)|3=>own= .pointer (some ⟨B,0,none⟩)|4=>own= .int .i64 (x:Int)|5=>own= .pointer (some ⟨B,1,none⟩)|6=>own= .int .i64 (bit:Int)|7=>∃ _z:Nat,own= .tuple #[]∧EM wx H E ⟨L2,S2,out,ch.set x (nch p bit)⟩ vo|_=>True) (fun Lx wx=>(∃ c9 v9,EM wx H E c9 v9∧(Lx 7=false→c9=⟨L2,S2,out,ch⟩∧v9=vo))∧(Lx 7=false→wx.heap[B]?=some (.cells #[.int .i64 (x:Int),.int .i64 (bit:Int)] 118 (0,0)))∧Below H w wx) (by kernel_rfl) (by kernel_rfl) (by kernel_rfl) ?g0_r2 ?gop_r2 ?gend_r2
  case g0_r2=>exact⟨⟨_,_,hC.ext (Ext.drewN _ 1),fun _=>⟨rfl,rfl⟩⟩,fun _=>(Ext.drewN _ 1).blk hb0,hBl.drew⟩
  case gop_r2 =>
   refine⟨?_,?o1,?o2,?_,?o4,?_,?o6,?o7,trivial⟩ <;> (intro Lx xs wx hG hl ha hb hD hI Qo Kx hK hQo;simp only[Ad,Nat.reduceAdd,Nat.reduceEqDiff,↓reduceIte]at hQo⊢)
   case o1 =>
    clear hl ha hb;rw[ddq (hD 0 rfl)]at hQo⊢;clear hD hI;go_wp2;exact hK.out _ _ ⟨rfl,hG,kkp⟩
   case o2 =>
    clear hl ha hb;rw[ddq (hD 1 rfl)]at hQo⊢;clear hD hI;go_wp2;exact hK.out _ _ ⟨rfl,hG,kkp⟩
   case o4 =>
    have l7:Lx 7=false:=hb 7 rfl;clear hl ha hb;rw[ddq (hD 3 rfl)]at hQo⊢;clear hD hI;obtain⟨-,k0,k1,-⟩:=bx2 (hG.2.1 l7);go_wp2;exact hK.out _ _ ⟨rfl,hG,kkp⟩
   case o6 =>
    have l7:Lx 7=false:=hb 7 rfl;clear hl ha hb;rw[ddq (hD 5 rfl)]at hQo⊢;clear hD hI;obtain⟨-,k0,k1,-⟩:=bx2 (hG.2.1 l7);go_wp2;exact hK.out _ _ ⟨rfl,hG,kkp⟩
   case o7 =>
    have l7:Lx 7=false:=hl;clear hl ha hb;rw[ddq (hD 2 rfl),ddq (hD 4 rfl),ddq (hD 6 rfl)]at hQo⊢;clear hD hI;obtain⟨c9,v9,g1,g2⟩:=hG.1;obtain⟨hc9,hv9⟩:=g2 l7;rw[hc9,hv9]at g1;go_wp2_with fail
    refine(FF _ H E x p bit _ _ g1 hx Hp.out ⟨hp1,hp2⟩ hbit).mono ?_
    rintro e wz ⟨rfl,hE,hBz⟩
    go_wp2;have hst:∀(wy:World),True→Stbn 8 7 [[],[0],[0,1],[],[3],[],[5],[0,1,2,3,4,5,6]] (fun i own ys wx=>match i with|0=>own= .pointer (some ⟨E,0,none⟩)|1=>own= .pointer (some ⟨E,0,none⟩)|2=>own= .pointer (some ⟨E,2,none⟩)|3=>own= .pointer (some ⟨B,0,none⟩)|4=>own= .int .i64 (x:Int)|5=>own= .pointer (some ⟨B,1,none⟩)|6=>own= .int .i64 (bit:Int)|7=>∃ _z:Nat,own= .tuple #[]∧EM wx H E ⟨L2,S2,out,ch.set x (nch p bit)⟩ vo|_=>True) wx wy:=by
     intro wy hy ii hii hne hc own ys h
     match ii,h with
     | 0,h|1,h|2,h|3,h|4,h|5,h|6,h=>exact h
     | 7,h=>exact absurd rfl hne
     | _+8,_=>trivial
    exact hK.out _ _ ⟨⟨0,rfl,hE⟩,⟨⟨_,_,hE,(fun x=>Bool.noConfusion x)⟩,(fun x=>Bool.noConfusion x),hG.2.2.trans hBz⟩,hst _ trivial⟩
   all_goals
    clear hl ha hb hD hI;go_wp2;exact hK.out _ _ ⟨rfl,hG,kkp⟩
  intro xs wx hV hG0;obtain⟨Lx,hL,hG⟩:=hG0;have l7:Lx 7=true:=hL 7 (by decide);clear hL;have d7:∃ _z:Nat,(xs 7) = .tuple #[]∧EM wx H E ⟨L2,S2,out,ch.set x (nch p bit)⟩ vo:=hV 7 (by decide);clear hV;simp only[Ad,Nat.reduceAdd,Nat.reduceEqDiff,↓reduceIte];generalize xs 0=y0,xs 1=y1,xs 2=y2,xs 3=y3,xs 4=y4,xs 5=y5,xs 6=y6,xs 7=y7 at *
  replace hG:(∃ c9 v9,EM wx H E c9 v9∧(Lx 7=false→c9=⟨L2,S2,out,ch⟩∧v9=vo))∧(Lx 7=false→wx.heap[B]?=some (.cells #[.int .i64 (x:Int),.int .i64 (bit:Int)] 118 (0,0)))∧Below H w wx:=hG
  obtain⟨_,rfl,c18⟩:=d7;have hBx:=hG.2.2;have hu:(⟨L,S0,out,ch⟩:Ac).upd x bit=⟨L2,S2,out,ch.set x (nch p bit)⟩:=by
   unfold Ac.upd;rw[if_pos H0.out,←Hbn.out];simp only;rw[←Hp0.out,←HS2.out,←HL2.out]
  have hok:=Hok.out;rw[hu]at hok;have hN0:NJ w wx H E (out.length+3) tg:=by
   refine⟨3,_,vo,Nat.le_refl _,c18,hBx,?_,hok.1,hok.2.1,hok.2.2,?_,Nat.le_refl _⟩
   ·rw[Htg.out,←hu];rfl
   ·have:=hok.2.1;simp only at this;show 16777216≤S2*256^3;omega
  have hn3:out.length+3≤900003:=by omega
  clear hlow hsp1 hsp2 hlen hn hok hu c18 hG hC hb0 hBl hp1 hp2 hb1 hb2 hq1 hq2 hBx;try clear Hok Htg Hbn Hp0
  go_wp2_with fail
  go_loopw [] (fun wr=>NJ w wr H E (out.length+3) tg) (fun wr=>4294967296-FW wr E)
  case atStart=>exact hN0
  case round =>
   obtain⟨k,c1,vo1,hk,hC,hB,hno,hi1,hi2,hi3,hi4,hi5⟩:=hrel;clear hN0;have hsp:=hC.span;obtain⟨bl,k0,k1,k2⟩:=hC.cells
   by_cases hlt:c1.span<16777216
   ·obtain⟨q,rfl⟩:∃ q,k=q+1:=by
     cases k with
     | zero=>simp at hi4;omega
     | succ q=>exact⟨q,rfl⟩
    have hsh:=Aa (Cz wr H E c1.span c1 vo1 hC hi1 hi2 (by omega));have hwi:=Aa (Ac.wide_inv hi1 hi2 hlt);have hno2:Ac.norm q c1.wide=tg:=by rw[←hno];show _=if c1.span<16777216 then _ else _;rw[if_pos hlt]
    have hwo:c1.wide.out.length=c1.out.length+1:=by show(c1.car ++ [_]).length=_;rw[List.length_append,Ac.car_len];rfl
    have hws:c1.wide.span=c1.span*256:=rfl;have hpw:16777216≤c1.wide.span*256^q:=by rw[hws];rw[Nat.pow_succ]at hi4;rw[Nat.mul_assoc,Nat.mul_comm 256];exact hi4
    have Hrest:=Aa (⟨hno2,hwo,hpw,hi4,hno⟩:_∧_∧_∧_∧_);have hcs:c1.shift.span=c1.span:=rfl;obtain⟨S1,hS1⟩:∃ S1,S1=c1.span:=⟨_,rfl⟩;rw[←hS1]at hlt hi2 hi3 k1 hsp hcs;have HS1:=Aa hS1;have hdl:decide ((S1:Int)<16777216)=true:=by simp;omega
    have hS1i:1≤(S1:Int):=by omega
    have hS2i:(S1:Int)<16777216:=by omega
    have hwr:IntKind.u64.wrap ((S1:Int)*256)=(S1:Int)*256:=by rw[IntKind.wrap_u64];omega
    have Hi:=Aa (⟨hi2,hi3,hlt,hi5,hk⟩:_∧_∧_∧_∧_);clear hi2 hi3 hlt hi5 hk hn3 hno2 hwo hpw hi4 hno hws hi1 hC hS1;go_wp2_with fail
    refine hsh.out.mono ?_
    rintro e w4 ⟨rfl,⟨vo2,hC4⟩,hB4⟩
    obtain⟨c4,hc4⟩:∃ c4,c4=c1.shift:=⟨_,rfl⟩;rw[←hc4]at hC4 hcs;have Hc4:=Aa hc4;clear hc4 bl k0 k1 k2;obtain⟨bl,k0,k1,k2⟩:=hC4.cells;rw[hcs]at k1;have f1:=hC4.fz 1;have HC4:=Aa hC4;have HB4:=Aa (hB.trans hB4);clear hC4 hB4 hB;go_wp2;go_roundw
    case rel =>
     obtain⟨r1,r2,r3,-,-⟩:=Hrest.out;obtain⟨hi2,hi3,hlt,hi5,hk⟩:=Hi.out;have hC5:=HC4.out.spn (S1*256);rw[show((S1*256:Nat):Int)=(S1:Int)*256 by omega]at hC5;refine⟨q,c1.wide,vo2,by omega,?_,HB4.out.setCell HC4.out.hO _,r1,hwi.out,?_,?_,r3,by omega⟩
     ·have:(⟨c4.low,S1*256,c4.out,c4.ch⟩:Ac)=c1.wide:=by rw[Hc4.out,HS1.out];rfl
      rw[←this];exact hC5
     ·show 1≤c1.span*256;have:=HS1.out;omega
     ·show c1.span*256<_;have:=HS1.out;omega
    case measure =>
     have hC5:=HC4.out.spn (S1*256);rw[show((S1*256:Nat):Int)=(S1:Int)*256 by omega]at hC5;have h5:=hC5.span;simp only at h5;have:=Hi.out.1;have:=Hi.out.2.2.1;rw[h5,hsp];omega
   ·have HC:=Aa hC;have hd:Ac.norm k c1=c1:=Ac.norm_done k (by omega);rw[hd]at hno;subst hno;have hdl:decide ((c1.span:Int)<16777216)=false:=by simp;omega
    clear hC hi1 hd hi2 hi3 hi4 hi5 hlt hn3;go_wp2;refine bodyPost_end (results_none rfl _ _ _) rfl ?_;exact⟨rfl,⟨vo1,HC.out⟩,hB⟩
 ·have hd:decide ((bit:Int)=0)=false:=by simp;omega
  have hwa:IntKind.u64.wrap ((L:Int)+bn)=(L:Int)+bn:=by rw[IntKind.wrap_u64];omega
  have hws:IntKind.u64.wrap ((S0:Int)-bn)=(S0:Int)-bn:=by rw[IntKind.wrap_u64];omega
  go_upto_region 5 with fail
  have hC:=HC2.out.low (L+bn);rw[show((L+bn:Nat):Int)=(L:Int)+bn by omega]at hC;have hb0:=Ai (i:=0) (v := .int .u64 ((L:Int)+bn)) Hb2.out hBw;have hBl:=hB2.setCell (p:=⟨E,0,none⟩) HC2.out.hO (.int .u64 ((L:Int)+bn));clear bl k0 k1 k2 f0 f1 j0 j1 HC2 Hb2 hB2 hd hwa;generalize World.setCell _ _ _=w3 at *;obtain⟨bl,k0,k1,k2⟩:=hC.cells;simp only at k0 k1;have f1:=hC.fz 1;have HC2:=Aa hC;have Hb2:=Aa hb0;have hB2:=hBl;clear hC hb0 hBl;go_upto_region 6 with fail
  have hC:=HC2.out.spn (S0-bn);simp only at hC;rw[show((S0-bn:Nat):Int)=(S0:Int)-bn by omega]at hC;have hb0:=Ai (i:=1) (v := .int .u64 ((S0:Int)-bn)) Hb2.out hBw;have hBl:=hB2.setCell (p:=⟨E,1,none⟩) HC2.out.hO (.int .u64 ((S0:Int)-bn));clear bl k0 k1 k2 f1 HC2 Hb2 hB2 hws;have H0:=Aa h0;clear h0;generalize World.setCell _ _ _=w4 at *;generalize ((bit:Int) == 0)=bb;obtain⟨L2,hL2⟩:∃ q,q=L+bn:=⟨_,rfl⟩;obtain⟨S2,hS2⟩:∃ q,q=S0-bn:=⟨_,rfl⟩;rw[←hL2,←hS2]at hC;have HL2:=Aa hL2;have HS2:=Aa hS2;clear hL2 hS2;refine Am (by kernel_rfl) [(38,0),(39,1),(40,2),(41,3),(42,4),(43,5),(44,6),(45,7)] [[],[0],[0,1],[],[3],[],[5],[0,1,2,3,4,5,6]] (fun i own ys wx=>match i with|0=>own= .pointer (some ⟨E,0,none⟩)|1=>own= .pointer (some ⟨E,0,none⟩)|2=>own= .pointer (some ⟨E,2,none⟩)|3=>own= .pointer (some ⟨B,0,none⟩)|4=>own= .int .i64 (x:Int)|5=>own= .pointer (some ⟨B,1,none⟩)|6=>own= .int .i64 (bit:Int)|7=>∃ _z:Nat,own= .tuple #[]∧EM wx H E ⟨L2,S2,out,ch.set x (nch p bit)⟩ vo|_=>True) (fun Lx wx=>(∃ c9 v9,EM wx H E c9 v9∧(Lx 7=false→c9=⟨L2,S2,out,ch⟩∧v9=vo))∧(Lx 7=false→wx.heap[B]?=some (.cells #[.int .i64 (x:Int),.int .i64 (bit:Int)] 118 (0,0)))∧Below H w wx) (by kernel_rfl) (by kernel_rfl) (by kernel_rfl) ?g0_r3 ?gop_r3 ?gend_r3
  case g0_r3=>exact⟨⟨_,_,hC.ext (Ext.drewN _ 1),fun _=>⟨rfl,rfl⟩⟩,fun _=>(Ext.drewN _ 1).blk hb0,hBl.drew⟩
  case gop_r3 =>
   refine⟨?_,?o1,?o2,?_,?o4,?_,?o6,?o7,trivial⟩ <;> (intro Lx xs wx hG hl ha hb hD hI Qo Kx hK hQo;simp only[Ad,Nat.reduceAdd,Nat.reduceEqDiff,↓reduceIte]at hQo⊢)
   case o1 =>
    clear hl ha hb;rw[ddq (hD 0 rfl)]at hQo⊢;clear hD hI;go_wp2;exact hK.out _ _ ⟨rfl,hG,kkp⟩
   case o2 =>
    clear hl ha hb;rw[ddq (hD 1 rfl)]at hQo⊢;clear hD hI;go_wp2;exact hK.out _ _ ⟨rfl,hG,kkp⟩
   case o4 =>
    have l7:Lx 7=false:=hb 7 rfl;clear hl ha hb;rw[ddq (hD 3 rfl)]at hQo⊢;clear hD hI;obtain⟨-,k0,k1,-⟩:=bx2 (hG.2.1 l7);go_wp2;exact hK.out _ _ ⟨rfl,hG,kkp⟩
   case o6 =>
    have l7:Lx 7=false:=hb 7 rfl;clear hl ha hb;rw[ddq (hD 5 rfl)]at hQo⊢;clear hD hI;obtain⟨-,k0,k1,-⟩:=bx2 (hG.2.1 l7);go_wp2;exact hK.out _ _ ⟨rfl,hG,kkp⟩
   case o7 =>
    have l7:Lx 7=false:=hl;clear hl ha hb;rw[ddq (hD 2 rfl),ddq (hD 4 rfl),ddq (hD 6 rfl)]at hQo⊢;clear hD hI;obtain⟨c9,v9,g1,g2⟩:=hG.1;obtain⟨hc9,hv9⟩:=g2 l7;rw[hc9,hv9]at g1;go_wp2_with fail
    refine(FF _ H E x p bit _ _ g1 hx Hp.out ⟨hp1,hp2⟩ hbit).mono ?_
    rintro e wz ⟨rfl,hE,hBz⟩
    go_wp2;have hst:∀(wy:World),True→Stbn 8 7 [[],[0],[0,1],[],[3],[],[5],[0,1,2,3,4,5,6]] (fun i own ys wx=>match i with|0=>own= .pointer (some ⟨E,0,none⟩)|1=>own= .pointer (some ⟨E,0,none⟩)|2=>own= .pointer (some ⟨E,2,none⟩)|3=>own= .pointer (some ⟨B,0,none⟩)|4=>own= .int .i64 (x:Int)|5=>own= .pointer (some ⟨B,1,none⟩)|6=>own= .int .i64 (bit:Int)|7=>∃ _z:Nat,own= .tuple #[]∧EM wx H E ⟨L2,S2,out,ch.set x (nch p bit)⟩ vo|_=>True) wx wy:=by
     intro wy hy ii hii hne hc own ys h
     match ii,h with
     | 0,h|1,h|2,h|3,h|4,h|5,h|6,h=>exact h
     | 7,h=>exact absurd rfl hne
     | _+8,_=>trivial
    exact hK.out _ _ ⟨⟨0,rfl,hE⟩,⟨⟨_,_,hE,(fun x=>Bool.noConfusion x)⟩,(fun x=>Bool.noConfusion x),hG.2.2.trans hBz⟩,hst _ trivial⟩
   all_goals
    clear hl ha hb hD hI;go_wp2;exact hK.out _ _ ⟨rfl,hG,kkp⟩
  intro xs wx hV hG0;obtain⟨Lx,hL,hG⟩:=hG0;have l7:Lx 7=true:=hL 7 (by decide);clear hL;have d7:∃ _z:Nat,(xs 7) = .tuple #[]∧EM wx H E ⟨L2,S2,out,ch.set x (nch p bit)⟩ vo:=hV 7 (by decide);clear hV;simp only[Ad,Nat.reduceAdd,Nat.reduceEqDiff,↓reduceIte];generalize xs 0=y0,xs 1=y1,xs 2=y2,xs 3=y3,xs 4=y4,xs 5=y5,xs 6=y6,xs 7=y7 at *
  replace hG:(∃ c9 v9,EM wx H E c9 v9∧(Lx 7=false→c9=⟨L2,S2,out,ch⟩∧v9=vo))∧(Lx 7=false→wx.heap[B]?=some (.cells #[.int .i64 (x:Int),.int .i64 (bit:Int)] 118 (0,0)))∧Below H w wx:=hG
  obtain⟨_,rfl,c18⟩:=d7;have hBx:=hG.2.2;have hu:(⟨L,S0,out,ch⟩:Ac).upd x bit=⟨L2,S2,out,ch.set x (nch p bit)⟩:=by
   unfold Ac.upd;rw[if_neg H0.out,←Hbn.out];simp only;rw[←Hp0.out,HS2.out,HL2.out]
  have hok:=Hok.out;rw[hu]at hok;have hN0:NJ w wx H E (out.length+3) tg:=by
   refine⟨3,_,vo,Nat.le_refl _,c18,hBx,?_,hok.1,hok.2.1,hok.2.2,?_,Nat.le_refl _⟩
   ·rw[Htg.out,←hu];rfl
   ·have:=hok.2.1;simp only at this;show 16777216≤S2*256^3;omega
  have hn3:out.length+3≤900003:=by omega
  clear hlow hsp1 hsp2 hlen hn hok hu c18 hG hC hb0 hBl hp1 hp2 hb1 hb2 hq1 hq2 hBx;try clear Hok Htg Hbn Hp0
  go_wp2_with fail
  go_loopw [] (fun wr=>NJ w wr H E (out.length+3) tg) (fun wr=>4294967296-FW wr E)
  case atStart=>exact hN0
  case round =>
   obtain⟨k,c1,vo1,hk,hC,hB,hno,hi1,hi2,hi3,hi4,hi5⟩:=hrel;clear hN0;have hsp:=hC.span;obtain⟨bl,k0,k1,k2⟩:=hC.cells
   by_cases hlt:c1.span<16777216
   ·obtain⟨q,rfl⟩:∃ q,k=q+1:=by
     cases k with
     | zero=>simp at hi4;omega
     | succ q=>exact⟨q,rfl⟩
    have hsh:=Aa (Cz wr H E c1.span c1 vo1 hC hi1 hi2 (by omega));have hwi:=Aa (Ac.wide_inv hi1 hi2 hlt);have hno2:Ac.norm q c1.wide=tg:=by rw[←hno];show _=if c1.span<16777216 then _ else _;rw[if_pos hlt]
    have hwo:c1.wide.out.length=c1.out.length+1:=by show(c1.car ++ [_]).length=_;rw[List.length_append,Ac.car_len];rfl
    have hws:c1.wide.span=c1.span*256:=rfl;have hpw:16777216≤c1.wide.span*256^q:=by rw[hws];rw[Nat.pow_succ]at hi4;rw[Nat.mul_assoc,Nat.mul_comm 256];exact hi4
    have Hrest:=Aa (⟨hno2,hwo,hpw,hi4,hno⟩:_∧_∧_∧_∧_);have hcs:c1.shift.span=c1.span:=rfl;obtain⟨S1,hS1⟩:∃ S1,S1=c1.span:=⟨_,rfl⟩;rw[←hS1]at hlt hi2 hi3 k1 hsp hcs;have HS1:=Aa hS1;have hdl:decide ((S1:Int)<16777216)=true:=by simp;omega
    have hS1i:1≤(S1:Int):=by omega
    have hS2i:(S1:Int)<16777216:=by omega
    have hwr:IntKind.u64.wrap ((S1:Int)*256)=(S1:Int)*256:=by rw[IntKind.wrap_u64];omega
    have Hi:=Aa (⟨hi2,hi3,hlt,hi5,hk⟩:_∧_∧_∧_∧_);clear hi2 hi3 hlt hi5 hk hn3 hno2 hwo hpw hi4 hno hws hi1 hC hS1;go_wp2_with fail
    refine hsh.out.mono ?_
    rintro e w4 ⟨rfl,⟨vo2,hC4⟩,hB4⟩
    obtain⟨c4,hc4⟩:∃ c4,c4=c1.shift:=⟨_,rfl⟩;rw[←hc4]at hC4 hcs;have Hc4:=Aa hc4;clear hc4 bl k0 k1 k2;obtain⟨bl,k0,k1,k2⟩:=hC4.cells;rw[hcs]at k1;have f1:=hC4.fz 1;have HC4:=Aa hC4;have HB4:=Aa (hB.trans hB4);clear hC4 hB4 hB;go_wp2;go_roundw
    case rel =>
     obtain⟨r1,r2,r3,-,-⟩:=Hrest.out;obtain⟨hi2,hi3,hlt,hi5,hk⟩:=Hi.out;have hC5:=HC4.out.spn (S1*256);rw[show((S1*256:Nat):Int)=(S1:Int)*256 by omega]at hC5;refine⟨q,c1.wide,vo2,by omega,?_,HB4.out.setCell HC4.out.hO _,r1,hwi.out,?_,?_,r3,by omega⟩
     ·have:(⟨c4.low,S1*256,c4.out,c4.ch⟩:Ac)=c1.wide:=by rw[Hc4.out,HS1.out];rfl
      rw[←this];exact hC5
     ·show 1≤c1.span*256;have:=HS1.out;omega
     ·show c1.span*256<_;have:=HS1.out;omega
    case measure =>
     have hC5:=HC4.out.spn (S1*256);rw[show((S1*256:Nat):Int)=(S1:Int)*256 by omega]at hC5;have h5:=hC5.span;simp only at h5;have:=Hi.out.1;have:=Hi.out.2.2.1;rw[h5,hsp];omega
   ·have HC:=Aa hC;have hd:Ac.norm k c1=c1:=Ac.norm_done k (by omega);rw[hd]at hno;subst hno;have hdl:decide ((c1.span:Int)<16777216)=false:=by simp;omega
    clear hC hi1 hd hi2 hi3 hi4 hi5 hlt hn3;go_wp2;refine bodyPost_end (results_none rfl _ _ _) rfl ?_;exact⟨rfl,⟨vo1,HC.out⟩,hB⟩
theorem Qz : (Tryz.prog.info? 129).map (·.zero)=some (some (.agg (ic (zl 40)))):=by kernel_rfl
theorem Lj : (Tryz.prog.info? 129).map (·.size)=some 40:=by kernel_rfl
def chA (k:Nat):List Int:=List.replicate k 2048++List.replicate (40-k) 0
theorem P2 {k:Nat}(h:k≤40):(chA k).length=40:=by simp[chA];omega
theorem P4 {k:Nat}(h:k<40):(chA k).set k 2048=chA (k+1):=by
 unfold chA;obtain⟨q,hq⟩:∃ q,40-k=q+1:=⟨40-k-1,by omega⟩;rw[hq,show 40-(k+1)=q by omega,List.set_append_right _ _ (by simp),List.length_replicate,Nat.sub_self,List.replicate_succ (n:=q),List.set_cons_zero,List.replicate_succ' (n:=k)];simp
theorem JJ (w:World):
 Calls Tryz.prog 109 #[] w fun e w'=>e= .returned (.agg (ic (List.replicate 40 2048)))∧Ext w w':=by
 go_enter Tryz.func109,Tryz.ntmps109
 have r0:=(IB.new w 129 (zl 40)).alloc (.cells (ic (zl 40)) 129);have p0:=IB.new (w.alloc (.cells (ic (zl 40)) 129)) 129 (zl 40);have E0:=(Ext.alloc w (.cells (ic (zl 40)) 129)).trans (Ext.alloc _ (.cells (ic (zl 40)) 129));simp only[World.size_alloc]at p0;go_wp2_with (refine Au 129 rfl rfl 40 Qz ?_;(try simp only[World.size_alloc]))
 go_loopw [3] (fun i wr=>∃ k:Nat,k≤40∧i= .int .i64 (k:Nat)∧Ext w wr∧IB wr w.heap.size 129 (zl 40)∧IB wr (w.heap.size+1) 129 (chA k)) (fun i _=>40-(intOf i).toNat)
 case atStart=>exact⟨0,by omega,rfl,E0,r0,p0⟩
 case round =>
  obtain⟨k,hk,rfl,E2,r2,p2⟩:=hrel;clear E0 r0 p0
  by_cases hlt:k<40
  ·have hd:decide ((k:Int)<40)=true:=by simp;omega
   have k0:=p2.cell (i:=k) (by rw[P2 hk];exact hlt);have f0:=p2.frozen k;have p3:=p2.set k 2048;rw[P4 hlt]at p3;have r3:=r2.set_other (i:=k) (v := .int .i64 2048) (show w.heap.size≠w.heap.size+1 by omega);have E3:Ext w (wr.setCell ⟨w.heap.size+1,k,none⟩ (.int .i64 2048)):=Ext.grown E2 (Ax wr (w.heap.size+1) k (.int .i64 2048)) (fun q hq=>by cases hq;omega);have HH:=Aa (⟨E3,r3,p3⟩:_∧_∧_);clear E2 r2 p2 E3 r3 p3;go_wp2;go_roundw
   case rel=>exact⟨k+1,by omega,by go_num,HH.out⟩
   case measure=>simp[intOf];omega
  ·obtain rfl:k=40:=by omega
   have hd:decide (((40:Nat):Int)<40)=false:=by simp
   replace p2:IB wr (w.heap.size+1) 129 (List.replicate 40 2048):=p2
   go_wp2_with (first|(refine Ab 129 _ rfl rfl p2 0 40 rfl _ Tryz.underlying129 rfl Lj (by simp) _ (by rw[Ak _ 40 (by simp)]) ?_)|(refine Af 129 _ _ rfl rfl r2 0 40 rfl _ rfl (List.replicate 40 2048) rfl Lj (by simp) (by simp[zl]) ?_;intro wf pf gf;refine Hid.out ?_))
   rw[Ap (by simp[zl])]at pf;have Ef:Ext w wf:=Ext.grown E2 gf (fun q hq=>by cases hq;omega);refine Aa ?_;go_wp2;exact bodyPost_ret (v := .agg (ic (List.replicate 40 2048))) (results_cell_row rfl _ _ w.heap.size 129 (ic (List.replicate 40 2048)) (0,0) _ rfl pf Tryz.underlying129 rfl (by rw[AJ];exact Lj)) rfl ⟨rfl,Ef⟩
theorem Mw {L:List Int}{n:Nat}(h:20000<n):Cb L n=false:=by
 unfold Cb;rw[show decide (n≤20000)=false from decide_eq_false (by omega),Bool.and_false]
theorem Dz (a:Option Addr)(n c H:Nat)(L:List Int)(w:World)(h:w.ownsRow H 118 2 (.slice a n c) n (L.map (Value.int .i64)))(hn:n≤2^40):
 Calls Tryz.prog 108 #[.slice a n c] w fun e w'=>e= .returned (.bool (Cb L n))∧Ext w w':=by
 by_cases hbig:20000<n
 ·have hno:=Aa (Mw (L:=L) hbig);have hd:decide ((20000:Int)<(n:Int))=true:=by simp;omega
  go_enter Tryz.func108,Tryz.ntmps108
  go_wp2;go_ret
  exact⟨by rw[hno.out];rfl,Below.refl _ _⟩
 have hd:decide ((20000:Int)<(n:Int))=false:=by simp;omega
 have hn20:n≤20000:=by omega
 clear hbig hn;go_enter Tryz.func108,Tryz.ntmps108
 go_wp2_with fail
 go_loopw [10] (fun i wr=>∃ k:Nat,k≤n∧i= .int .i64 (k:Nat)∧Ext w wr∧∀ j,j<k→Dv L j=true) (fun i _=>n-(intOf i).toNat)
 case atStart=>exact⟨0,by omega,rfl,Below.refl _ _,fun j hj=>by omega⟩
 case round =>
  obtain⟨k,hk,rfl,E2,hall⟩:=hrel;have Hall:=Aa hall;clear hall hd
  by_cases hlt:k<n
  ·obtain⟨g,rfl,k0,k1⟩:=Gc (Ae h E2) hlt;obtain⟨A,hA⟩:∃ A,A=L.getD (k*2) 0:=⟨_,rfl⟩;obtain⟨B,hB⟩:∃ B,B=L.getD (k*2+1) 0:=⟨_,rfl⟩;have hbo:Dv L k=decide ((0≤A∧A≤39)∧0≤B∧B≤1):=by rw[hA,hB];rfl
   rw[←hA]at k0;rw[←hB]at k1;have Hbo:=Aa hbo;have E3:=E2.trans (Ext.alloc wr (.cells #[.int .i64 A,.int .i64 B] 118));clear hbo hA hB E2
   by_cases hok:(0≤A∧A≤39)∧0≤B∧B≤1
   ·have hbb:=Aa (show Dv L k=true by rw[Hbo.out,decide_eq_true hok]);obtain⟨⟨a1,a2⟩,b1,b2⟩:=hok;have q1:decide (A<0)=false:=by simp;omega
    have q2:decide ((40:Int)≤A)=false:=by simp;omega
    obtain rfl|rfl:B=0∨B=1:=by omega
    all_goals
     go_wp2;go_roundw
     case rel =>
      refine⟨k+1,by omega,by go_num,E3,fun j hj => ?_⟩
      by_cases e:j=k
      ·rw[e];exact hbb.out
      ·exact Hall.out j (by omega)
     case measure=>simp[intOf];omega
   ·have hno:=Aa (Iu hlt (by rw[Hbo.out];exact decide_eq_false hok))
    by_cases a1:A<0
    ·have q1:decide (A<0)=true:=by simpa using a1
     clear hok a1;go_wp2;go_ret
     exact⟨by rw[hno.out];rfl,E3⟩
    ·have q1:decide (A<0)=false:=by simpa using a1
     by_cases a2:40≤A
     ·have q2:decide ((40:Int)≤A)=true:=by simpa using a2
      clear hok a1 a2;go_wp2;go_ret
      exact⟨by rw[hno.out];rfl,E3⟩
     ·have q2:decide ((40:Int)≤A)=false:=by simpa using a2
      have b1:(B != 0)=true:=by simp;intro hb;exact hok ⟨⟨by omega,by omega⟩,by omega,by omega⟩
      have b2:(B != 1)=true:=by simp;intro hb;exact hok ⟨⟨by omega,by omega⟩,by omega,by omega⟩
      clear hok a1 a2;go_wp2;go_ret
      exact⟨by rw[hno.out];rfl,E3⟩
  ·obtain rfl:k=n:=by omega
   have Hy:=Aa (Js Hall.out);go_wp2;go_ret
   exact⟨by rw[Hy.out,decide_eq_true hn20];rfl,E2⟩
section
variable {P : Program}
theorem DO {b T:Nat}: ∀(ys pre post:List Value) (w:World),w.heap[b]?=some (.cells (pre++post).toArray T (0,0))→ys.length=post.length→(∀ u∈ys,u.oneCell'=true) →
 ∃ w',(storeCells ⟨b,0,none⟩ ys pre.length).run P w= .ok () w'∧w'.heap[b]?=some (.cells (pre++ys).toArray T (0,0))∧w.grownBy w' (some b)
 | [],pre,post,w,h,hl,_=>by
  obtain rfl:post = []:=List.eq_nil_of_length_eq_zero (by simpa using hl.symm);exact⟨w,by simp[storeCells],h,World.grownBy.refl _ _⟩
 | y::ys,pre,post,w,h,hl,h1=>by
  obtain⟨p,post,rfl⟩:∃ p q,post=p::q:=by
   cases post with
   | nil=>simp at hl
   | cons p q=>exact⟨p,q,rfl⟩
  have hadd:(⟨b,0,none⟩:Addr).add pre.length=⟨b,pre.length,none⟩:=by rw[Addr.add_lit,Nat.zero_add]
  have hc:w.cell? ⟨b,pre.length,none⟩=some p:=by simp[World.cell?,h]
  have hf:w.frozen? ⟨b,pre.length,none⟩=false:=by simp[World.frozen?,h]
  have hst:(store ((⟨b,0,none⟩:Addr).add pre.length) y).run P w= .ok () (w.setCell ⟨b,pre.length,none⟩ y):=by
   rw[hadd,run_store P w _ y _ (h1 y (by simp)),hc];simp[hf]
  have h2:(w.setCell ⟨b,pre.length,none⟩ y).heap[b]?=some (.cells ((pre ++ [y])++post).toArray T (0,0)):=by
   have:=heap_setCell_same w b pre.length _ _ y h;rw[List.setIfInBounds_toArray,List.set_append_right _ _ (Nat.le_refl _),Nat.sub_self,List.set_cons_zero]at this
   simpa using this
  obtain⟨w',g1,g2,g3⟩:=DO ys (pre ++ [y]) post _ h2 (by simpa using hl) (fun u hu=>h1 u (by simp[hu]));refine⟨w',?_,by simpa using g2,grownBy_trans (gsO _ _ _ _) g3⟩;simp only[storeCells,Sem.run_bind,hst,Result.andThen_ok]
  simpa using g1
theorem Kl {ops:Array Oper}{rest:List Oper}{o:Oper}{a:Act}{w:World}{Q:Exit→Act→World→Prop}(t:TypeId)(ho:o.op= .alloc t)(hgd:Region.wanted o (yielded ops a.tmps)=true)
 (z:Array Value) (hz:(P.info? t).map (·.zero)=some (some (.agg z)))
 (hK:wpList P ops Q rest (a.put o.dst (.pointer (some ⟨w.heap.size,0,none⟩))) (w.alloc (.cells z t))):wpList P ops Q (o::rest) a w:=by
 refine AG hgd fun _ hK' => ?_
 cases hqt:P.info? t with
 | none=>simp[hqt]at hz
 | some jj =>
  have hzz:jj.zero=some (.agg z):=by simpa [hqt] using hz
  unfold Oper.wp execOp;simp[ho,Instr.alloc,zeroValue,typeInfo,hqt,hzz,Value.cells,newVar,newRow,Sem.run_bind,Result.andThen];exact hK' _ _ hK
theorem Kn {ops:Array Oper}{rest:List Oper}{o:Oper}{a:Act}{w:World}{Q:Exit→Act→World→Prop}(ty:TypeId)(x y:Operand)(ho:o.op= .store ty x y)(hgd:Region.wanted o (yielded ops a.tmps)=true)
 {b T n:Nat} {z:Array Value} (h:w.heap[b]?=some (.cells z T (0,0))) (hx:a.eval x= .pointer (some ⟨b,0,none⟩)) (cs:Array Value) (hy:a.eval y= .agg cs) (hi:(P.info? ty).map (·.size)=some n) (hn:cs.size=n) (hz:z.size=n) (h1:∀ u∈cs.toList,u.oneCell'=true)
 (hK:∀ w',w'.heap[b]?=some (.cells cs T (0,0))→w.grownBy w' (some b)→wpList P ops Q rest (a.put o.dst undef) w'):wpList P ops Q (o::rest) a w:=by
 refine AG hgd fun _ hK' => ?_
 obtain⟨w',g1,g2,g3⟩:=DO (P:=P) (b:=b) (T:=T) cs.toList [] z.toList w (by simpa using h) (by simp[hn,hz]) h1;have hs:(storeVar ty ⟨b,0,none⟩ (.agg cs)).run P w= .ok () w':=by
  cases hq:P.info? ty with
  | none=>simp[hq]at hi
  | some i =>
   have hs:i.size=n:=by simpa [hq] using hi
   simp only[List.length_nil]at g1;simp[storeVar,sizeOf,typeInfo,hq,Value.cells,hs,hn,g1]
 unfold Oper.wp execOp;simp only[ho,hx,hy,Instr.storeAt,Instr.sureAddr,Sem.run_bind,Sem.run_pure,Result.andThen_ok,hs];exact hK' _ _ (hK w' (by simpa using g2) g3)
end
theorem Nl (w:World):(Instr.build 132 #[(1,.int .u64 4294967295),(2,.agg (ic (List.replicate 40 2048)))]).run Tryz.prog w= .ok (.agg (ecs Ac.init (.slice none 0 0)).toArray) w:=by
 kernel_rfl
theorem Km {ops:Array Oper}{rest:List Oper}{o:Oper}{a:Act}{w:World}{Q:Exit→Act→World→Prop}(x0 x1:Operand)(ho:o.op= .build 132 #[(1,x0),(2,x1)])(hgd:Region.wanted o (yielded ops a.tmps)=true)
 (q cs:Array Value) (hq:ic (List.replicate 40 2048)=q) (hcs:(ecs Ac.init (.slice none 0 0)).toArray=cs) (e0:a.eval x0= .int .u64 4294967295) (e1:a.eval x1= .agg q)
 (hK:wpList Tryz.prog ops Q rest (a.put o.dst (.agg cs)) w):wpList Tryz.prog ops Q (o::rest) a w:=by
 subst hq hcs;refine AG hgd fun _ hK' => ?_
 unfold Oper.wp execOp;have h:=Nl w;rw[←e0,←e1]at h;simp only[ho,List.map_toArray,List.map_cons,List.map_nil,Sem.run_bind,Sem.run_pure,Result.andThen_ok,h];exact hK' _ _ hK
theorem Ra : ∃ z0:Array Value,(Tryz.prog.info? 132).map (·.zero)=some (some (.agg z0))∧z0.size=43:=⟨(ecs ⟨0,0,[],List.replicate 40 0⟩ (.slice none 0 0)).toArray,by kernel_rfl,rfl⟩
theorem Rc : (Tryz.prog.info? 132).map (·.size)=some 43:=by kernel_rfl
theorem ecsI : ∃ cs:Array Value,(ecs Ac.init (.slice none 0 0)).toArray=cs∧cs.size=43∧∀ u∈cs.toList,u.oneCell'=true:=by
 refine⟨_,rfl,rfl,fun u hu => ?_⟩;simp only[ecs,ch64,Ac.init,List.map_replicate,List.mem_cons,List.mem_append,List.mem_replicate]at hu;rcases hu with rfl|rfl|⟨-,rfl⟩|rfl|hu
 ·rfl
 ·rfl
 ·rfl
 ·rfl
 ·cases hu
theorem Gu (a:Option Addr)(n c H0:Nat)(L:List Int)(w:World)(h:w.ownsRow H0 118 2 (.slice a n c) n (L.map (Value.int .i64)))(hn:n≤2^40):
 Calls Tryz.prog 64 #[.slice a n c] w fun e w'=>∃ a' c',e= .returned (.slice a' (encS L n).length c')∧w'.ownsRow w.heap.size 5 1 (.slice a' (encS L n).length c') (encS L n).length (u8s (encS L n))∧Ext w w':=by
 by_cases hb:Cb L n=true
 ·have hs:encS L n=(Ac.sh 4 (encC (BW L n))).out:=by unfold encS;rw[if_pos hb];rfl
  rw[hs];have Hat:=Aa (It hb);have hn2:=Hat.out.1;have Hb:=Aa hb;have Hh:=Aa h;clear hb hs h;go_enter Tryz.func64,Tryz.ntmps64
  go_wp2_with fail
  refine(Dz a n c H0 L _ Hh.out (by omega)).mono ?_
  rintro e w0 ⟨rfl,E0⟩
  rw[Hb.out];obtain⟨q,hq⟩:∃ q:Array Value,ic (List.replicate 40 2048)=q:=⟨_,rfl⟩;obtain⟨cs,hcs,hcs2,hcs3⟩:=ecsI;obtain⟨z0,hz0,hz1⟩:=Ra;have HN:=JJ;rw[hq]at HN;have Hq:=Aa hq;have Hcs:=Aa (⟨hcs,hcs2,hcs3⟩:_∧_∧_);have Hz:=Aa (⟨hz0,hz1⟩:_∧_);clear hq hcs hcs2 hcs3 hz0 hz1;go_wp2_with fail
  refine(HN _).mono ?_
  rintro e w1 ⟨rfl,e1⟩
  have E1:=E0.trans e1;clear E0 e1 HN;have hO:w.heap.size≤w1.heap.size:=E1.size;have p1:=Aj w1 (.cells z0 132);have E2':=E1.trans (Ext.alloc w1 (.cells z0 132));go_wp2_with (first|(refine Km _ _ rfl rfl q cs Hq.out Hcs.out.1 rfl rfl ?_)|(refine Kl 132 rfl rfl z0 Hz.out.1 ?_)|(refine Kn 132 _ _ rfl rfl p1 rfl cs rfl Rc Hcs.out.2.1 Hz.out.2 Hcs.out.2.2 ?_;intro w2 p2 g2;refine Hid.out ?_))
  have hC0:EM w2 w.heap.size w1.heap.size Ac.init (.slice none 0 0) :=
   ⟨by rw[Hcs.out.1];exact p2,World.ownsRow_nil _ _ _ _,rfl,hO,by have:=g2.size;simp at this;omega⟩
  have E2:Ext w w2:=Ext.grown E2' g2 (fun q hq=>by cases hq;exact hO);clear p1 p2 g2 E2' E1;refine Aa ?_;obtain⟨E,hOe⟩:∃ E,E=w1.heap.size:=⟨_,rfl⟩;rw[←hOe]at hC0 hO⊢;clear hOe;go_wp2_with fail
  go_loopw [13] (fun i wr=>∃(k:Nat) (vo:Value),k≤n∧i= .int .i64 (k:Nat)∧Ext w wr∧EM wr w.heap.size E (encC (BW L k)) vo) (fun i _=>n-(intOf i).toNat)
  case atStart=>exact⟨0,_,by omega,rfl,E2,hC0⟩
  case round =>
   clear hC0 E2;obtain⟨k,vo,hk,rfl,E2,hC⟩:=hrel
   by_cases hlt:k<n
   ·have hr:=Ae Hh.out E2;obtain⟨g,rfl,k0,k1⟩:=Gc hr hlt;have hok:=(Hat.out.2 k hlt);simp only[Dv,decide_eq_true_eq]at hok;obtain⟨X,hX⟩:=Int.eq_ofNat_of_zero_le hok.1.1;obtain⟨B,hB⟩:=Int.eq_ofNat_of_zero_le hok.2.1;have hps:=JO L k;rw[hX,hB]at hok hps;rw[hX]at k0;rw[hB]at k1;have hgd:=Ht (BW L k) (FP (fun j hj=>Hat.out.2 j (by omega)));rw[Eo]at hgd;have hput:=IU (wr.alloc (.cells #[.int .i64 X,.int .i64 B] 118)) w.heap.size E X B _ vo (hC.ext (Ext.alloc _ _)) hgd.1 (by omega) (by omega) (by omega);have E3:=E2.trans (Ext.alloc wr (.cells #[.int .i64 X,.int .i64 B] 118));have Hput:=Aa hput;have Hps:=Aa hps;clear hput hgd hps hok hX hB hr hC E2;go_wp2_with fail
    refine Hput.out.mono ?_
    rintro e w4 ⟨rfl,⟨vo2,hC4⟩,hB4⟩
    have E4:=Below.trans E3 hB4;have HC4:=Aa hC4;clear hC4 hB4 E3;go_wp2;go_roundw
    case rel =>
     refine⟨k+1,vo2,by omega,by go_num,E4,?_⟩;rw[Hps.out];exact HC4.out
    case measure=>simp[intOf];omega
   ·obtain rfl:k=n:=by omega
    have hgd:=Ht (BW L k) (FP Hat.out.2);rw[Eo]at hgd;have hsi:=fun j=>Ac.sh_inv hgd.1.1 (show 0<(encC (BW L k)).span by have:=hgd.1.2.1;omega) j
    have hlen:(encC (BW L k)).out.length≤60000:=by have:=hgd.2;omega
    obtain⟨cE,hcE⟩:∃ q,q=encC (BW L k):=⟨_,rfl⟩;rw[←hcE]at hgd hlen hC;simp only[←hcE]at hsi;have HcE:=Aa hcE;clear hcE;have Hsi:=Aa hsi;clear hgd hsi Hat Hb Hh;go_wp2_with fail
    go_loopw [20] (fun i wr=>∃(j:Nat) (vo:Value),j≤4∧i= .int .i64 (j:Nat)∧Ext w wr∧EM wr w.heap.size E (Ac.sh j cE) vo) (fun i _=>4-(intOf i).toNat)
    case atStart=>exact⟨0,_,by omega,rfl,E2,hC⟩
    case round =>
     clear hC E2;obtain⟨j,vo,hj,rfl,E2,hC⟩:=hrel
     by_cases hlt:j<4
     ·have hsh:=Cz _ w.heap.size E 1 _ vo hC (Hsi.out j).1 (by omega) (by have:=(Hsi.out j).2;omega);have Hsh:=Aa hsh;clear hsh hC;go_wp2_with fail
      refine Hsh.out.mono ?_
      rintro e w4 ⟨rfl,⟨vo2,hC4⟩,hB4⟩
      have E4:=Below.trans E2 hB4;have HC4:=Aa hC4;clear hC4 hB4 E2;go_wp2;go_roundw
      case rel=>exact⟨j+1,vo2,by omega,by go_num,E4,HC4.out⟩
      case measure=>simp[intOf];omega
     ·obtain rfl:j=4:=by omega
      have hd:decide (((4:Nat):Int)<4)=false:=by simp
      obtain⟨bl,k0,k1,k2⟩:=hC.cells;obtain⟨a5,c5,rfl⟩:=Al hC.ro;have HC:=Aa hC.ro;clear hC k0 k1;go_wp2;go_ret
      rw[←HcE.out];exact⟨a5,c5,rfl,HC.out,E2⟩
 ·have hs:encS L n = []:=by unfold encS;rw[if_neg hb]
  rw[hs];have Hb:=Aa (show Cb L n=false by simpa using hb);clear hb hs;go_enter Tryz.func64,Tryz.ntmps64
  go_wp2_with fail
  refine(Dz a n c H0 L _ h hn).mono ?_
  rintro e w0 ⟨rfl,E0⟩
  rw[Hb.out];go_wp2;go_ret
  exact⟨_,_,rfl,World.ownsRow_nil _ _ _ _,E0⟩
end Go.Proofs.YtijnbalgnhigbaaGreatDoor
namespace Go.Proofs.YtijnbalgnhigbaaGreatDoor
open Go.RowKit
attribute [local go_sem] Oper.semAt_some
def LPT (m:Mac)(N0:Nat)(xs0:List Int)(B0 Bx:Nat)(w1:World)(a:Act)(wr:World):Prop:=∃(k:Nat) (ds:List Deferred) (l:List Value),a=⟨l.toArray,ds⟩∧l.length=77∧l[3]?=some (.pointer (some ⟨Bx,0,none⟩))∧l[4]?=some (.pointer (some ⟨Bx+1,0,none⟩))∧l[54]?=some (.agg (ic m.lv))∧l[55]?=some (.int .i64 (k:Nat))∧k≤4∧MK w1.heap.size ds wr∧FX B0 118 Bx w1 wr∧B0≤wr.heap.size∧∃ a c,BB wr Bx (.slice a (N0+lvNT m k) c)∧wr.ownsRow B0 118 2 (.slice a (N0+lvNT m k) c) (N0+lvNT m k) ((xs0++lvBT m k).map (Value.int .i64))
theorem LPT.elim {m:Mac}{N0:Nat}{xs0:List Int}{B0 Bx:Nat}{w1:World}{a:Act}{wr:World}(h:LPT m N0 xs0 B0 Bx w1 a wr):∃(k:Nat) (ds:List Deferred) (f:Nat→Value),a=⟨(f 0::f 1::f 2::(.pointer (some ⟨Bx,0,none⟩))::(.pointer (some ⟨Bx+1,0,none⟩))::f 5::f 6::f 7::f 8::f 9::f 10::f 11::f 12::f 13::f 14::f 15::f 16::f 17::f 18::f 19::f 20::f 21::f 22::f 23::f 24::f 25::f 26::f 27::f 28::f 29::f 30::f 31::f 32::f 33::f 34::f 35::f 36::f 37::f 38::f 39::f 40::f 41::f 42::f 43::f 44::f 45::f 46::f 47::f 48::f 49::f 50::f 51::f 52::f 53::(.agg (ic m.lv))::(.int .i64 (k:Nat))::f 56::f 57::f 58::f 59::f 60::f 61::f 62::f 63::f 64::f 65::f 66::f 67::f 68::f 69::f 70::f 71::f 72::f 73::f 74::f 75::f 76 :: []).toArray,ds⟩∧k≤4∧MK w1.heap.size ds wr∧FX B0 118 Bx w1 wr∧B0≤wr.heap.size∧∃ a c,BB wr Bx (.slice a (N0+lvNT m k) c)∧wr.ownsRow B0 118 2 (.slice a (N0+lvNT m k) c) (N0+lvNT m k) ((xs0++lvBT m k).map (Value.int .i64)):=by
 obtain⟨k,ds,l,rfl,hl,h3,h4,h54,h55,hr⟩:=h;refine⟨k,ds,fun i=>l.getD i undef,?_,hr⟩;have e:=Na l hl;have g3:l.getD 3 undef= .pointer (some ⟨Bx,0,none⟩):=by simp[List.getD,h3]
 have g4:l.getD 4 undef= .pointer (some ⟨Bx+1,0,none⟩):=by simp[List.getD,h4]
 have g54:l.getD 54 undef= .agg (ic m.lv):=by simp[List.getD,h54]
 have g55:l.getD 55 undef= .int .i64 (k:Nat):=by simp[List.getD,h55]
 rw[←g3,←g4,←g54,←g55];exact congrArg (fun z:List Value=>(⟨z.toArray,ds⟩:Act)) e
theorem J5 (v0:Value)(N0:Nat)(xs0:List Int)(m:Mac)(B0:Nat)(w:World)(own:w.ownsRow B0 118 2 v0 N0 (xs0.map (Value.int .i64)))(hB:B0≤w.heap.size)(hN:N0≤100000)(hm:m.ok)(hv:m.valid)(h0:m.kind=2):
 Calls Tryz.prog 63 #[v0,.agg (ic m.zs),.bool true] w fun e w'=>∃ a c,e= .returned (.slice a (N0+Ei m) c)∧w'.ownsRow B0 118 2 (.slice a (N0+Ei m) c) (N0+Ei m) ((xs0++KA m).map (Value.int .i64))∧FR B0 118 w w':=by
 have Hl:=Aa (Mac.zs_len hm);have Hm:=Aa hm;have HV:=Aa hv;have HK2:=Aa h0;obtain⟨a0,c0,rfl⟩:=Al own;obtain⟨Bx,hBx⟩:∃ Bx,Bx=w.heap.size:=⟨_,rfl⟩;have E1:=(Ext.alloc w (.cells #[.slice a0 N0 c0] 88)).trans (Ext.alloc _ (.cells (ic m.zs) 50));have b0:BB ((w.alloc (.cells #[.slice a0 N0 c0] 88)).alloc (.cells (ic m.zs) 50)) Bx (.slice a0 N0 c0):=by rw[hBx];exact(Ext.alloc _ _).blk (Aj w _)
 have I1:=IB.new (w.alloc (.cells #[.slice a0 N0 c0] 88)) 50 m.zs;rw[World.size_alloc,←hBx]at I1;have o0:=Ae own E1;have hB0:B0≤((w.alloc (.cells #[.slice a0 N0 c0] 88)).alloc (.cells (ic m.zs) 50)).heap.size:=by simp;omega
 have hs1:((w.alloc (.cells #[.slice a0 N0 c0] 88)).alloc (.cells (ic m.zs) 50)).heap.size=Bx+2:=by simp[hBx]
 have hBX:B0≤Bx:=by omega
 have hk:=I1.cell (i:=0) (by rw[Mac.zs_len hm];omega);rw[Mac.zs_kind]at hk;have HBx:=Aa hBx;have HS1:=Aa hs1;clear own hm hv h0 hs1;refine Ck 4 Tryz.func63 rfl ?_;simp only[Tryz.ntmps63,List.size_toArray,List.length_cons,List.length_nil,Nat.reduceAdd,Nat.reduceSub,Array.replicate_succ,Array.replicate_zero,List.push_toArray,List.append_toArray,List.nil_append,List.cons_append];go_upto_region 1 with fail
 try simp only[World.size_alloc]
 rw[←hBx];generalize (w.alloc (.cells #[.slice a0 N0 c0] 88)).alloc (.cells (ic m.zs) 50)=w1 at *;clear hBx;have F0:=FX.refl B0 118 Bx w1;obtain⟨N,hN0⟩:∃ N,N=N0:=⟨_,rfl⟩;obtain⟨L,hxs⟩:∃ L,L=xs0:=⟨_,rfl⟩;rw[←hN0]at o0 b0⊢;rw[←hxs]at o0;have HN0:=Aa hN0;have HXS:=Aa hxs;have hNb:N≤100002:=by omega
 clear hN0 hxs;have hk3:=hk;clear hk;go_upto_if 31 with fail
 clear hk3;go_cut []from 31 (fun wx=>∃ a c,FX B0 118 Bx w1 wx∧BB wx Bx (.slice a (N0+mdN m 4) c)∧wx.ownsRow B0 118 2 (.slice a (N0+mdN m 4) c) (N0+mdN m 4) ((xs0++mdL m 4).map (Value.int .i64))∧B0≤wx.heap.size)
 case first =>
  have hke:(m.kind == 1)=false:=by rw[HK2.out];rfl
  have I3:=F0.ib I1 (by decide) (by omega);rw[hke];clear hke;go_wp2_with (refine Ab 46 _ rfl rfl I3 3 4 rfl _ Rp rfl BZ (by rw[Hl.out];omega) _ (by rw[Mac.zs_modes Hm.out]) ?_)
  go_loopw [46] (fun y wr=>∃ k:Nat,k≤4∧y= .int .i64 k∧FX B0 118 Bx w1 wr∧B0≤wr.heap.size∧∃ a c,BB wr Bx (.slice a (N+mdN m k) c)∧wr.ownsRow B0 118 2 (.slice a (N+mdN m k) c) (N+mdN m k) ((L++mdL m k).map (Value.int .i64))) (fun y _=>4-(intOf y).toNat)
  case atStart=>exact⟨0,by omega,rfl,F0,hB0,_,_,b0,by simpa [mdL,mdN] using o0⟩
  case round =>
   obtain⟨k,hk,rfl,F4,hB4,a4,c4,b4,o4⟩:=hrel;clear F0 b0 o0 hB0
   by_cases hlt:k<4
   ·have hd:decide ((k:Int)<4)=true:=by simp;omega
    obtain⟨z,ez,lz⟩:=JI HV.out HK2.out hlt;have HZ:=Aa ez;have hmn:=GU HV.out HK2.out k (by omega);have HLs:=Aa (show mdL m (k+1)=mdL m k++numL z 9 by rw[mdL,ez];simp);have HC:=Aa (show N+mdN m k+numN z=N+mdN m (k+1) by rw[mdN,ez];simp;omega);obtain⟨k0,k1⟩:=b4.cell;clear ez;go_wp2_with (refine AF 46 _ _ rfl rfl m.modes rfl k 4 _ rfl rfl 3 Rp Rt AC hlt Hm.out.modes ?_;rw[HZ.out])
    refine(AR _ (N+mdN m k) (L++mdL m k) z 9 B0 9 rfl _ o4 hB4 (by omega) (by omega) (by omega)).mono ?_
    rintro e w5 ⟨a5,c5,rfl,o5,f5⟩
    rw[HC.out]at o5⊢;have b5:=b4.fr f5;clear k0 k1;obtain⟨k0,k1⟩:=b5.cell;have F6:=(F4.fr f5).set hBX (.slice a5 (N+mdN m (k+1)) c5);have b6:=b5.set (.slice a5 (N+mdN m (k+1)) c5);have o6:=AK (u := .slice a5 (N+mdN m (k+1)) c5) o5 b5;have hB6:B0≤(w5.setCell ⟨Bx,0,none⟩ (.slice a5 (N+mdN m (k+1)) c5)).heap.size:=by have:=Nat.le_trans hB4 f5.size;simpa using this
    clear b5 o5 F4 f5 b4 o4;go_wp2;go_roundw
    case rel=>exact⟨k+1,by omega,by go_num,F6,hB6,_,_,b6,ownc o6 (by rw[HLs.out];simp)⟩
    case measure=>simp[intOf] <;> omega
   ·have HKR:=Aa (show k=4 by omega);have hd:decide ((k:Int)<4)=false:=by simp;omega
    go_wp2;go_meet
    case rel=>exact⟨a4,c4,F4,by rw[show N0+mdN m 4=N+mdN m k by rw[HKR.out,HN0.out]];exact b4,by rw[show N0+mdN m 4=N+mdN m k by rw[HKR.out,HN0.out]];exact ownc o4 (by rw[HKR.out,HXS.out]),hB4⟩
 case rest =>
  obtain⟨a6,c6,F6,b6,o6,hB6⟩:=hcut;have HB1:=Aa (show B0≤w1.heap.size by have:=HS1.out;omega);have HBw:=Aa (show Bx<w1.heap.size by have:=HS1.out;omega);have I5:=F6.ib I1 (by decide) (by omega);go_wp2_with (refine Ab 48 _ rfl rfl I5 7 64 rfl _ Rs rfl Be (by rw[Hl.out];omega) _ (by rw[Mac.zs_lv Hm.out]) ?_)
  refine wp_loop (LPT m N0 xs0 B0 Bx w1) (fun a _=>4-(intOf (a.tmps.getD 55 undef)).toNat) ?lp0 ?lpr
  case lp0=>exact⟨0,[],_,rfl,rfl,rfl,rfl,rfl,rfl,by omega,trivial,F6,hB6,a6,c6,b6,o6⟩
  case lpr =>
   intro a wr hI;obtain⟨k,ds,f,rfl,hk,hM,F7,hB7,a7,c7,b7,o7⟩:=hI.elim;clear hI F6 b6 o6 hB6 I5
   by_cases hlt:k<4
   ·have hd:decide ((k:Int)<4)=true:=by simp;omega
    obtain⟨zs,hzs⟩:∃ zs,zs=sub m.lv (k*16) 16:=⟨_,rfl⟩;obtain⟨l1,l2⟩:=JF Hm.out HV.out hlt;rw[←hzs]at l1 l2;have Hz:=Aa hzs;have Hzl:=Aa l1;have Hzb:=Aa l2;have hbc:=Ew l1 l2;have hln:=I9 Hm.out HV.out HK2.out k (by omega);have HLs:=Aa (show lvBT m (k+1)=lvBT m k++blkB zs by rw[hzs];rfl);have HC:=Aa (show lvNT m (k+1)=lvNT m k+blkC zs by rw[hzs];rfl);have hR:=Dt zs;clear hzs l1 l2;obtain⟨Nk,hNk⟩:∃ q,q=N0+lvNT m k:=⟨_,rfl⟩;obtain⟨Lk,hLk⟩:∃ q,q=xs0++lvBT m k:=⟨_,rfl⟩;rw[←hNk]at b7 o7;rw[←hLk]at o7;have HNk:=Aa hNk;have HLk:=Aa hLk;have hNkb:Nk≤105000:=by omega
    clear hNk hLk;obtain⟨Zb,hZb⟩:∃ q,q=wr.heap.size:=⟨_,rfl⟩;have p0:=IB.new wr 47 (zl 16);go_upto_region 16 with(first|(refine Bg _ _ _ rfl rfl m.lv rfl k 4 16 _ rfl rfl _ _ Rs Rm rfl Ba hlt ?_;rw[←Hz.out])|(refine Au 47 rfl rfl 16 IF ?_;(try simp only[World.size_alloc]))|(refine Af 47 _ _ rfl rfl p0 0 16 rfl _ rfl zs rfl Ba Hzl.out (by simp[zl]) ?_;intro w8 p8 g8;refine Hid.out ?_))
    refine Aa ?_;rw[Ap (by rw[Hzl.out,AB])]at p8;rw[←hZb]at p8 g8⊢;have hsz7:=F7.size;have hbw:=HBw.out;have F8:FX B0 118 Bx w1 w8:=(F7.ext (Ext.alloc wr (.cells (ic (zl 16)) 47)) hB7).grown g8 (fun r e=>by cases e;omega) HB1.out;have b8:BB w8 Bx (.slice a7 Nk c7):=Ar ((Ext.alloc wr (.cells (ic (zl 16)) 47)).blk b7) g8 (by simp;omega);have o8:=(Ae o7 (Ext.alloc wr (.cells (ic (zl 16)) 47))).kept g8 (by
     cases ha:a7 with
     | none=>exact .inl rfl
     | some y=>right;have:=(o7.lt y.block (by rw[ha];rfl)).2;simp[Value.ownBlock];omega)
    have M8:=MK.keep (w':=w8) (fun i o h _=>(g8.block i (by have:=lt_of_block h;simp;omega) (fun e=>by have:=lt_of_block h;cases e;omega)).trans ((Ext.alloc wr (.cells (ic (zl 16)) 47)).blk h)) ds hM;have hB8:B0≤w8.heap.size:=Nat.le_trans HB1.out F8.size;have hZX:Zb≠Bx:=by omega
    have HZb:=Aa hZb;clear p0 g8 F7 b7 o7 hM hB7 hZb;go_upto_region 16 with fail
    have hext:Stab (fun wa wb=>Ext wa wb) (fun i own ys wx=>match i with|0=>own= .slice a7 Nk c7|1=>own= .agg (ic zs)|2=>own= .int .i64 ((Ao zs).length:Nat)|3=>∃(a3:Option Addr) (c3:Nat),own= .slice a3 (Nk+numN (Ao zs).length) c3∧wx.ownsRow B0 118 2 (.slice a3 (Nk+numN (Ao zs).length) c3) (Nk+numN (Ao zs).length) ((Lk++numL (Ao zs).length 16).map (Value.int .i64))|4=>∃(a3:Option Addr) (c3:Nat),BB wx Bx (.slice a3 (Nk+numN (Ao zs).length) c3)∧wx.ownsRow B0 118 2 (.slice a3 (Nk+numN (Ao zs).length) c3) (Nk+numN (Ao zs).length) ((Lk++numL (Ao zs).length 16).map (Value.int .i64))|_=>True):=by
     intro i own ys wa wb e h
     match i,h with
     | 0,h|1,h|2,h=>exact h
     | 3,h=>obtain⟨a9,c9,h1,h2⟩:=h;exact⟨a9,c9,h1,Ae h2 e⟩
     | 4,h=>obtain⟨a9,c9,h1,h2⟩:=h;exact⟨a9,c9,h1.ext e,Ae h2 e⟩
     | _+5,_=>trivial
    have Hext:=Aa hext;clear hext;refine Am (by kernel_rfl) [(58,0),(59,1),(60,2),(61,3)] [[],[],[1],[0,1,2],[0,1,2,3]] (fun i own ys wx=>match i with|0=>own= .slice a7 Nk c7|1=>own= .agg (ic zs)|2=>own= .int .i64 ((Ao zs).length:Nat)|3=>∃(a3:Option Addr) (c3:Nat),own= .slice a3 (Nk+numN (Ao zs).length) c3∧wx.ownsRow B0 118 2 (.slice a3 (Nk+numN (Ao zs).length) c3) (Nk+numN (Ao zs).length) ((Lk++numL (Ao zs).length 16).map (Value.int .i64))|4=>∃(a3:Option Addr) (c3:Nat),BB wx Bx (.slice a3 (Nk+numN (Ao zs).length) c3)∧wx.ownsRow B0 118 2 (.slice a3 (Nk+numN (Ao zs).length) c3) (Nk+numN (Ao zs).length) ((Lk++numL (Ao zs).length 16).map (Value.int .i64))|_=>True) (fun Lx wx=>FX B0 118 Bx w8 wx∧(∃ z,BB wx Bx z∧(Lx 4=false→z= .slice a7 Nk c7))∧(Lx 3=false→wx.ownsRow B0 118 2 (.slice a7 Nk c7) Nk (Lk.map (Value.int .i64)))∧B0≤wx.heap.size) (by kernel_rfl) (by kernel_rfl) (by kernel_rfl) ?g0_r1 ?gop_r1 ?gend_r1
    case g0_r1=>exact⟨(FX.refl B0 118 Bx w8).ext (Ext.drewN _ 1) hB8,⟨_,b8,fun _=>rfl⟩,fun _=>o8,hB8⟩
    case gop_r1 =>
     refine⟨?o0,?o1,?o2,?o3,?o4,trivial⟩ <;> (intro Lx xs wx hG hl ha hb hD hI Qo Kx hK hQo;simp only[Ad,Nat.reduceAdd,Nat.reduceEqDiff,↓reduceIte]at hQo⊢)
     case o0 =>
      have l4:Lx 4=false:=hb 4 rfl;clear hl ha hb hD hI;obtain⟨z,g1,g2⟩:=hG.2.1;obtain rfl:=g2 l4;obtain⟨k0,k1⟩:=g1.cell;go_wp2;exact hK.out _ _ ⟨rfl,hG,kkp⟩
     case o1 =>
      clear hl ha hb hD hI;have zx:=hG.1.ib p8 (by decide) hZX;go_wp2_with (refine Ab 47 _ rfl rfl zx 0 16 rfl _ Rm rfl Ba (by rw[Hzl.out];omega) _ (by rw[Ak _ _ Hzl.out]) ?_)
      exact hK.out _ _ ⟨rfl,hG,kkp⟩
     case o2 =>
      clear hl ha hb;rw[ddq (hD 1 rfl)]at hQo⊢;clear hD hI;go_wp2_with fail
      refine(Ea zs _ Hzl.out 4080 Hzb.out).mono ?_
      rintro e wz ⟨rfl,ez⟩
      go_wp2;obtain⟨z,g1,g2⟩:=hG.2.1;exact hK.out _ _ ⟨rfl,⟨hG.1.ext ez hG.2.2.2,⟨z,g1.ext ez,g2⟩,(fun x=>Ae (hG.2.2.1 x) ez),Nat.le_trans hG.2.2.2 ez.size⟩,fun i _ _ _ own ys h=>Hext.out i own ys _ _ ez h⟩
     case o3 =>
      have l3:Lx 3=false:=hl;clear hl ha hb;rw[ddq (hD 0 rfl),ddq (hD 2 rfl)]at hQo⊢;clear hD hI;go_wp2_with fail
      refine(AR _ Nk Lk (Ao zs).length 16 B0 16 rfl wx (hG.2.2.1 l3) hG.2.2.2 (by omega) (by omega) (by omega)).mono ?_
      rintro e wz ⟨az,cz,rfl,oz,fz⟩
      go_wp2;have hst:∀(wy:World),True→Stbn 5 3 [[],[],[1],[0,1,2],[0,1,2,3]] (fun i own ys wx=>match i with|0=>own= .slice a7 Nk c7|1=>own= .agg (ic zs)|2=>own= .int .i64 ((Ao zs).length:Nat)|3=>∃(a3:Option Addr) (c3:Nat),own= .slice a3 (Nk+numN (Ao zs).length) c3∧wx.ownsRow B0 118 2 (.slice a3 (Nk+numN (Ao zs).length) c3) (Nk+numN (Ao zs).length) ((Lk++numL (Ao zs).length 16).map (Value.int .i64))|4=>∃(a3:Option Addr) (c3:Nat),BB wx Bx (.slice a3 (Nk+numN (Ao zs).length) c3)∧wx.ownsRow B0 118 2 (.slice a3 (Nk+numN (Ao zs).length) c3) (Nk+numN (Ao zs).length) ((Lk++numL (Ao zs).length 16).map (Value.int .i64))|_=>True) wx wy:=by
       intro wy hy ii hii hne hc own ys h
       match ii,h with
       | 0,h|1,h|2,h=>exact h
       | 3,h=>exact absurd rfl hne
       | 4,h=>exact absurd hc (by decide)
       | _+5,_=>trivial
      obtain⟨z,g1,g2⟩:=hG.2.1;exact hK.out _ _ ⟨⟨az,cz,rfl,oz⟩,⟨hG.1.fr fz,⟨z,g1.fr fz,g2⟩,(fun x=>Bool.noConfusion x),Nat.le_trans hG.2.2.2 fz.size⟩,hst _ trivial⟩
     case o4 =>
      clear hl ha hb;have d3:∃(a3:Option Addr) (c3:Nat),(xs 3) = .slice a3 (Nk+numN (Ao zs).length) c3∧wx.ownsRow B0 118 2 (.slice a3 (Nk+numN (Ao zs).length) c3) (Nk+numN (Ao zs).length) ((Lk++numL (Ao zs).length 16).map (Value.int .i64)):=hD 3 rfl;clear hD hI;generalize xs 3=y3 at *;obtain⟨a3,c3,rfl,o3⟩:=d3;obtain⟨z,g1,g2⟩:=hG.2.1;obtain⟨k0,k1⟩:=g1.cell;go_wp2;have hst:∀(wy:World),(∀(v:Value) (n:Nat) (us:List Value),wx.ownsRow B0 118 2 v n us→wy.ownsRow B0 118 2 v n us)→Stbn 5 4 [[],[],[1],[0,1,2],[0,1,2,3]] (fun i own ys wx=>match i with|0=>own= .slice a7 Nk c7|1=>own= .agg (ic zs)|2=>own= .int .i64 ((Ao zs).length:Nat)|3=>∃(a3:Option Addr) (c3:Nat),own= .slice a3 (Nk+numN (Ao zs).length) c3∧wx.ownsRow B0 118 2 (.slice a3 (Nk+numN (Ao zs).length) c3) (Nk+numN (Ao zs).length) ((Lk++numL (Ao zs).length 16).map (Value.int .i64))|4=>∃(a3:Option Addr) (c3:Nat),BB wx Bx (.slice a3 (Nk+numN (Ao zs).length) c3)∧wx.ownsRow B0 118 2 (.slice a3 (Nk+numN (Ao zs).length) c3) (Nk+numN (Ao zs).length) ((Lk++numL (Ao zs).length 16).map (Value.int .i64))|_=>True) wx wy:=by
       intro wy hy ii hii hne hc own ys h
       match ii,h with
       | 0,h|1,h|2,h=>exact h
       | 3,h=>obtain⟨a9,c9,h1,h2⟩:=h;exact⟨a9,c9,h1,hy _ _ _ h2⟩
       | 4,h=>exact absurd rfl hne
       | _+5,_=>trivial
      exact hQo undef _ (hK.out _ _ ⟨⟨a3,c3,g1.set _,AK o3 g1⟩,⟨hG.1.set hBX _,⟨_,g1.set _,(fun x=>Bool.noConfusion x)⟩,(fun x=>AK (hG.2.2.1 x) g1),by simpa using hG.2.2.2⟩,hst _ (fun _ _ _ h=>AK h g1)⟩)
    clear Hext;intro xs wx hV hG0;obtain⟨Lx,hL,hG⟩:=hG0;have l3:Lx 3=true:=hL 3 (by decide);have l4:Lx 4=true:=hL 4 (by decide);clear hL;have d4:∃(a3:Option Addr) (c3:Nat),BB wx Bx (.slice a3 (Nk+numN (Ao zs).length) c3)∧wx.ownsRow B0 118 2 (.slice a3 (Nk+numN (Ao zs).length) c3) (Nk+numN (Ao zs).length) ((Lk++numL (Ao zs).length 16).map (Value.int .i64)):=hV 4 (by decide);clear hV;simp only[Ad,Nat.reduceAdd,Nat.reduceEqDiff,↓reduceIte];generalize xs 0=y0,xs 1=y1,xs 2=y2,xs 3=y3,xs 4=y4 at *
    replace hG:FX B0 118 Bx w8 wx∧(∃ z,BB wx Bx z∧(Lx 4=false→z= .slice a7 Nk c7))∧(Lx 3=false→wx.ownsRow B0 118 2 (.slice a7 Nk c7) Nk (Lk.map (Value.int .i64)))∧B0≤wx.heap.size:=hG
    obtain⟨a4,c4,b4,o4⟩:=d4;have F9:=F8.trans hG.1;have Z9:=hG.1.ib p8 (by decide) hZX;have M9:=MK.ko (hG.1.keepsN b8) ds M8;have hB9:=hG.2.2.2;obtain⟨N9,hN9⟩:∃ q,q=Nk+numN (Ao zs).length:=⟨_,rfl⟩;obtain⟨L9,hL9⟩:∃ q,q=Lk++numL (Ao zs).length 16:=⟨_,rfl⟩;rw[←hN9]at b4 o4;rw[←hL9]at o4;have HN9:=Aa hN9;have HL9:=Aa hL9;have hN9b:N9≤106000:=by have:=Bh (show(Ao zs).length<32768 by omega);omega
    clear hN9 hL9 hG F8 b8 o8 hB8 p8 M8;generalize wx=w9 at *;go_wp2_with (refine Ab 47 _ rfl rfl Z9 0 16 rfl _ Rm rfl Ba (by rw[Hzl.out];omega) _ (by rw[Ak _ _ Hzl.out]) ?_)
    refine(GZ zs _).mono ?_
    rintro e w10 ⟨rfl,rfl⟩
    obtain⟨Ib,hIb⟩:∃ q,q=w9.heap.size:=⟨_,rfl⟩;have IL:=IB.new w9 47 zs;have eL:=Ext.alloc w9 (.cells (ic zs) 47);have F10:=F9.ext eL hB9;have b10:=b4.ext eL;have o10:=Ae o4 eL;have M10:=MK.ko (KeepsOthers.alloc w9 (.cells (ic zs) 47)) ds M9;have hsL:(w9.alloc (.cells (ic zs) 47)).heap.size=Ib+1:=by simp[hIb]
    have hsz9:=F9.size;rw[←hIb]at IL⊢;generalize w9.alloc (.cells (ic zs) 47)=wL at *;have hB10:B0≤wL.heap.size:=by omega
    have HSL:=Aa hsL;have hIL:Ib<wL.heap.size:=by omega
    have hbL:Bx<wL.heap.size:=by omega
    have hbI:Bx<Ib:=by omega
    clear hsL eL F9 Z9 M9 hB9 b4 o4 hIb;go_upto_region 99 with fail
    refine(wpIn_wide (n:=4)).1 ?_;refine wpIn_rangeFunc_ownH rfl (by omega) (gf:=139) (lb := #[.pointer (some ⟨Ib,0,none⟩)]) rfl trivial (enters_of Tryz.func139 (by kernel_rfl) rfl)
     (G5 3 (by omega) Ib zs 4080 Hzl.out Hzb.out wL IL) keepB.t (keepB.b hIL) (Below.refl _ _) (fun _=>rfl)
     (fun pre W=>RI B0 Bx wL Ib zs N9 L9 pre W) (fun _ _ _=>False) (RI.own hB10) (fun _ _ _ _ _ h _ _=>h) ⟨FX.refl _ _ _ _,IL,_,_,b10,by simpa [rcL,rcN] using o10⟩ (AX Bx wL) (AX.own Bx wL) ?assign ?body ?done ?stop
    case assign =>
     intro l pre x W K hI hK;simp[encR]
     gi_wp2
     have e:=Ext.alloc W (.cells #[.int .i64 x.1.1,.int .i64 x.1.2] 125);exact hK _ _ ((KeepsOthers.alloc _ _).from _) ((e.blk hI.ib).trans hI.ib.symm) (hI.ext e hB10) ⟨W.heap.size,_,hI.fx.size,Aj _ _,rfl,rfl,rfl,rfl⟩
    case body =>
     rintro l pre x a' W hl ⟨r,hr⟩ hI hAX hlen
     obtain⟨Rx,f,hRx,bR,rfl⟩:=hAX.elim;obtain⟨fx,ib,aW,cW,bW,oW⟩:=hI;obtain⟨zz,ss,ez,lz,es,ls,v1,v2⟩:=Nj x;have hcount:=Ni pre;have HCN:=Aa (show N9+rcN ((pre ++ [x]).map (·.1))=N9+rcN (pre.map (·.1))+numN zz+numN ss by rw[List.map_append,List.map_cons,List.map_nil,Ik,ez,es];simp;omega);have HCL:=Aa (show L9++rcL ((pre ++ [x]).map (·.1))=L9++rcL (pre.map (·.1))++numL zz 23++numL ss 30 by rw[List.map_append,List.map_cons,List.map_nil,Ij,ez,es];simp);obtain⟨NW,hNW⟩:∃ q,q=N9+rcN (pre.map (·.1)):=⟨_,rfl⟩;obtain⟨LW,hLW⟩:∃ q,q=L9++rcL (pre.map (·.1)):=⟨_,rfl⟩;rw[←hNW]at bW oW HCN;rw[←hLW]at oW HCL;have hNWb:NW≤107000:=by omega
     obtain⟨lv,hlv⟩:∃ q,q=x.1.2:=⟨_,rfl⟩;rw[←hlv]at bR es v1 v2;rw[ez]at bR;have HE:=Aa es;have hBW:B0≤W.heap.size:=Nat.le_trans hB10 fx.size;have hRX:Rx≠Bx:=by omega
     have hIX:Ib≠Bx:=by omega
     have q1:=Bh (show zz<32768 by omega);clear hNW hLW hlv ez es hcount hAX;obtain⟨k0,k1⟩:=bW.cell;obtain⟨-,r0,r1,-⟩:=bx2 bR
     gi_wp2_with fail
     refine⟨trivial,?_⟩;refine(CallsIn.inRound _ (callsIn_wide.2 (AR _ NW LW zz 23 B0 23 rfl _ oW hBW (by omega) (by omega) (by omega)))).mono ?_
     rintro e w5 ⟨a5,c5,rfl,o5,f5⟩
     obtain⟨NZ,hNZ⟩:∃ q,q=NW+numN zz:=⟨_,rfl⟩;obtain⟨LZ,hLZ⟩:∃ q,q=LW++numL zz 23:=⟨_,rfl⟩;rw[←hNZ]at o5 HCN⊢;rw[←hLZ]at o5 HCL;have hNZb:NZ≤108000:=by omega
     clear hNZ hLZ;have b5:=bW.fr f5;clear k0 k1 r0 r1;obtain⟨k0,k1⟩:=b5.cell;have FA:=((FX.refl B0 118 Bx W).fr f5).set hBX (.slice a5 NZ c5);have b6:=b5.set (.slice a5 NZ c5);have o6:=AK (u := .slice a5 NZ c5) o5 b5;have hB6:B0≤(w5.setCell ⟨Bx,0,none⟩ (.slice a5 NZ c5)).heap.size:=Nat.le_trans hBW FA.size;have bR6:=FA.ot _ _ bR (fun cs fr e=>by cases e) hRX
     gi_wp2_with fail
     generalize w5.setCell ⟨Bx,0,none⟩ (.slice a5 NZ c5)=w6 at *;clear k0 k1 b5 o5 f5 oW;refine Es (by kernel_rfl) (by kernel_rfl) [(69,0),(70,1),(71,2),(72,3),(73,4),(74,5)] [[],[],[1],[1,2],[1,2,3],[0,1,2,3,4],[0,1,2,3,4,5]] (fun i own ys wx=>match i with|0=>own= .slice a5 NZ c5|1=>own= .pointer (some ⟨Rx,1,none⟩)|2=>own= .int .i64 lv|3=>own= .int .i64 ((ss:Int)+1)|4=>own= .int .i64 (ss:Nat)|5=>∃(a3:Option Addr) (c3:Nat),own= .slice a3 (NZ+numN ss) c3∧wx.ownsRow B0 118 2 (.slice a3 (NZ+numN ss) c3) (NZ+numN ss) ((LZ++numL ss 30).map (Value.int .i64))|6=>∃(a3:Option Addr) (c3:Nat),BB wx Bx (.slice a3 (NZ+numN ss) c3)∧wx.ownsRow B0 118 2 (.slice a3 (NZ+numN ss) c3) (NZ+numN ss) ((LZ++numL ss 30).map (Value.int .i64))|_=>True) (fun Lx wx=>FX B0 118 Bx w6 wx∧(∃ z,BB wx Bx z∧(Lx 6=false→z= .slice a5 NZ c5))∧(Lx 5=false→wx.ownsRow B0 118 2 (.slice a5 NZ c5) NZ (LZ.map (Value.int .i64)))∧B0≤wx.heap.size) (by kernel_rfl) (by kernel_rfl) (by kernel_rfl) ?g0_r2 ?gop_r2 ?gend_r2
     case g0_r2=>exact⟨(FX.refl B0 118 Bx w6).ext (Ext.drewN _ 1) hB6,⟨_,b6,fun _=>rfl⟩,fun _=>o6,hB6⟩
     case gop_r2 =>
      refine⟨?o0,?o1,?o2,?o3,?o4,?o5,?o6,trivial⟩ <;> (intro Lx xs wx hG hl ha hb hD hI Qo Kx hK hQo;simp only[Ad,Nat.reduceAdd,Nat.reduceEqDiff,↓reduceIte]at hQo⊢)
      case o0 =>
       have l6:Lx 6=false:=hb 6 rfl;clear hl ha hb hD hI;obtain⟨z,g1,g2⟩:=hG.2.1;obtain rfl:=g2 l6;obtain⟨k0,k1⟩:=g1.cell;go_wp2;exact hK.out _ _ ⟨rfl,hG,kkp⟩
      case o1 =>
       clear hl ha hb hD hI;go_wp2;exact hK.out _ _ ⟨rfl,hG,kkp⟩
      case o2 =>
       clear hl ha hb;rw[ddq (hD 1 rfl)]at hQo⊢;clear hD hI;have bx:=hG.1.ot _ _ bR6 (fun cs fr e=>by cases e) hRX;obtain⟨-,r0,r1,-⟩:=bx2 bx;go_wp2;exact hK.out _ _ ⟨rfl,hG,kkp⟩
      case o3 =>
       clear hl ha hb;rw[ddq (hD 2 rfl)]at hQo⊢;clear hD hI;go_wp2_with fail
       refine(BG lv _ (by omega) (by omega)).mono ?_
       rintro e wz ⟨rfl,rfl⟩
       rw[show Value.int .i64 (sidx lv)=Value.int .i64 ((ss:Int)+1) by rw[←HE.out];congr 1;omega];go_wp2;exact hK.out _ _ ⟨rfl,hG,kkp⟩
      case o4 =>
       clear hl ha hb;rw[ddq (hD 3 rfl)]at hQo⊢;clear hD hI;go_wp2;exact hK.out _ _ ⟨by first|rfl|(congr 1;omega),hG,fun _ _ _ _ _ _ h=>h⟩
      case o5 =>
       have l5:Lx 5=false:=hl;clear hl ha hb;rw[ddq (hD 0 rfl),ddq (hD 4 rfl)]at hQo⊢;clear hD hI;go_wp2_with fail
       refine(AR _ NZ LZ ss 30 B0 30 rfl wx (hG.2.2.1 l5) hG.2.2.2 (by omega) (by omega) (by omega)).mono ?_
       rintro e wz ⟨az,cz,rfl,oz,fz⟩
       go_wp2;have hst:∀(wy:World),True→Stbn 7 5 [[],[],[1],[1,2],[1,2,3],[0,1,2,3,4],[0,1,2,3,4,5]] (fun i own ys wx=>match i with|0=>own= .slice a5 NZ c5|1=>own= .pointer (some ⟨Rx,1,none⟩)|2=>own= .int .i64 lv|3=>own= .int .i64 ((ss:Int)+1)|4=>own= .int .i64 (ss:Nat)|5=>∃(a3:Option Addr) (c3:Nat),own= .slice a3 (NZ+numN ss) c3∧wx.ownsRow B0 118 2 (.slice a3 (NZ+numN ss) c3) (NZ+numN ss) ((LZ++numL ss 30).map (Value.int .i64))|6=>∃(a3:Option Addr) (c3:Nat),BB wx Bx (.slice a3 (NZ+numN ss) c3)∧wx.ownsRow B0 118 2 (.slice a3 (NZ+numN ss) c3) (NZ+numN ss) ((LZ++numL ss 30).map (Value.int .i64))|_=>True) wx wy:=by
        intro wy hy ii hii hne hc own ys h
        match ii,h with
        | 0,h|1,h|2,h|3,h|4,h=>exact h
        | 5,h=>exact absurd rfl hne
        | 6,h=>exact absurd hc (by decide)
        | _+7,_=>trivial
       obtain⟨z,g1,g2⟩:=hG.2.1;exact hK.out _ _ ⟨⟨az,cz,rfl,oz⟩,⟨hG.1.fr fz,⟨z,g1.fr fz,g2⟩,(fun x=>Bool.noConfusion x),Nat.le_trans hG.2.2.2 fz.size⟩,hst _ trivial⟩
      case o6 =>
       clear hl ha hb;have d5:∃(a3:Option Addr) (c3:Nat),(xs 5) = .slice a3 (NZ+numN ss) c3∧wx.ownsRow B0 118 2 (.slice a3 (NZ+numN ss) c3) (NZ+numN ss) ((LZ++numL ss 30).map (Value.int .i64)):=hD 5 rfl;clear hD hI;generalize xs 5=y5 at *;obtain⟨a3,c3,rfl,o3⟩:=d5;obtain⟨z,g1,g2⟩:=hG.2.1;obtain⟨k0,k1⟩:=g1.cell;go_wp2;have hst:∀(wy:World),(∀(v:Value) (n:Nat) (us:List Value),wx.ownsRow B0 118 2 v n us→wy.ownsRow B0 118 2 v n us)→Stbn 7 6 [[],[],[1],[1,2],[1,2,3],[0,1,2,3,4],[0,1,2,3,4,5]] (fun i own ys wx=>match i with|0=>own= .slice a5 NZ c5|1=>own= .pointer (some ⟨Rx,1,none⟩)|2=>own= .int .i64 lv|3=>own= .int .i64 ((ss:Int)+1)|4=>own= .int .i64 (ss:Nat)|5=>∃(a3:Option Addr) (c3:Nat),own= .slice a3 (NZ+numN ss) c3∧wx.ownsRow B0 118 2 (.slice a3 (NZ+numN ss) c3) (NZ+numN ss) ((LZ++numL ss 30).map (Value.int .i64))|6=>∃(a3:Option Addr) (c3:Nat),BB wx Bx (.slice a3 (NZ+numN ss) c3)∧wx.ownsRow B0 118 2 (.slice a3 (NZ+numN ss) c3) (NZ+numN ss) ((LZ++numL ss 30).map (Value.int .i64))|_=>True) wx wy:=by
        intro wy hy ii hii hne hc own ys h
        match ii,h with
        | 0,h|1,h|2,h|3,h|4,h=>exact h
        | 5,h=>obtain⟨a9,c9,h1,h2⟩:=h;exact⟨a9,c9,h1,hy _ _ _ h2⟩
        | 6,h=>exact absurd rfl hne
        | _+7,_=>trivial
       exact hQo undef _ (hK.out _ _ ⟨⟨a3,c3,g1.set _,AK o3 g1⟩,⟨hG.1.set hBX _,⟨_,g1.set _,(fun x=>Bool.noConfusion x)⟩,(fun x=>AK (hG.2.2.1 x) g1),by simpa using hG.2.2.2⟩,hst _ (fun _ _ _ h=>AK h g1)⟩)
     intro xs wx hV hG0;obtain⟨Lx,hL,hG⟩:=hG0;have l5:Lx 5=true:=hL 5 (by decide);have l6:Lx 6=true:=hL 6 (by decide);clear hL;have d6:∃(a3:Option Addr) (c3:Nat),BB wx Bx (.slice a3 (NZ+numN ss) c3)∧wx.ownsRow B0 118 2 (.slice a3 (NZ+numN ss) c3) (NZ+numN ss) ((LZ++numL ss 30).map (Value.int .i64)):=hV 6 (by decide);clear hV;simp only[Ad,Nat.reduceAdd,Nat.reduceEqDiff,↓reduceIte];generalize xs 0=y0,xs 1=y1,xs 2=y2,xs 3=y3,xs 4=y4,xs 5=y5,xs 6=y6 at *
     replace hG:FX B0 118 Bx w6 wx∧(∃ z,BB wx Bx z∧(Lx 6=false→z= .slice a5 NZ c5))∧(Lx 5=false→wx.ownsRow B0 118 2 (.slice a5 NZ c5) NZ (LZ.map (Value.int .i64)))∧B0≤wx.heap.size:=hG
     obtain⟨a4,c4,b4,o4⟩:=d6
     gi_wp2
     have FT:=FA.trans hG.1;exact⟨(FT.keepsN bW).from _,(FT.ib ib (by decide) hIX).trans ib.symm,fx.trans FT,FT.ib ib (by decide) hIX,_,_,by rw[HCN.out];exact b4,by rw[HCN.out,HCL.out];exact o4⟩
    case done =>
     rintro D ys W hD hS hI hK
     obtain⟨fx,ib,aW,cW,bW,oW⟩:=hI;have hS2:ys.map (·.1)=Ao zs:=hS;rw[hS2]at bW oW;obtain⟨u1,u2⟩:=OY zs;have HCN:N9+rcN (Ao zs)=N0+lvNT m (k+1):=by rw[HC.out,HN9.out,HNk.out,u2];omega
     have HCL:L9++rcL (Ao zs)=xs0++lvBT m (k+1):=by rw[HLs.out,HL9.out,HLk.out,u1];simp
     rw[HCN]at bW oW;rw[HCL]at oW;have hszL:=F10.size;have hszW:=fx.size;clear HCN HCL u1 u2 hS hS2;go_wp2;refine⟨⟨k+1,_::ds,_,rfl,rfl,rfl,rfl,rfl,by simp,by omega,⟨D,rfl,by omega,hK,fun d' hd'=>MK.lt ds M10 d' hd' D hD,MK.ko (fx.keepsN b10) ds M10⟩,F10.trans fx,by omega,aW,cW,bW,oW⟩,?_⟩;simp[intOf];omega
    case stop =>
     rintro D c pre W _ _ h _
     exact h.elim
   ·have HKR:=Aa (show k=4 by omega);have hd:decide ((k:Int)<4)=false:=by simp;omega
    obtain⟨k0,k1⟩:=b7.cell;have H1:=Aa (show N0+lvNT m k=N0+Ei m by rw[HKR.out];rfl);have H2:=Aa (show xs0++lvBT m k=xs0++KA m by rw[HKR.out];rfl);rw[H1.out,H2.out]at o7;rw[H1.out]at b7 k0;go_wp2;show LeavesInM Fence.wide 4 _ _ _ _ ds .returning wr;refine Iz (lo:=w1.heap.size) (fun W=>FX B0 118 Bx w1 W∧W.ownsRow B0 118 2 (.slice a7 (N0+Ei m) c7) (N0+Ei m) ((xs0++KA m).map (Value.int .i64))) ?_ ?_ ds wr hM ⟨F7,o7⟩
    ·rintro W D hD hk ⟨h1,h2⟩
     exact⟨h1.grown (grownBy_putObj' W D _) (fun r e=>by cases e;exact hD) HB1.out,Ng (n:=w1.heap.size) h2 (grownBy_putObj' W D _) (fun r e=>by cases e;exact⟨hD,_,hk,rfl⟩)⟩
    ·rintro W ⟨h1,h2⟩
     exact⟨_,results_tmp rfl _ _ _,a7,c7,rfl,h2,⟨(E1.mono hB).trans h1.lo,fun i o h3 h4=>h1.ot i o (E1.blk h3) h4 (by have:=lt_of_block h3;have:=HBx.out;omega)⟩⟩
end Go.Proofs.YtijnbalgnhigbaaGreatDoor
namespace Go.Proofs.YtijnbalgnhigbaaGreatDoor
open Go.RowKit
theorem Jq (v0:Value)(N0:Nat)(xs0:List Int)(m:Mac)(intra:Bool)(B0:Nat)(w:World)(own:w.ownsRow B0 118 2 v0 N0 (xs0.map (Value.int .i64)))(hB:B0≤w.heap.size)(hN:N0≤100000)(hm:m.ok)(h:mbOk m intra):
 Calls Tryz.prog 63 #[v0,.agg (ic m.zs),.bool intra] w fun e w'=>∃ a c,e= .returned (.slice a (N0+mbN m intra) c)∧w'.ownsRow B0 118 2 (.slice a (N0+mbN m intra) c) (N0+mbN m intra) ((xs0++mbL m intra).map (Value.int .i64))∧FR B0 118 w w':=by
 cases intra with
 | true=>exact J5 v0 N0 xs0 m B0 w own hB hN hm h.1 (h.2 rfl)
 | false =>
  by_cases h0:m.kind=0
  ·exact Eb v0 N0 xs0 m B0 w own hB hN hm h0
  ·exact Ec v0 N0 xs0 m B0 w own hB hN hm h.1 h0
theorem Dd (a:Option Addr)(n c:Nat)(ms:Nat→Mac)(intra:Bool)(w:World)(R:MR w a n ms)(hok:IN ms intra n):
 Calls Tryz.prog 26 #[.slice a n c,.bool intra] w fun e w'=>∃ a' c',e= .returned (.slice a' (slcL ms intra n).length c')∧w'.ownsRow w.heap.size 5 1 (.slice a' (slcL ms intra n).length c') (slcL ms intra n).length (u8s (slcL ms intra n))∧Ext w w':=by
 obtain⟨⟨hn1,hn4⟩,hall⟩:=hok;have Hs:=Aa (show slcL ms intra n=encS (sliL ms intra n) (sliN ms intra n) by unfold slcL;rw[if_pos ⟨⟨hn1,hn4⟩,hall⟩]);have Hall:=Aa hall;have HR:=Aa R;have oA:=World.ownsRow_nil w w.heap.size 118 2;clear hall R;go_enter Tryz.func26,Tryz.ntmps26
 go_wp2_with fail
 go_loopw [5,18] (fun v i wr=>∃ k:Nat,k≤n∧i= .int .i64 (k:Nat)∧Ext w wr∧sliN ms intra k≤k*5000∧wr.ownsRow w.heap.size 118 2 v (sliN ms intra k) ((sliL ms intra k).map (Value.int .i64))) (fun _ i _=>n-(intOf i).toNat)
 case atStart=>exact⟨0,by omega,rfl,Below.refl _ _,Nat.zero_le _,oA⟩
 case round =>
  obtain⟨k,hk,rfl,E2,hsum,o2⟩:=hrel;clear oA;obtain⟨al,cl,rfl⟩:=Al o2;have hs2:=E2.size
  by_cases hlt:k<n
  ·obtain⟨hmok,b,off,rfl,hcs⟩:=HR.out.ext E2 k hlt;have hzl:=Mac.zs_len hmok;have hmb:=Hall.out k hlt;obtain⟨m,hm⟩:∃ m,m=ms k:=⟨_,rfl⟩;rw[←hm]at hcs hmok hzl hmb;have hb:=Pr hmok hmb;have Hcs:=Aa hcs;have Hok:=Aa hmok;have Hzl:=Aa hzl;have Hmb:=Aa hmb;have HL:=Aa (show sliL ms intra (k+1)=sliL ms intra k++mbL m intra by rw[hm];rfl);have HN:=Aa (show sliN ms intra k+mbN m intra=sliN ms intra (k+1) by rw[hm];rfl);obtain⟨N2,hN2⟩:∃ N2,N2=sliN ms intra k:=⟨_,rfl⟩;rw[←hN2]at o2 hsum HN⊢;obtain⟨M2,hM2⟩:∃ M2,M2=mbN m intra:=⟨_,rfl⟩;rw[←hM2]at hb HN;have HM2:=Aa hM2;clear hm hcs hmok hzl hmb hN2 hM2;have Z1:=IB.new wr 50 (zl 71);have e1:=Ext.alloc wr (.cells (ic (zl 71)) 50);go_wp2_with (first|(refine Fc 50 _ rfl rfl Hcs.out Hzl.out rfl _ Ro rfl Ah ?_)|(refine Au 50 rfl rfl 71 Bf ?_;(try simp only[World.size_alloc]))|(refine Af 50 _ _ rfl rfl Z1 0 71 rfl _ rfl m.zs rfl Ah Hzl.out (by simp[zl]) ?_;intro w3 q3 g3;refine Hid.out ?_))
   rw[Ap (by rw[AB,Hzl.out])]at q3;have e3:Ext wr w3:=Ext.grown e1 g3 (fun q hq=>by cases hq;exact Nat.le_refl _);have o3:=Ae o2 e3;have E3:=E2.trans e3;clear Z1 e1 g3 o2;obtain⟨q,hq⟩:∃ q,q=wr.heap.size:=⟨_,rfl⟩;rw[←hq]at q3⊢;clear hq;refine Aa ?_;have hkd:(if intra=true then decide (m.kind=2)else true)=true:=by
    cases intra with
    | true=>simpa using Hmb.out.2 rfl
    | false=>rfl
   have kd:=q3.cell (i:=0) (by rw[Hzl.out];omega);rw[Mac.zs_kind]at kd;go_wp2_with (refine Ab 50 _ rfl rfl q3 0 71 rfl _ Ro rfl Ah (by rw[Hzl.out];omega) _ (by rw[Ak _ _ Hzl.out]) ?_)
   refine(De m _ Hok.out).mono ?_
   rintro e w4 ⟨rfl,e4⟩
   rw[decide_eq_true Hmb.out.1];have q4:=q3.ext e4;have o4:=Ae o3 e4;have E4:=E3.trans e4;have kd4:=AI e4 kd;have hs4:=E4.size;clear q3 o3 E3 e4 kd e3;cases intra
   case' true =>
    have hk2:m.kind=2:=Hmb.out.2 rfl;rw[hk2]at kd4;clear hk2
   all_goals
    clear hkd;go_wp2_with (refine Ab 50 _ rfl rfl q4 0 71 rfl _ Ro rfl Ah (by rw[Hzl.out];omega) _ (by rw[Ak _ _ Hzl.out]) ?_)
    refine(Jq _ N2 _ m _ w.heap.size _ o4 hs4 (by omega) Hok.out Hmb.out).mono ?_;rw[←HM2.out]
    rintro e w5 ⟨a5,c5,rfl,o5,f5⟩
    have E5:=f5.ext E4 (Nat.le_refl _);have o6:=ownc o5 (show _=(sliL ms _ (k+1)).map (Value.int .i64) by rw[HL.out]);rw[HN.out]at o6⊢;clear o5 f5 E4 o4 q4 kd4;go_wp2;go_roundw
    case rel=>exact⟨k+1,by omega,by go_num,E5,by have:=HN.out;omega,o6⟩
    case measure=>simp[intOf] <;> omega
  ·obtain rfl:k=n:=by omega
   go_wp2_with fail
   refine(Gu al _ cl w.heap.size _ _ o2 (by omega)).mono ?_
   rintro e w4 ⟨a4,c4,rfl,o4,e4⟩
   have E4:=E2.trans e4;have o5:=AH o4 hs2;clear o4 e4 E2 o2;go_wp2;go_ret
   rw[Hs.out];exact⟨_,_,rfl,o5,E4⟩
theorem Oo (zs ys:List Int)(off:Nat)(h:off+zs.length≤ys.length):(ic zs).zipIdx.foldl (fun cs (x:Value×Nat)=>cs.setIfInBounds (off+x.2) x.1) (ic ys)=ic (spl ys off zs):=by
 have key:∀(zs ys:List Int) (k:Nat),off+k+zs.length≤ys.length→((zs.map (Value.int .i64)).zipIdx k).foldl (fun cs (x:Value×Nat)=>cs.setIfInBounds (off+x.2) x.1) (ic ys)=ic (spl ys (off+k) zs):=by
  intro zs
  induction zs with
  | nil=>intro ys k _;simp[Lm]
  | cons z zs ih =>
   intro ys k hk;simp only[List.length_cons]at hk;rw[List.map_cons,List.zipIdx_cons,List.foldl_cons];have e:(ic ys).setIfInBounds (off+k) (.int .i64 z)=ic (ys.set (off+k) z):=by simp[ic,List.map_set]
   rw[e,ih _ _ (by simp;omega),show off+(k+1)=off+k+1 by omega,JX (by omega)]
 have:=key zs ys 0 (by omega);rw[Nat.add_zero]at this;rw[←this,←Array.foldl_toList];simp[ic]
theorem MC {place:Nat→Option (Nat×Nat)}{i off size:Nat}{zs ys:List Int}(rest:List (Nat×Value))(hp:place i=some (off,size))(hz:zs.length=size)(h:off+size≤ys.length):
 Instr.fill place (ic ys) ((i,.agg (ic zs))::rest)=Instr.fill place (ic (spl ys off zs)) rest:=by
 have hs:=Oo zs ys off (by omega);have e:Instr.fill place (ic ys) ((i,.agg (ic zs))::rest)=if(ic zs).size≠size || off+(ic zs).size>(ic ys).size then none else Instr.fill place ((ic zs).zipIdx.foldl (fun cs (x:Value×Nat)=>cs.setIfInBounds (off+x.2) x.1) (ic ys)) rest:=by
  rw[Instr.fill,hp];rfl
 rw[e,if_neg (by simp[AJ];omega),hs]
theorem Rf : (Array.range (1*71)).map (fun i=>Tryz.zeroCells50[i%Tryz.zeroCells50.size]!)=ic (zl 71):=by kernel_rfl
theorem NL : ∃ i,Tryz.prog.info? 50=some i∧i.zero=some (.agg Tryz.zeroCells50)∧i.size=71∧i.bytes=568:=by
 have:(Tryz.prog.info? 50).map (fun i=>(i.zero,i.size,i.bytes))=some (some (.agg Tryz.zeroCells50),71,568):=by kernel_rfl
 cases hq:Tryz.prog.info? 50 with
 | none=>rw[hq]at this;simp at this
 | some i=>rw[hq]at this;simp at this;exact⟨i,rfl,this.1,this.2.1,this.2.2⟩
theorem Nu : (Value.agg Tryz.zeroCells50).cells.size=71:=by kernel_rfl
theorem Qn (w:World)(z0:List Int)(h0:z0.length=71):
 (Instr.buildSlice 43 1 #[(0,.agg (ic z0))]).run Tryz.prog w= .ok (.slice (some ⟨w.heap.size,0,none⟩) 1 1) (w.alloc (.cells (ic z0) 50)):=by
 obtain⟨i,hi,hz,hs,-⟩:=NL;have hspl:spl (zl 71) 0 z0=z0:=by unfold spl;rw[h0];simp[zl]
 have hf:Instr.fill (fun i=>some (i*71,71)) ((Array.range (1*71)).map (fun i=>Tryz.zeroCells50[i%Tryz.zeroCells50.size]!)) [(0,.agg (ic z0))]=some (ic z0):=by
  rw[Rf,MC _ rfl h0 (by rw[AB];omega),Nat.zero_mul,hspl];rfl
 have hsz:(sizeOf 50).run Tryz.prog w= .ok 71 w:=by simp[sizeOf,typeInfo,hi,hs]
 have hzv:(zeroValue 50).run Tryz.prog w= .ok (.agg Tryz.zeroCells50) w:=by simp[zeroValue,typeInfo,hi,hz]
 unfold Instr.buildSlice;rw[Sem.run_bind,run_underlying Tryz.underlying43 w,Result.andThen_ok];show Sem.run _ (do let size ←sizeOf 50;_) w=_;rw[Sem.run_bind,hsz,Result.andThen_ok,if_neg (by decide),if_neg (by decide)];simp only[Sem.run_bind,hzv,Result.andThen_ok,Sem.run_pure,Value.cells];rw[hf];rfl
theorem Fb {ops:Array Oper}{rest:List Oper}{o:Oper}{a:Act}{w:World}{Q:Exit→Act→World→Prop}(x0:Operand)(ho:o.op= .buildSlice 43 1 #[(0,x0)])(hgd:Region.wanted o (yielded ops a.tmps)=true)
 (z0:List Int) (e0:a.eval x0= .agg (ic z0)) (h0:z0.length=71)
 (hK:wpList Tryz.prog ops Q rest (a.put o.dst (.slice (some ⟨w.heap.size,0,none⟩) 1 1)) (w.alloc (.cells (ic z0) 50))):wpList Tryz.prog ops Q (o::rest) a w:=by
 refine AG hgd fun _ hK' => ?_
 unfold Oper.wp execOp;have h:=Qn w z0 h0;rw[←e0]at h;simp only[ho,List.map_toArray,List.map_cons,List.map_nil,Sem.run_bind,Sem.run_pure,Result.andThen_ok,h];exact hK' _ _ hK
theorem Dp (wr:World){ops:Array Oper}{rest:List Oper}{o:Oper}{a:Act}{Q:Exit→Act→World→Prop}{base:Nat}{v:Value}{n:Nat}{xs:List Value}
 (hown:wr.ownsRow base 50 71 v n xs) (hbase:base≤wr.heap.size) (zs:List Int) (hz:zs.length=71)
 (hg:o.guard=none) (s x:Operand) (ho:o.op= .call { callee := .builtin .append,args := #[s,x],argTypes := #[43,43] })
 (hs:a.eval s=v) (hx:a.eval x= .slice (some ⟨wr.heap.size,0,none⟩) 1 1) (hn:n<2^30)
 (h:∀ v' w',w'.ownsRow base 50 71 v' (n+1) (xs++zs.map (Value.int .i64))→wr.grownBy w' v.ownBlock→wpList Tryz.prog ops Q rest (a.put o.dst v') w'):wpList Tryz.prog ops Q (o::rest) a (wr.alloc (.cells (ic zs) 50)):=by
 obtain⟨i0,hi,hz0,hz1,hz2⟩:=NL;refine wpList_append_own _ hg s x 43 ho base 50 i0 _ 71 568 Tryz.underlying43 hi hz0 hz1 hz2 Nu (by decide) v n xs hs (hown.alloc _) ⟨wr.heap.size,0,none⟩ 1 1 (zs.map (Value.int .i64)) hx (by simp[hz]) ?_ (by intro u hu;obtain⟨z,-,rfl⟩:=List.mem_map.1 hu;rfl) (by unfold maxLen;omega) (by omega) (by simp;omega) ?_
 ·intro j q hq;have hj:j<zs.length:=by
   have:=(List.getElem?_eq_some_iff.1 hq).1
   simpa using this
  rw[Addr.add_lit,Nat.zero_add,(IB.new wr 50 zs).cell hj];have e:(zs.map (Value.int .i64))[j]?=some (.int .i64 (nth zs j)):=by simp[nth,hj]
  rw[←e];exact hq
 ·intro v' w' a1 a2 _;exact h v' w' a1 (grownBy_trans (World.grownBy_alloc _ _ _) a2)
theorem Mac.ofz {zs:List Int}(h:zs.length=71):∃ m:Mac,m.ok∧m.zs=zs:=by
 match zs,h with
 | a::b::c::t,h =>
  refine⟨⟨a,b,c,t.take 4,t.drop 4⟩,⟨by simp at h⊢;omega,by simp at h⊢;omega⟩,?_⟩;simp[Mac.zs]
theorem Nc (zs:List Int):∃ m:Mac,m.ok∧(zs.length=71→m.zs=zs):=by
 by_cases h:zs.length=71
 ·obtain⟨m,h1,h2⟩:=Mac.ofz h;exact⟨m,h1,fun _=>h2⟩
 ·exact⟨mac0,Ie,fun h2=>absurd h2 h⟩
noncomputable def Pp (zs : List Int): Mac := Classical.choose (Nc zs)
theorem Pq (zs:List Int):(Pp zs).ok:=(Classical.choose_spec (Nc zs)).1
theorem LY {zs:List Int}(h:zs.length=71):(Pp zs).zs=zs:=(Classical.choose_spec (Nc zs)).2 h
theorem MR.of_own {w:World}{H n c:Nat}{a:Option Addr}{L:List Int}(h:w.ownsRow H 50 71 (.slice a n c) n (L.map (Value.int .i64))):MR w a n (fun i=>Pp (sub L (i*71) 71)):=by
 have hl:L.length=n*71:=by simpa using h.1
 intro i hi;refine⟨Pq _,?_⟩;have hs:(sub L (i*71) 71).length=71:=Bv _ _ _ (by omega);rcases id h.2 with⟨hv,h0⟩|⟨g,cap,cur,hv,-⟩
 ·omega
 ·simp only[Value.slice.injEq]at hv;obtain⟨rfl,-,rfl⟩:=hv;refine⟨g,0,rfl,fun j hj => ?_⟩;simp only;rw[LY hs,D4 _ _ _ _ hj,Nat.zero_add,h.cellAt _ (by omega)];have hb:i*71+j<L.length:=by omega
  simp[nth,hb]
def ln (f:Nat→List Int)(i:Nat):Nat:=(f i).length
structure MkT (w w' : World) (lo hi : Nat) : Prop where
 tch:Tch w w' lo hi
 kept:∀ {b E s n:Nat} {v:Value} {xs:List Value},w.ownsRow b E s v n xs→(E≠5∨∀ q,v.ownBlock=some q→q<lo∨hi≤q)→w'.ownsRow b E s v n xs
theorem MkT.refl (w:World)(lo hi:Nat):MkT w w lo hi:=⟨Tch.refl _ _ _,fun h _=>h⟩
theorem MkT.step {w w1 w2:World}{lo hi b n:Nat}{v:Value}{xs:List Value}(h:MkT w w1 lo hi)(g:w1.grownBy w2 v.ownBlock)(o:w1.ownsRow b 5 1 v n xs)(hq:∀ q,v.ownBlock=some q→lo≤q∧q<hi):MkT w w2 lo hi:=by
 refine⟨h.tch.trans (Tch.of_grown g hq),fun o2 hE => ?_⟩;have o3:=h.kept o2 hE;refine o3.kept g ?_;rcases hE with hE|hE
 ·exact BO o3 o hE
 ·cases hv:(Value.ownBlock _:Option Nat)with
  | none=>exact .inl rfl
  | some p =>
   right
   intro e;have h1:=hq p e.symm;have h2:=hE p hv;omega
theorem MkT.mono {w w':World}{lo hi lo' hi':Nat}(h:MkT w w' lo hi)(h1:lo'≤lo)(h2:hi≤hi'):MkT w w' lo' hi' :=
 ⟨⟨h.tch.os,h.tch.tape,h.tch.output,h.tch.size,fun k hk ho=>h.tch.block k hk (by omega)⟩,fun o hE=>h.kept o (by
  rcases hE with hE|hE
  ·exact .inl hE
  ·exact .inr fun q hq=>by have:=hE q hq;omega)⟩
theorem MkT.trans {a b c:World}{lo hi:Nat}(h:MkT a b lo hi)(k:MkT b c lo hi):MkT a c lo hi:=⟨h.tch.trans k.tch,fun o hE=>k.kept (h.kept o hE) hE⟩
theorem SSk.mkt {w w':World}{lo hi lo' hi' n k:Nat}{v:Value}{f:Nat→List Int}{cs:List Value}(h:SSk w lo hi v n k f cs)(m:MkT w w' lo' hi')(hd:hi≤lo'∨hi'≤lo):SSk w' lo hi v n k f cs:=by
 obtain⟨bs,h1,h2,h3,h4,h5⟩:=h;refine⟨bs,m.kept h1 (.inl (by decide)),h2,h3,h4,fun i hi2 => ?_⟩;obtain⟨a',c',k1,k2,k3⟩:=h5 i hi2;refine⟨a',c',k1,m.kept k2 (.inr fun q hq => ?_),k3⟩;have q1:=Bt k2 q hq;have q2:q<bs (i+1):=by
  cases a' with
  | none=>simp[Value.ownBlock]at hq
  | some y=>have:=k3 y rfl;simp[Value.ownBlock]at hq;omega
 have q3:=G6 h4 (show 0≤i by omega) (by omega);have q4:=G6 h4 (show i+1≤k from hi2) (Nat.le_refl _);omega
def mkF (k0:Int)(f:Nat→List Int)(i:Nat):List Int:=CF (k0+(sumN (ln f) i:Nat)) (f i).length
theorem NM (k0:Int)(f:Nat→List Int)(i:Nat):(mkF k0 f i).length=(f i).length:=by simp[mkF,CF,Io]
theorem K9 (a:Option Addr)(c n lo hi:Nat)(f:Nat→List Int)(cs:List Value)(k0:Int)(w:World)(hn:n≤1048576)(hk0:0≤k0)(hk1:k0≤2^50)(hs:sumN (ln f) n≤1048576)(r:SSg w lo hi (.slice a n c) n f cs):
 Calls Tryz.prog 30 #[.slice a n c,.int .i64 k0] w fun e w'=>e= .returned (.int .i64 (k0+(sumN (ln f) n:Nat)))∧SSg w' lo hi (.slice a n c) n (mkF k0 f) cs∧MkT w w' lo hi:=by
 obtain⟨bs,ownL,b0,b1,b2,b3⟩:=r;have HB:=Aa (⟨b0,b1,b2⟩:lo≤bs 0∧bs n≤hi∧∀ i,i<n→bs i≤bs (i+1));have hst:SSb w lo hi (.slice a n c) n n (fun i=>if i<0 then mkF k0 f i else f i) cs bs:=⟨ownL,b0,b1,b2,fun i hi2=>by simpa using b3 i hi2⟩;clear b0 b1 b2 b3 ownL;go_enter Tryz.func30,Tryz.ntmps30
 go_wp2_with fail
 go_loopw [1,5] (fun q i wr=>∃(k:Nat),k≤n∧i= .int .i64 k∧q= .int .i64 (k0+(sumN (ln f) k:Nat))∧MkT w wr lo hi∧Hid (SSb wr lo hi (.slice a n c) n n (fun i=>if i<k then mkF k0 f i else f i) cs bs)) (fun _ i _=>n-(intOf i).toNat)
 case atStart=>exact⟨0,by omega,rfl,by simp[sumN],MkT.refl _ _ _,Aa hst⟩
 case round =>
  obtain⟨k,hk,rfl,rfl,T2,S2⟩:=hrel;clear hst;have hsk:sumN (ln f) k≤1048576:=Nat.le_trans (IE hk) hs
  by_cases hlt:k<n
  ·obtain⟨ownL,-,-,-,b3⟩:=S2.out;obtain⟨a',c',g1,g2,g3⟩:=b3 k hlt;simp only[Nat.lt_irrefl,if_false]at g1 g2;have hfl:(f k).length≤1048576:=Nat.le_trans (J3 (g:=ln f) hlt) hs;obtain⟨g,hv⟩:∃ g,a=some ⟨g,0,none⟩:=by
    rcases id ownL.2 with⟨hv,h0'⟩|⟨g,cap,cur,hv,-⟩
    ·omega
    ·simp only[Value.slice.injEq]at hv;exact⟨g,hv.1⟩
   subst hv;have c1:wr.cell? ⟨g,k,none⟩=some (.slice a' (f k).length c'):=by rw[ownL.cellAt _ (by omega)];exact g1
   have hrow:∀ q,(Value.slice a' (f k).length c').ownBlock=some q→bs k≤q∧q<bs (k+1):=fun q hq=>by
    refine⟨Bt g2 q hq,?_⟩;cases a' with
    | none=>simp[Value.ownBlock]at hq
    | some y=>have:=g3 y rfl;simp[Value.ownBlock]at hq;omega
   have hcl:=Kd (.slice a' (f k).length c') (f k).length _ (k0+(sumN (ln f) k:Nat)) (bs k) wr (by omega) (by omega) (by omega) g2;have Hrow:=Aa hrow;have G1:=Aa g1;have G2:=Aa g2;clear g1 g2 g3 hrow ownL b3;obtain⟨m,hm⟩:∃ m,m=(f k).length:=⟨_,rfl⟩;have Hm:=Aa hm;rw[←hm]at c1 hcl hfl;clear hm;go_wp2_with fail
   refine hcl.mono ?_
   rintro e w4 ⟨rfl,o4,gr⟩
   rw[Hm.out]at o4 gr;have hbk:=G6 HB.out.2.2 (show 0≤k by omega) hk;have hbn:=G6 HB.out.2.2 (show k+1≤n from hlt) (Nat.le_refl _);have hb0:=HB.out.1;have hbh:=HB.out.2.1;have T3:MkT w w4 lo hi:=T2.step gr G2.out (fun q hq=>by have:=Hrow.out q hq;omega);have T4:MkT wr w4 (bs k) (bs (k+1)):=(MkT.refl wr _ _).step gr G2.out Hrow.out;have S3:Hid (SSb w4 lo hi (.slice (some ⟨g,0,none⟩) n c) n n (fun i=>if i<k+1 then mkF k0 f i else f i) cs bs):=Aa (by
    obtain⟨p1,p2,p3,p4,p5⟩:=S2.out;refine⟨T4.kept p1 (.inl (by decide)),p2,p3,p4,fun i hi2 => ?_⟩
    by_cases e:i=k
    ·subst e;have hl:=NM k0 f i;obtain⟨a2,c2,q1,-,q3⟩:=p5 i hi2;simp only[Nat.lt_irrefl,if_false]at q1;have hg:=G1.out;rw[q1]at hg;simp only[Option.some.injEq,Value.slice.injEq]at hg;obtain⟨rfl,-,rfl⟩:=hg;simp only[Nat.lt_succ_self,if_true];refine⟨a2,c2,by rw[hl];exact q1,?_,q3⟩;rw[hl];exact o4
    ·obtain⟨a2,c2,q1,q2,q3⟩:=p5 i hi2;have he:(if i<k+1 then mkF k0 f i else f i)=(if i<k then mkF k0 f i else f i):=by
      by_cases h:i<k
      ·rw[if_pos h,if_pos (by omega)]
      ·rw[if_neg h,if_neg (by omega)]
     simp only at q1 q2⊢;rw[he];refine⟨a2,c2,q1,T4.kept q2 (.inr fun q hq => ?_),q3⟩;have z1:=Bt q2 q hq;have z2:q<bs (i+1):=by
      cases a2 with
      | none=>simp[Value.ownBlock]at hq
      | some y=>have:=q3 y rfl;simp[Value.ownBlock]at hq;omega
     by_cases h:i<k
     ·have:=G6 p4 (show i+1≤k from h) hk;omega
     ·have:=G6 p4 (show k+1≤i by omega) (by omega);omega)
   have hm3:=Hm.out;clear hcl gr T2 S2 T4 G1 G2 o4;go_wp2;go_roundw
   case rel=>exact⟨k+1,by omega,by go_num,by simp only[sumN,ln];rw[←hm3];first|rfl|go_num|(push_cast;go_num),T3,S3⟩
   case measure=>simp[intOf];omega
  ·obtain rfl:k=n:=by omega
   go_wp2;go_ret
   refine⟨rfl,⟨bs,?_⟩,T2⟩;obtain⟨p1,p2,p3,p4,p5⟩:=S2.out;refine⟨p1,p2,p3,p4,fun i hi2 => ?_⟩;have:=p5 i hi2;simp only[hi2,if_true]at this;exact this
theorem KW (a:Option Addr)(c n:Nat)(f:Nat→List Int)(k0:Int)(w:World)(hn:n≤1048576)(hk0:0≤k0)(hk1:k0≤2^50)(hs:sumN (ln f) n≤1048576)(r:SS w a n (lst n (mkF k0 f))):
 Calls Tryz.prog 31 #[.slice a n c,.int .i64 k0] w fun e w'=>e= .returned (.int .i64 (k0+(sumN (ln f) n:Nat)))∧Ext w w':=by
 go_enter Tryz.func31,Tryz.ntmps31
 go_wp2_with fail
 go_loopw [1,5] (fun q i wr=>∃(k:Nat),k≤n∧i= .int .i64 k∧q= .int .i64 (k0+(sumN (ln f) k:Nat))∧Ext w wr) (fun _ i _=>n-(intOf i).toNat)
 case atStart=>exact⟨0,by omega,rfl,by simp[sumN],Below.refl _ _⟩
 case round =>
  obtain⟨k,hk,rfl,rfl,E2⟩:=hrel;have hsk:sumN (ln f) k≤1048576:=Nat.le_trans (IE hk) hs
  by_cases hlt:k<n
  ·obtain⟨b1,o1,rfl,a2,c2,h1,h2,h3,h4⟩:=(r.ext E2).at hlt;have hfl:(f k).length≤1048576:=Nat.le_trans (J3 (g:=ln f) hlt) hs;rw[NM]at h1 h2;obtain⟨m,hm⟩:∃ m,m=(f k).length:=⟨_,rfl⟩;have hcl:=J7 a2 c2 (f k).length (k0+(sumN (ln f) k:Nat)) wr (by omega) (by omega) (by omega) h2;have Hm:=Aa hm;rw[←hm]at h1 hcl hfl;clear hm h2 h3 h4;go_wp2_with fail
   refine hcl.mono ?_
   rintro e w4 ⟨rfl,q4,rfl⟩
   have E4:Ext w (wr.drewN q4):=below_drewN E2 q4;have hd:decide (k0+(sumN (ln f) k:Nat)+(m:Int)<0)=false:=by simp;omega
   have hm3:=Hm.out;clear hcl h1;go_wp2;go_roundw
   case rel=>exact⟨k+1,by omega,by go_num,by simp only[sumN,ln];rw[←hm3];first|rfl|go_num|(push_cast;go_num),E4⟩
   case measure=>simp[intOf];omega
  ·obtain rfl:k=n:=by omega
   go_wp2;go_ret
   exact⟨rfl,E2⟩
def wtC (x:Cd):Nat:=4+sumN (ln x.f) x.n
def szC (x:Cd):Nat:=x.n+sumN (ln x.f) x.n
def mkR (k0:Int)(x:Cd):Cd:=⟨k0,k0+1,(k0+1+1)%3 == 0,k0+1+1+1,x.n,mkF (k0+1+1+1+1) x.f⟩
def smN (g:Cd→Nat)(r:Nat→Cd)(n:Nat):Nat:=sumN (fun i=>g (r i)) n
def mkC (k0:Int)(r:Nat→Cd)(i:Nat):Cd:=mkR (k0+(smN wtC r i:Nat)) (r i)
def okC (r:Nat→Cd)(n:Nat):Prop:=n≤1048576∧smN szC r n≤1048576
theorem okC.at {r:Nat→Cd}{n i:Nat}(h:okC r n)(hi:i<n):(r i).n≤1048576∧sumN (ln (r i).f) (r i).n≤1048576:=by
 have:=J3 (g:=fun i=>szC (r i)) hi;have h2:=h.2;simp only[smN,szC]at this h2;omega
theorem Bi : (Tryz.prog.info? 28).map (·.size)=some 5:=by kernel_rfl
theorem Ez (x y q:Int)(i:Bool)(a b:Option Addr)(c d n:Nat)(f:Nat→List Int)(w:World)(hn:n<2^40)(hL:∀ i,i<n→(f i).length<2^45)(r1:SS w a n (lst n f))(r2:SS w b n (lst n f)):
 Calls Tryz.prog 8 #[.agg #[.int .i64 x,.int .i64 y,.bool i,.int .i64 q,.slice a n c],.agg #[.int .i64 x,.int .i64 y,.bool i,.int .i64 q,.slice b n d]] w fun e w'=>e= .returned (.bool true)∧Ext w w':=by
 have HL:=Aa (show ∀ x∈lst n f,x.length<2^45 from fun x hx=>by obtain⟨i,hi,rfl⟩:=Qk hx;exact hL i hi);clear hL;go_enter Tryz.func8,Tryz.ntmps8
 go_wp2_with fail
 refine(J6 a b c d n (lst n f) _ hn HL.out (r1.ext (by(repeat (first|with_reducible exact Below.refl _ _|assumption|with_reducible refine below_drewN ?_ _|with_reducible refine Below.drew ?_|with_reducible refine Below.setCell ?_ (by simp <;> omega) _|with_reducible refine Ext.trans ?_ (Ext.alloc _ _))))) (r2.ext (by(repeat (first|with_reducible exact Below.refl _ _|assumption|with_reducible refine below_drewN ?_ _|with_reducible refine Below.drew ?_|with_reducible refine Below.setCell ?_ (by simp <;> omega) _|with_reducible refine Ext.trans ?_ (Ext.alloc _ _)))))).mono ?_
 rintro e w1 ⟨rfl,e1⟩
 have E1:Ext w w1:=by refine Ext.trans ?_ e1;(repeat (first|with_reducible exact Below.refl _ _|assumption|with_reducible refine below_drewN ?_ _|with_reducible refine Below.drew ?_|with_reducible refine Below.setCell ?_ (by simp <;> omega) _|with_reducible refine Ext.trans ?_ (Ext.alloc _ _)))
 clear e1;go_wp2;go_ret
 exact⟨rfl,E1⟩
theorem SSk.again {w w':World}{lo hi n k:Nat}{v:Value}{f:Nat→List Int}{cs:List Value}(h:SSk w lo hi v n k f cs)(g:w.grownBy w' v.ownBlock)(own:w'.ownsRow lo 54 1 v n cs):SSk w' lo hi v n k f cs:=by
 obtain⟨bs,h1,h2,h3,h4,h5⟩:=h;refine⟨bs,own,h2,h3,h4,fun i hi2 => ?_⟩;obtain⟨a',c',k1,k2,k3⟩:=h5 i hi2;exact⟨a',c',k1,k2.kept g (BO k2 h1 (by decide)),k3⟩
theorem Jp {w w':World}{lo n b m:Nat}{v u:Value}{cs xs:List Value}(o:w.ownsRow lo 54 1 v n cs)(g:w.grownBy w' v.ownBlock)(h:w.ownsRow b 5 1 u m xs):w'.ownsRow b 5 1 u m xs:=h.kept g (BO h o (by decide))
theorem AW {w:World}{base e size n q:Nat}{v:Value}{xs:List Value}{arr:Array Value}{T:TypeId}(h:w.ownsRow base e size v n xs)(hq:w.heap[q]?=some (.cells arr T (0,0)))(hne:e≠T):v.ownBlock≠some q:=by
 rcases AU h hq hne with h|h
 ·rw[h];simp
 ·exact h
theorem Le {w w':World}{base e s n:Nat}{v:Value}{xs:List Value}{row:Option Nat}(h:w.ownsRow base e s v n xs)(g:w.grownBy w' row)(hb:∀ q,row=some q→q<base):w'.ownsRow base e s v n xs:=by
 refine h.kept g ?_;cases hv:v.ownBlock with
 | none=>exact .inl rfl
 | some k=>right;intro e;have h1:=Bt h k hv;have h2:=hb k e.symm;omega
theorem CE.app {w w':World}{lo hi hi' n:Nat}{v v':Value}{r:Nat→Cd}{cs ss:List Value}{a1:Option Addr}{c1:Nat}(h:CE w lo hi v n n r cs)
 (h3:SSg w hi hi' (.slice a1 (r n).n c1) (r n).n (r n).f ss) (hh:hi≤hi')
 (own:w'.ownsRow lo 28 5 v' (n+1) (cs ++ [.int .i64 (r n).w,.int .i64 (r n).h,.bool (r n).i,.int .i64 (r n).q,.slice a1 (r n).n c1])) (g:w.grownBy w' v.ownBlock) :
 CE w' lo hi' v' (n+1) (n+1) r (cs ++ [.int .i64 (r n).w,.int .i64 (r n).h,.bool (r n).i,.int .i64 (r n).q,.slice a1 (r n).n c1]):=by
 have hcl:cs.length=n*5:=by obtain⟨us,h1,-⟩:=h;exact h1.1
 refine h.snoc h3 hh own g (fun o ho=>by rw[List.getElem?_append_left (by omega)]) ⟨?_,?_,?_,?_,?_⟩ <;> (rw[←hcl,List.getElem?_append_right (by omega)];simp)
theorem CE.own {w:World}{lo hi n k:Nat}{v:Value}{r:Nat→Cd}{cs:List Value}(h:CE w lo hi v n k r cs):w.ownsRow lo 28 5 v n cs:=by
 obtain⟨us,h1,-⟩:=h;exact h1
theorem FC (t r p:Pic)(x y q top:Int)(a b b2:Option Addr)(c d d2 n l l2:Nat)(w:World)(hT:TabQ w)(hn:n=t.px.length)(hl:l=r.px.length)(hl2:l2=p.px.length)(nc:n≤9223372036854775807)(lc:l≤9223372036854775807)(l2c:l2≤9223372036854775807)(s:Sl w a n (t.px.map (Value.int .i64)))(u:Sl w b l (r.px.map (Value.int .i64)))(v:Sl w b2 l2 (p.px.map (Value.int .i64)))(ho:okCh t r p x y q top):
 Calls Tryz.prog 24 #[.agg #[.int .i64 t.w,.int .i64 t.h,.slice a n c],.agg #[.int .i64 r.w,.int .i64 r.h,.slice b l d],.agg #[.int .i64 p.w,.int .i64 p.h,.slice b2 l2 d2],.int .i64 x,.int .i64 y,.int .i64 q,.int .i64 top] w fun e w'=>e= .returned (.agg (ic (chP t r p x y q top).zs))∧Ext w w':=by
 have HN:=Aa hn;have HL:=Aa hl;have HL2:=Aa hl2;clear hn hl hl2;have h0:AS t r:=ho.1;have h1:AS t p:=ho.2.1;have h2:(0≤x)∧(x<t.w)∧(x%8=0)∧(0≤y)∧(y<t.h)∧(y%8=0):=ho.2.2.1.2;have h3:0≤q∧q≤15:=ho.2.2.2.1;have h4:0≤top:=ho.2.2.2.2.1;have h5:top≤y:=ho.2.2.2.2.2;have HD0:=Aa (decide_eq_true h0);have H0:=Aa h0;have HD1:=Aa (decide_eq_true h1);have H1:=Aa h1;have HD2:=Aa (decide_eq_true h2);have H2:=Aa h2;have H3:=Aa h3;have f4:decide (top<0)=false:=by simpa using h4
 have H4:=Aa h4;have f5:decide (y<top)=false:=by simpa using h5
 have H5:=Aa h5;clear ho h0 h1 h2;obtain⟨X0_0,X1_0,X2_0,X3_0,X4_0,X5_0,X6_0,X7_0,E_0⟩:=bxs8 w (.cells #[.int .i64 t.w,.int .i64 t.h,.slice a n c] 30) (.cells #[.int .i64 r.w,.int .i64 r.h,.slice b l d] 30) (.cells #[.int .i64 p.w,.int .i64 p.h,.slice b2 l2 d2] 30) (.cells #[.int .i64 x] 3) (.cells #[.int .i64 y] 3) (.cells #[.int .i64 q] 3) (.cells #[.int .i64 top] 3) (.cells (ic (zl 71)) 50);have X7_0:IB _ _ 50 (zl 71):=X7_0;obtain⟨-,k0_0,k0_1,k0_2,-⟩:=bx3 X0_0;obtain⟨-,k1_0,k1_1,k1_2,-⟩:=bx3 X1_0;obtain⟨-,k2_0,k2_1,k2_2,-⟩:=bx3 X2_0;obtain⟨-,k3_0,-⟩:=bx1 X3_0;obtain⟨-,k4_0,-⟩:=bx1 X4_0;obtain⟨-,k5_0,-⟩:=bx1 X5_0;obtain⟨-,k6_0,-⟩:=bx1 X6_0;go_enter Tryz.func24,Tryz.ntmps24
 go_wp2_with (refine Au 50 rfl rfl 71 Bf ?_;(try simp only[World.size_alloc]))
 refine(Du t r a b c d n l _ HN.out HL.out nc lc (s.ext E_0) (u.ext E_0)).mono ?_;rw[HD0.out]
 rintro e w_1 ⟨rfl,e_1⟩
 have X0_1:=e_1.blk X0_0;have X1_1:=e_1.blk X1_0;have X2_1:=e_1.blk X2_0;have X3_1:=e_1.blk X3_0;have X4_1:=e_1.blk X4_0;have X5_1:=e_1.blk X5_0;have X6_1:=e_1.blk X6_0;have X7_1:=X7_0.ext e_1;have E_1:=E_0.trans e_1;clear k0_0 k0_1 k0_2 X0_0 k1_0 k1_1 k1_2 X1_0 k2_0 k2_1 k2_2 X2_0 k3_0 X3_0 k4_0 X4_0 k5_0 X5_0 k6_0 X6_0 X7_0 E_0 e_1;obtain⟨-,k0_0,k0_1,k0_2,-⟩:=bx3 X0_1;obtain⟨-,k1_0,k1_1,k1_2,-⟩:=bx3 X1_1;obtain⟨-,k2_0,k2_1,k2_2,-⟩:=bx3 X2_1;obtain⟨-,k3_0,-⟩:=bx1 X3_1;obtain⟨-,k4_0,-⟩:=bx1 X4_1;obtain⟨-,k5_0,-⟩:=bx1 X5_1;obtain⟨-,k6_0,-⟩:=bx1 X6_1;go_wp2_with fail
 refine(Du t p a b2 c d2 n l2 _ HN.out HL2.out nc l2c (s.ext E_1) (v.ext E_1)).mono ?_;rw[HD1.out]
 rintro e w_2 ⟨rfl,e_2⟩
 have X0_2:=e_2.blk X0_1;have X1_2:=e_2.blk X1_1;have X2_2:=e_2.blk X2_1;have X3_2:=e_2.blk X3_1;have X4_2:=e_2.blk X4_1;have X5_2:=e_2.blk X5_1;have X6_2:=e_2.blk X6_1;have X7_2:=X7_1.ext e_2;have E_2:=E_1.trans e_2;clear k0_0 k0_1 k0_2 X0_1 k1_0 k1_1 k1_2 X1_1 k2_0 k2_1 k2_2 X2_1 k3_0 X3_1 k4_0 X4_1 k5_0 X5_1 k6_0 X6_1 X7_1 E_1 e_2;obtain⟨-,k0_0,k0_1,k0_2,-⟩:=bx3 X0_2;obtain⟨-,k1_0,k1_1,k1_2,-⟩:=bx3 X1_2;obtain⟨-,k2_0,k2_1,k2_2,-⟩:=bx3 X2_2;obtain⟨-,k3_0,-⟩:=bx1 X3_2;obtain⟨-,k4_0,-⟩:=bx1 X4_2;obtain⟨-,k5_0,-⟩:=bx1 X5_2;obtain⟨-,k6_0,-⟩:=bx1 X6_2;go_wp2_with fail
 refine(Ev t x y a c n _).mono ?_;rw[HD2.out]
 rintro e w_3 ⟨rfl,e_3⟩
 have X0_3:=e_3.blk X0_2;have X1_3:=e_3.blk X1_2;have X2_3:=e_3.blk X2_2;have X3_3:=e_3.blk X3_2;have X4_3:=e_3.blk X4_2;have X5_3:=e_3.blk X5_2;have X6_3:=e_3.blk X6_2;have X7_3:=X7_2.ext e_3;have E_3:=E_2.trans e_3;clear k0_0 k0_1 k0_2 X0_2 k1_0 k1_1 k1_2 X1_2 k2_0 k2_1 k2_2 X2_2 k3_0 X3_2 k4_0 X4_2 k5_0 X5_2 k6_0 X6_2 X7_2 E_2 e_3;obtain⟨-,k0_0,k0_1,k0_2,-⟩:=bx3 X0_3;obtain⟨-,k1_0,k1_1,k1_2,-⟩:=bx3 X1_3;obtain⟨-,k2_0,k2_1,k2_2,-⟩:=bx3 X2_3;obtain⟨-,k3_0,-⟩:=bx1 X3_3;obtain⟨-,k4_0,-⟩:=bx1 X4_3;obtain⟨-,k5_0,-⟩:=bx1 X5_3;obtain⟨-,k6_0,-⟩:=bx1 X6_3;go_wp2_with fail
 refine(KD q _ H3.out).mono ?_
 rintro e w_s ⟨rfl,rfl⟩
 have ho:okCh t r p x y q top:=⟨H0.out,H1.out,⟨H0.out.1,H2.out⟩,H3.out,H4.out,H5.out⟩;have hch:=Ny ho;have hx0:=H2.out.1;have hy0:=H2.out.2.2.2.1;have hq0:=H3.out.1;obtain⟨pw,ph,px⟩:=p;obtain⟨W,hW⟩:∃ W:Nat,pw=W:=⟨pw.toNat,by have:=H1.out.2.1.1.1;simp only at this;omega⟩;obtain⟨H,hH⟩:∃ H:Nat,ph=H:=⟨ph.toNat,by have:=H1.out.2.1.2.1.1;simp only at this;omega⟩;obtain⟨X,hX⟩:∃ X:Nat,x=X:=⟨x.toNat,by omega⟩;obtain⟨Y,hY⟩:∃ Y:Nat,y=Y:=⟨y.toNat,by omega⟩;obtain⟨Q,hQ⟩:∃ Q:Nat,q=Q:=⟨q.toNat,by omega⟩;subst hW hH hX hY hQ;clear hx0 hy0 hq0;simp only[Int.toNat_natCast]at hch;have HCH:=Aa hch;clear hch ho;have hbz:=X7_3.lt;have C0:C7 w.heap.size t r W H a b b2 n c l d l2 d2 X Y Q top w_3:=⟨X0_3,X1_3,X2_3,X3_3,X4_3,X5_3,X6_3⟩;have e8:=Ext.alloc w_3 (.cells #[.func (.func 51) #[] #[],.func (.func 52) #[] #[.pointer (some ⟨w.heap.size,0,none⟩),.pointer (some ⟨w.heap.size+1,0,none⟩),.pointer (some ⟨w.heap.size+1+1+1,0,none⟩),.pointer (some ⟨w.heap.size+1+1+1+1,0,none⟩),.pointer (some ⟨w.heap.size+1+1+1+1+1,0,none⟩)],.func (.func 55) #[] #[.pointer (some ⟨w.heap.size,0,none⟩),.pointer (some ⟨w.heap.size+1+1,0,none⟩),.pointer (some ⟨w.heap.size+1+1+1,0,none⟩),.pointer (some ⟨w.heap.size+1+1+1+1,0,none⟩),.pointer (some ⟨w.heap.size+1+1+1+1+1,0,none⟩),.pointer (some ⟨w.heap.size+1+1+1+1+1+1,0,none⟩)]] 74);have g8:=Aj w_3 (.cells #[.func (.func 51) #[] #[],.func (.func 52) #[] #[.pointer (some ⟨w.heap.size,0,none⟩),.pointer (some ⟨w.heap.size+1,0,none⟩),.pointer (some ⟨w.heap.size+1+1+1,0,none⟩),.pointer (some ⟨w.heap.size+1+1+1+1,0,none⟩),.pointer (some ⟨w.heap.size+1+1+1+1+1,0,none⟩)],.func (.func 55) #[] #[.pointer (some ⟨w.heap.size,0,none⟩),.pointer (some ⟨w.heap.size+1+1,0,none⟩),.pointer (some ⟨w.heap.size+1+1+1,0,none⟩),.pointer (some ⟨w.heap.size+1+1+1+1,0,none⟩),.pointer (some ⟨w.heap.size+1+1+1+1+1,0,none⟩),.pointer (some ⟨w.heap.size+1+1+1+1+1+1,0,none⟩)]] 74);have X8:=X7_3.ext e8;have E8:=E_3.trans e8;have C8:=C0.e e8;obtain⟨G,hG⟩:∃ G,G=w_3.heap.size:=⟨_,rfl⟩;rw[←hG]at g8;have HQ:Q<16:=by have:=H3.out;omega
 have HT5:=H5.out;have HT4:=H4.out;clear h3 h4 h5 X0_3 X1_3 X2_3 X3_3 X4_3 X5_3 X6_3 X7_3 E_3 C0;go_upto_region 4 with fail
 clear k0_0 k0_1 k0_2 k1_0 k1_1 k1_2 k2_0 k2_1 k2_2 k3_0 k4_0 k5_0 k6_0 f4 f5;rw[←hG];clear hG;generalize w_3.alloc (.cells #[.func (.func 51) #[] #[],.func (.func 52) #[] #[.pointer (some ⟨w.heap.size,0,none⟩),.pointer (some ⟨w.heap.size+1,0,none⟩),.pointer (some ⟨w.heap.size+1+1+1,0,none⟩),.pointer (some ⟨w.heap.size+1+1+1+1,0,none⟩),.pointer (some ⟨w.heap.size+1+1+1+1+1,0,none⟩)],.func (.func 55) #[] #[.pointer (some ⟨w.heap.size,0,none⟩),.pointer (some ⟨w.heap.size+1+1,0,none⟩),.pointer (some ⟨w.heap.size+1+1+1,0,none⟩),.pointer (some ⟨w.heap.size+1+1+1+1,0,none⟩),.pointer (some ⟨w.heap.size+1+1+1+1+1,0,none⟩),.pointer (some ⟨w.heap.size+1+1+1+1+1+1,0,none⟩)]] 74)=w8 at *;go_wp2_with fail
 refine(Lz t r W H X Y Q px top a b b2 c d d2 n l l2 w.heap.size w8 G (hT.ext E8) C8 g8 H0.out H1.out ⟨H0.out.1,H2.out⟩ HQ ⟨HT4,HT5⟩ HN.out HL.out HL2.out (s.ext E8) (u.ext E8) (v.ext E8)).mono ?_
 rintro e w9 ⟨rfl,e9⟩
 have X9:=X8.ext e9;have E9:=E8.trans e9;clear X8 E8 C8 e8 e9 g8;obtain⟨Z,hZ⟩:∃ Z,Z=(chM t r ⟨W,H,px⟩ X Y Q top).zs:=⟨_,rfl⟩;have Hrl:=Aa (show Z.length=71 by rw[hZ];exact Mac.zs_len (KQ _ _ _ _ _ _ _));rw[←hZ];have HZ:=Aa hZ;clear hZ;go_wp2_with (refine Af 50 _ _ rfl rfl X9 0 71 rfl _ rfl Z rfl Ah Hrl.out (by rw[AB];omega) ?_;intro wf pf gf;refine Hid.out ?_)
 rw[Ap (by rw[Hrl.out,AB])]at pf;have Ef:Ext w wf:=Ext.grown E9 gf (fun q hq=>by cases hq;omega);refine Aa ?_;go_wp2;exact bodyPost_ret (v := .agg (ic Z)) (results_cell_row rfl _ _ (w.heap.size+1+1+1+1+1+1+1) 50 (ic Z) (0,0) _ rfl pf Ro rfl (by rw[AJ,Hrl.out];exact Ah)) rfl ⟨by rw[HCH.out,HZ.out],Ef⟩
end Go.Proofs.YtijnbalgnhigbaaGreatDoor
