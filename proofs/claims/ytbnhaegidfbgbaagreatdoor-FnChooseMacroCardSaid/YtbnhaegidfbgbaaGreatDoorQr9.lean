/- MacroValid: the program's. | MacroValid: the program's answer. | Are the arguments of Reconstruct valid: both sides. | The worlds while a macroblock of a picture is rebuilt. -/
import Derived.Test.YtbnhaegidfbgbaaGreatDoorQr8
set_option linter.unusedVariables false
set_option linter.unusedSimpArgs false
set_option maxRecDepth 100000
set_option maxHeartbeats 4000000
namespace Go.Proofs.YtbnhaegidfbgbaaGreatDoor
open Go.RowKit
theorem impl_kindOf_0 (m:Mac) (w:World) (h:m.ok) (hk:m.kind=0) :
 Calls Tryz.prog 102 #[.agg (ic m.zs)] w fun e w'=>e= .returned (.iface 128 (.agg (ic m.zs)))∧Ext w w':=by
 have H:=IB.new w 32 m.zs;have h0:=H.cell (i:=0) (by rw[Mac.zs_len h];omega);rw[Mac.zs_kind,hk]at h0;have Hl:=Lib.hid (Mac.zs_len h);clear hk;go_enter Tryz.func102,Tryz.ntmps102
 go_wp2_with (refine wpList_iload 32 _ rfl rfl H 0 71 rfl _ Tryz.underlying32 rfl size_Macro (by rw[Hl.out];omega) _ (by rw[sub_all _ _ Hl.out]) ?_)
 go_ret
 exact⟨rfl,Ext.alloc _ _⟩
theorem impl_kindOf_1 (m:Mac) (w:World) (h:m.ok) (hk:m.kind=1) :
 Calls Tryz.prog 102 #[.agg (ic m.zs)] w fun e w'=>e= .returned (.iface 129 (.agg (ic m.zs)))∧Ext w w':=by
 have H:=IB.new w 32 m.zs;have h0:=H.cell (i:=0) (by rw[Mac.zs_len h];omega);rw[Mac.zs_kind,hk]at h0;have Hl:=Lib.hid (Mac.zs_len h);clear hk;go_enter Tryz.func102,Tryz.ntmps102
 go_wp2_with (refine wpList_iload 32 _ rfl rfl H 0 71 rfl _ Tryz.underlying32 rfl size_Macro (by rw[Hl.out];omega) _ (by rw[sub_all _ _ Hl.out]) ?_)
 go_ret
 exact⟨rfl,Ext.alloc _ _⟩
theorem impl_kindOf_2 (m:Mac) (w:World) (h:m.ok) (hk:m.kind=2) :
 Calls Tryz.prog 102 #[.agg (ic m.zs)] w fun e w'=>e= .returned (.iface 158 (.agg (ic m.zs)))∧Ext w w':=by
 have H:=IB.new w 32 m.zs;have h0:=H.cell (i:=0) (by rw[Mac.zs_len h];omega);rw[Mac.zs_kind,hk]at h0;have Hl:=Lib.hid (Mac.zs_len h);clear hk;go_enter Tryz.func102,Tryz.ntmps102
 go_wp2_with (refine wpList_iload 32 _ rfl rfl H 0 71 rfl _ Tryz.underlying32 rfl size_Macro (by rw[Hl.out];omega) _ (by rw[sub_all _ _ Hl.out]) ?_)
 go_ret
 exact⟨rfl,Ext.alloc _ _⟩
theorem impl_kindOf_no (m:Mac) (w:World) (h:m.ok) (hk:m.kind<0∨2<m.kind) :
 Calls Tryz.prog 102 #[.agg (ic m.zs)] w fun e w'=>e= .returned .nilIface∧Ext w w':=by
 have H:=IB.new w 32 m.zs;have h0:=H.cell (i:=0) (by rw[Mac.zs_len h];omega);rw[Mac.zs_kind]at h0;have d0:(m.kind == 0)=false:=by simp;omega
 have d1:(m.kind == 1)=false:=by simp;omega
 have d2:(m.kind == 2)=false:=by simp;omega
 clear hk;go_enter Tryz.func102,Tryz.ntmps102
 go_wp2;go_ret
 exact⟨rfl,Ext.alloc _ _⟩
theorem skipped_fits_any (m:Mac) (w:World) (h:m.ok) (r:Bool) (hr:decide (m.x=0∧m.y=0∧m.modes=zero4∧m.lv=zero64)=r) :
 Calls Tryz.prog 202 #[.agg (ic m.zs)] w fun e w'=>e= .returned (.bool r)∧Ext w w':=by
 have H:=IB.new w 128 m.zs;have Hl:=Lib.hid (Mac.zs_len h);have Hm:=Lib.hid h;clear h
 by_cases h1:m.x=0∧m.y=0
 ·have Hv:=Lib.hid (vec_eq m.x m.y true (by simpa using h1))
  by_cases h2:m.modes=zero4
  ·have Hd2:=Lib.hid (show decide (m.modes=List.replicate 4 0)=true by simpa [zero4] using h2)
   by_cases h3:m.lv=zero64
   ·have Hd3:=Lib.hid (show decide (m.lv=List.replicate 64 0)=true by simpa [zero64] using h3);have hr2:r=true:=by rw[←hr];simp[h1,h2,h3]
    subst hr2;clear hr h1 h2 h3;go_enter Tryz.func202,Tryz.ntmps202
    go_wp2_with (first|(refine wpList_iload 27 _ rfl rfl H 1 2 rfl _ Tryz.underlying27 rfl size_Vector (by rw[Hl.out];omega) _ Mac.zs_mv ?_)|(refine wpList_iload 28 _ rfl rfl H 3 4 rfl _ Tryz.underlying28 rfl size_A4 (by rw[Hl.out];omega) _ (by rw[Mac.zs_modes Hm.out]) ?_)|(refine wpList_iload 30 _ rfl rfl H 7 64 rfl _ Tryz.underlying30 rfl size_A16A4 (by rw[Hl.out];omega) _ (by rw[Mac.zs_lv Hm.out]) ?_)|(refine wpList_izero 28 rfl rfl Tryz.underlying28 size_int 4 zero_A4 ?_)|(refine wpList_izero 30 rfl rfl Tryz.underlying30 size_A16 64 zero_A16A4 ?_)|(refine wpList_veql 27 _ _ _ rfl rfl _ _ rfl rfl _ Hv.out guard_Vector ?_)|(refine wpList_ieql 28 _ _ _ rfl rfl _ _ rfl rfl _ _ rfl rfl Tryz.underlying28 size_int eqE_int Hm.out.modes (by simp) guard_A4 _ Hd2.out ?_)|(refine wpList_ieql 30 _ _ _ rfl rfl _ _ rfl rfl _ _ rfl rfl Tryz.underlying30 size_A16 eqE_A16 Hm.out.lv (by simp) guard_A16A4 _ Hd3.out ?_))
    go_ret
    exact⟨rfl,Ext.alloc _ _⟩
   ·have Hd3:=Lib.hid (show decide (m.lv=List.replicate 64 0)=false by simpa [zero64] using h3);have hr2:r=false:=by rw[←hr];simp[h3]
    subst hr2;clear hr h1 h2 h3;go_enter Tryz.func202,Tryz.ntmps202
    go_wp2_with (first|(refine wpList_iload 27 _ rfl rfl H 1 2 rfl _ Tryz.underlying27 rfl size_Vector (by rw[Hl.out];omega) _ Mac.zs_mv ?_)|(refine wpList_iload 28 _ rfl rfl H 3 4 rfl _ Tryz.underlying28 rfl size_A4 (by rw[Hl.out];omega) _ (by rw[Mac.zs_modes Hm.out]) ?_)|(refine wpList_iload 30 _ rfl rfl H 7 64 rfl _ Tryz.underlying30 rfl size_A16A4 (by rw[Hl.out];omega) _ (by rw[Mac.zs_lv Hm.out]) ?_)|(refine wpList_izero 28 rfl rfl Tryz.underlying28 size_int 4 zero_A4 ?_)|(refine wpList_izero 30 rfl rfl Tryz.underlying30 size_A16 64 zero_A16A4 ?_)|(refine wpList_veql 27 _ _ _ rfl rfl _ _ rfl rfl _ Hv.out guard_Vector ?_)|(refine wpList_ieql 28 _ _ _ rfl rfl _ _ rfl rfl _ _ rfl rfl Tryz.underlying28 size_int eqE_int Hm.out.modes (by simp) guard_A4 _ Hd2.out ?_)|(refine wpList_ieql 30 _ _ _ rfl rfl _ _ rfl rfl _ _ rfl rfl Tryz.underlying30 size_A16 eqE_A16 Hm.out.lv (by simp) guard_A16A4 _ Hd3.out ?_))
    go_ret
    exact⟨rfl,Ext.alloc _ _⟩
  ·have Hd2:=Lib.hid (show decide (m.modes=List.replicate 4 0)=false by simpa [zero4] using h2);have hr2:r=false:=by rw[←hr];simp[h2]
   subst hr2;clear hr h1 h2;go_enter Tryz.func202,Tryz.ntmps202
   go_wp2_with (first|(refine wpList_iload 27 _ rfl rfl H 1 2 rfl _ Tryz.underlying27 rfl size_Vector (by rw[Hl.out];omega) _ Mac.zs_mv ?_)|(refine wpList_iload 28 _ rfl rfl H 3 4 rfl _ Tryz.underlying28 rfl size_A4 (by rw[Hl.out];omega) _ (by rw[Mac.zs_modes Hm.out]) ?_)|(refine wpList_iload 30 _ rfl rfl H 7 64 rfl _ Tryz.underlying30 rfl size_A16A4 (by rw[Hl.out];omega) _ (by rw[Mac.zs_lv Hm.out]) ?_)|(refine wpList_izero 28 rfl rfl Tryz.underlying28 size_int 4 zero_A4 ?_)|(refine wpList_izero 30 rfl rfl Tryz.underlying30 size_A16 64 zero_A16A4 ?_)|(refine wpList_veql 27 _ _ _ rfl rfl _ _ rfl rfl _ Hv.out guard_Vector ?_)|(refine wpList_ieql 28 _ _ _ rfl rfl _ _ rfl rfl _ _ rfl rfl Tryz.underlying28 size_int eqE_int Hm.out.modes (by simp) guard_A4 _ Hd2.out ?_))
   go_ret
   exact⟨rfl,Ext.alloc _ _⟩
 ·have Hv:=Lib.hid (vec_eq m.x m.y false (by simpa using h1));have hr2:r=false:=by rw[←hr];simp;intro a b;exact absurd ⟨a,b⟩ h1
  subst hr2;clear hr h1;go_enter Tryz.func202,Tryz.ntmps202
  go_wp2_with (first|(refine wpList_iload 27 _ rfl rfl H 1 2 rfl _ Tryz.underlying27 rfl size_Vector (by rw[Hl.out];omega) _ Mac.zs_mv ?_)|(refine wpList_veql 27 _ _ _ rfl rfl _ _ rfl rfl _ Hv.out guard_Vector ?_))
  go_ret
  exact⟨rfl,Ext.alloc _ _⟩
theorem inter_fits_any (m:Mac) (w:World) (h:m.ok) (r:Bool) (hr:decide (m.modes=zero4)=r) :
 Calls Tryz.prog 203 #[.agg (ic m.zs)] w fun e w'=>e= .returned (.bool r)∧Ext w w':=by
 have H:=IB.new w 129 m.zs;have Hl:=Lib.hid (Mac.zs_len h);have Hm:=Lib.hid h;have Hd2:=Lib.hid (show decide (m.modes=List.replicate 4 0)=r from hr);clear h hr;go_enter Tryz.func203,Tryz.ntmps203
 go_wp2_with (first|(refine wpList_iload 28 _ rfl rfl H 3 4 rfl _ Tryz.underlying28 rfl size_A4 (by rw[Hl.out];omega) _ (by rw[Mac.zs_modes Hm.out]) ?_)|(refine wpList_izero 28 rfl rfl Tryz.underlying28 size_int 4 zero_A4 ?_)|(refine wpList_ieql 28 _ _ _ rfl rfl _ _ rfl rfl _ _ rfl rfl Tryz.underlying28 size_int eqE_int Hm.out.modes (by simp) guard_A4 _ Hd2.out ?_))
 go_ret
 exact⟨rfl,Ext.alloc _ _⟩
theorem intra_fits_yes (m:Mac) (w:World) (h:m.ok) (hj:∀ j,j<4→0≤nth m.modes j∧nth m.modes j≤4) (r:Bool) (hr:decide (m.x=0∧m.y=0)=r) :
 Calls Tryz.prog 204 #[.agg (ic m.zs)] w fun e w'=>e= .returned (.bool r)∧Ext w w':=by
 have H:=IB.new w 158 m.zs;have Hl:=Lib.hid (Mac.zs_len h);have Hm:=Lib.hid h;have Hv:=Lib.hid (vec_eq m.x m.y r hr);have Hj:=Lib.hid hj;clear h hr hj;go_enter Tryz.func204,Tryz.ntmps204
 go_wp2_with (refine wpList_iload 28 _ rfl rfl H 3 4 rfl _ Tryz.underlying28 rfl size_A4 (by rw[Hl.out];omega) _ (by rw[Mac.zs_modes Hm.out]) ?_)
 go_loopw [7] (fun i wr=>∃ k:Nat,k≤4∧i= .int .i64 k∧wr=w.alloc (.cells (ic m.zs) 158)) (fun i _=>4-(intOf i).toNat)
 case atStart=>exact⟨0,by omega,rfl,rfl⟩
 case round =>
  obtain⟨k,hk,rfl,rfl⟩:=hrel
  by_cases hlt:k<4
  ·obtain⟨h1,h2⟩:=Hj.out k hlt;go_wp2_with (refine wpList_iindex _ _ _ rfl rfl m.modes rfl k 4 _ rfl rfl _ Tryz.underlying28 Tryz.underlying3 size_int hlt Hm.out.modes ?_)
   go_roundw
   case rel=>exact⟨k+1,by omega,by go_num,by first|trivial|rfl⟩
   case measure=>simp[intOf];omega
  ·obtain rfl:k=4:=by omega
   go_wp2_with (first|(refine wpList_iload 27 _ rfl rfl H 1 2 rfl _ Tryz.underlying27 rfl size_Vector (by rw[Hl.out];omega) _ Mac.zs_mv ?_)|(refine wpList_veql 27 _ _ _ rfl rfl _ _ rfl rfl _ Hv.out guard_Vector ?_))
   go_ret
   exact⟨rfl,Ext.alloc _ _⟩
theorem intra_fits_no (m:Mac) (w:World) (h:m.ok) (hj : ¬ ∀ j,j<4→0≤nth m.modes j∧nth m.modes j≤4) :
 Calls Tryz.prog 204 #[.agg (ic m.zs)] w fun e w'=>e= .returned (.bool false)∧Ext w w':=by
 have H:=IB.new w 158 m.zs;have Hl:=Lib.hid (Mac.zs_len h);have Hm:=Lib.hid h;have Hj:=Lib.hid hj;clear h hj;go_enter Tryz.func204,Tryz.ntmps204
 go_wp2_with (refine wpList_iload 28 _ rfl rfl H 3 4 rfl _ Tryz.underlying28 rfl size_A4 (by rw[Hl.out];omega) _ (by rw[Mac.zs_modes Hm.out]) ?_)
 go_loopw [7] (fun i wr=>∃ k:Nat,k≤4∧i= .int .i64 k∧wr=w.alloc (.cells (ic m.zs) 158)∧Hid (∀ j,j<k→0≤nth m.modes j∧nth m.modes j≤4)) (fun i _=>4-(intOf i).toNat)
 case atStart=>exact⟨0,by omega,rfl,rfl,Lib.hid (fun j hj=>by omega)⟩
 case round =>
  obtain⟨k,hk,rfl,rfl,hall⟩:=hrel
  by_cases hlt:k<4
  ·by_cases h1:nth m.modes k<0
   ·go_wp2_with (refine wpList_iindex _ _ _ rfl rfl m.modes rfl k 4 _ rfl rfl _ Tryz.underlying28 Tryz.underlying3 size_int hlt Hm.out.modes ?_)
    go_ret
    exact⟨rfl,Ext.alloc _ _⟩
   ·have hd1:decide (nth m.modes k<0)=false:=by simpa using h1
    by_cases h2:4<nth m.modes k
    ·go_wp2_with (refine wpList_iindex _ _ _ rfl rfl m.modes rfl k 4 _ rfl rfl _ Tryz.underlying28 Tryz.underlying3 size_int hlt Hm.out.modes ?_)
     go_ret
     exact⟨rfl,Ext.alloc _ _⟩
    ·have hd2:decide (4<nth m.modes k)=false:=by simpa using h2
     have hall2:=Lib.hid (show ∀ j,j<k+1→0≤nth m.modes j∧nth m.modes j≤4 from fun j hj=>by
      by_cases hjk:j=k
      ·subst hjk;omega
      ·exact hall.out j (by omega))
     go_wp2_with (refine wpList_iindex _ _ _ rfl rfl m.modes rfl k 4 _ rfl rfl _ Tryz.underlying28 Tryz.underlying3 size_int hlt Hm.out.modes ?_)
     go_roundw
     case rel=>exact⟨k+1,by omega,by go_num,by first|trivial|rfl,hall2⟩
     case measure=>simp[intOf];omega
  ·obtain rfl:k=4:=by omega
   exact absurd hall.out Hj.out
theorem fits_0 (cs : Array Value) (w : World) : (method 308 128 (.agg cs) "loop.example/videocodec/impl.fits").run Tryz.prog w = .ok (202, .agg cs) w := by kernel_rfl
theorem fits_1 (cs : Array Value) (w : World) : (method 308 129 (.agg cs) "loop.example/videocodec/impl.fits").run Tryz.prog w = .ok (203, .agg cs) w := by kernel_rfl
theorem fits_2 (cs : Array Value) (w : World) : (method 308 158 (.agg cs) "loop.example/videocodec/impl.fits").run Tryz.prog w = .ok (204, .agg cs) w := by kernel_rfl
theorem impl_MacroValid_lv0 (m:Mac) (w:World) (h:m.ok) (hk:m.kind=0) (hv:vv m.x m.y) (hf:m.modes=zero4∧m.lv=zero64) (hxy:m.x=0∧m.y=0) (r:Bool) (hno:∀ k,k<4→inB 4080 (sub m.lv (k*16) 16)=false→r=false) (hyes:(∀ k,k<4→inB 4080 (sub m.lv (k*16) 16)=true)→r=true) :
 Calls Tryz.prog 52 #[.agg (ic m.zs)] w fun e w'=>e= .returned (.bool r)∧Ext w w':=by
 have H:=IB.new w 32 m.zs;have Hl:=Lib.hid (Mac.zs_len h);have Hm:=Lib.hid h;have Hk:=Lib.hid hk;have HNO:=Lib.hid hno;have HYES:=Lib.hid hyes;have Hfit:=Lib.hid (show decide (m.x=0∧m.y=0∧m.modes=zero4∧m.lv=zero64)=true by simp[hf,hxy]);have hmf:=fits_0;clear h hk hno hyes hf hxy;go_enter Tryz.func52,Tryz.ntmps52
 go_wp2_with (refine wpList_iload 32 _ rfl rfl H 0 71 rfl _ Tryz.underlying32 rfl size_Macro (by rw[Hl.out];omega) _ (by rw[sub_all _ _ Hl.out]) ?_)
 refine(impl_kindOf_0 m _ Hm.out Hk.out).mono ?_
 rintro e w1 ⟨rfl,e1⟩
 have H1:=H.ext e1;have E1:=(Ext.alloc w (.cells (ic m.zs) 32)).trans e1;clear H e1;go_wp2_with (first|(refine wpList_iload 27 _ rfl rfl H1 1 2 rfl _ Tryz.underlying27 rfl size_Vector (by rw[Hl.out];omega) _ Mac.zs_mv ?_))
 refine(impl_VectorValid_yes m.x m.y _ hv).mono ?_
 rintro e w2 ⟨rfl,e2⟩
 have H2:=H1.ext e2;have E2:=E1.trans e2;clear H1 E1 e2 hv;go_wp2_with fail
 refine(skipped_fits_any m _ Hm.out true Hfit.out).mono ?_
 rintro e w3 ⟨rfl,e3⟩
 have H3:=H2.ext e3;have E3:=E2.trans e3;clear H2 E2 e3 hmf;go_wp2_with (refine wpList_iload 30 _ rfl rfl H3 7 64 rfl _ Tryz.underlying30 rfl size_A16A4 (by rw[Hl.out];omega) _ (by rw[Mac.zs_lv Hm.out]) ?_)
 go_loopw [23] (fun i wr=>∃ k:Nat,k≤4∧i= .int .i64 k∧Ext w wr∧Hid (∀ j,j<k→inB 4080 (sub m.lv (j*16) 16)=true)) (fun i _=>4-(intOf i).toNat)
 case atStart=>exact⟨0,by omega,rfl,E3,Lib.hid (fun j hj=>by omega)⟩
 case round =>
  obtain⟨k,hk,rfl,E4,hall⟩:=hrel;clear H3 E3
  by_cases hlt:k<4
  ·have hbl:=sub_len m.lv (k*16) 16 (by rw[Hm.out.lv];omega);have Hbl:=Lib.hid hbl;have p0:=IB.new wr 29 (List.replicate 16 0);have Hsa:=Lib.hid (sub_all _ 16 hbl);clear hbl;go_wp2_with (first|(refine wpList_iindexa _ _ _ rfl rfl m.lv rfl k 4 16 _ rfl rfl _ _ Tryz.underlying30 Tryz.underlying29 rfl size_A16 hlt ?_)|(refine wpList_istore _ _ _ rfl rfl p0 0 16 rfl _ rfl _ rfl size_A16 Hbl.out (by simp) ?_;intro w6 p6 g6;refine Hid.out ?_))
   rw[spl_all (by rw[Hbl.out];rfl)]at p6;have E6:Ext w w6:=Ext.grown (E4.trans (Ext.alloc _ _)) g6 (fun q hq=>by cases hq;exact E4.size);clear g6 p0 E4;refine Lib.hid ?_;go_wp2_with (refine wpList_iload 29 _ rfl rfl p6 0 16 rfl _ Tryz.underlying29 rfl size_A16 (by rw[Hbl.out];omega) _ (by rw[Hsa.out]) ?_)
   refine(impl_blockWithin_any _ 4080 _ Hbl.out (by omega) (by omega)).mono ?_
   rintro e w5 ⟨rfl,e5⟩
   have E5:=E6.trans e5;clear E6 e5 p6;cases hb:inB 4080 (sub m.lv (k*16) 16)
   ·have hres:=Lib.hid (HNO.out k hlt hb);clear hb;go_wp2;go_ret
    exact⟨(ret_bool hres.out).symm,E5⟩
   ·have hall2:=Lib.hid (show ∀ j,j<k+1→inB 4080 (sub m.lv (j*16) 16)=true from fun j hj=>by
     by_cases hjk:j=k
     ·subst hjk;exact hb
     ·exact hall.out j (by omega))
    clear hb;go_wp2;go_roundw
    case rel=>exact⟨k+1,by omega,by go_num,E5,hall2⟩
    case measure=>simp[intOf];omega
  ·obtain rfl:k=4:=by omega
   have hres:=Lib.hid (HYES.out hall.out);go_wp2;go_ret
   exact⟨(ret_bool hres.out).symm,E4⟩
theorem impl_MacroValid_nofit0 (m:Mac) (w:World) (h:m.ok) (hk:m.kind=0) (hv:vv m.x m.y) (hf : ¬ (m.x=0∧m.y=0∧m.modes=zero4∧m.lv=zero64)) :
 Calls Tryz.prog 52 #[.agg (ic m.zs)] w fun e w'=>e= .returned (.bool false)∧Ext w w':=by
 have H:=IB.new w 32 m.zs;have Hl:=Lib.hid (Mac.zs_len h);have Hm:=Lib.hid h;have Hk:=Lib.hid hk;have Hfit:=Lib.hid (show decide (m.x=0∧m.y=0∧m.modes=zero4∧m.lv=zero64)=false by simpa using hf);have hmf:=fits_0;clear h hk hf;go_enter Tryz.func52,Tryz.ntmps52
 go_wp2_with (refine wpList_iload 32 _ rfl rfl H 0 71 rfl _ Tryz.underlying32 rfl size_Macro (by rw[Hl.out];omega) _ (by rw[sub_all _ _ Hl.out]) ?_)
 refine(impl_kindOf_0 m _ Hm.out Hk.out).mono ?_
 rintro e w1 ⟨rfl,e1⟩
 have H1:=H.ext e1;have E1:=(Ext.alloc w (.cells (ic m.zs) 32)).trans e1;clear H e1;go_wp2_with (first|(refine wpList_iload 27 _ rfl rfl H1 1 2 rfl _ Tryz.underlying27 rfl size_Vector (by rw[Hl.out];omega) _ Mac.zs_mv ?_))
 refine(impl_VectorValid_yes m.x m.y _ hv).mono ?_
 rintro e w2 ⟨rfl,e2⟩
 have H2:=H1.ext e2;have E2:=E1.trans e2;clear H1 E1 e2 hv;go_wp2_with fail
 refine(skipped_fits_any m _ Hm.out false Hfit.out).mono ?_
 rintro e w3 ⟨rfl,e3⟩
 go_wp2;go_ret
 exact⟨rfl,E2.trans e3⟩
theorem impl_MacroValid_novec0 (m:Mac) (w:World) (h:m.ok) (hk:m.kind=0) (hv : ¬ vv m.x m.y) :
 Calls Tryz.prog 52 #[.agg (ic m.zs)] w fun e w'=>e= .returned (.bool false)∧Ext w w':=by
 have H:=IB.new w 32 m.zs;have Hl:=Lib.hid (Mac.zs_len h);have Hm:=Lib.hid h;have Hk:=Lib.hid hk;clear h hk;go_enter Tryz.func52,Tryz.ntmps52
 go_wp2_with (refine wpList_iload 32 _ rfl rfl H 0 71 rfl _ Tryz.underlying32 rfl size_Macro (by rw[Hl.out];omega) _ (by rw[sub_all _ _ Hl.out]) ?_)
 refine(impl_kindOf_0 m _ Hm.out Hk.out).mono ?_
 rintro e w1 ⟨rfl,e1⟩
 have H1:=H.ext e1;have E1:=(Ext.alloc w (.cells (ic m.zs) 32)).trans e1;clear H e1;go_wp2_with (first|(refine wpList_iload 27 _ rfl rfl H1 1 2 rfl _ Tryz.underlying27 rfl size_Vector (by rw[Hl.out];omega) _ Mac.zs_mv ?_))
 refine(impl_VectorValid_no m.x m.y _ hv).mono ?_
 rintro e w2 ⟨rfl,e2⟩
 clear hv H1;go_wp2;go_ret
 exact⟨rfl,E1.trans e2⟩
theorem impl_MacroValid_lv1 (m:Mac) (w:World) (h:m.ok) (hk:m.kind=1) (hv:vv m.x m.y) (hf:m.modes=zero4) (r:Bool) (hno:∀ k,k<4→inB 4080 (sub m.lv (k*16) 16)=false→r=false) (hyes:(∀ k,k<4→inB 4080 (sub m.lv (k*16) 16)=true)→r=true) :
 Calls Tryz.prog 52 #[.agg (ic m.zs)] w fun e w'=>e= .returned (.bool r)∧Ext w w':=by
 have H:=IB.new w 32 m.zs;have Hl:=Lib.hid (Mac.zs_len h);have Hm:=Lib.hid h;have Hk:=Lib.hid hk;have HNO:=Lib.hid hno;have HYES:=Lib.hid hyes;have Hfit:=Lib.hid (show decide (m.modes=zero4)=true by simp[hf]);have hmf:=fits_1;clear h hk hno hyes hf;go_enter Tryz.func52,Tryz.ntmps52
 go_wp2_with (refine wpList_iload 32 _ rfl rfl H 0 71 rfl _ Tryz.underlying32 rfl size_Macro (by rw[Hl.out];omega) _ (by rw[sub_all _ _ Hl.out]) ?_)
 refine(impl_kindOf_1 m _ Hm.out Hk.out).mono ?_
 rintro e w1 ⟨rfl,e1⟩
 have H1:=H.ext e1;have E1:=(Ext.alloc w (.cells (ic m.zs) 32)).trans e1;clear H e1;go_wp2_with (first|(refine wpList_iload 27 _ rfl rfl H1 1 2 rfl _ Tryz.underlying27 rfl size_Vector (by rw[Hl.out];omega) _ Mac.zs_mv ?_))
 refine(impl_VectorValid_yes m.x m.y _ hv).mono ?_
 rintro e w2 ⟨rfl,e2⟩
 have H2:=H1.ext e2;have E2:=E1.trans e2;clear H1 E1 e2 hv;go_wp2_with fail
 refine(inter_fits_any m _ Hm.out true Hfit.out).mono ?_
 rintro e w3 ⟨rfl,e3⟩
 have H3:=H2.ext e3;have E3:=E2.trans e3;clear H2 E2 e3 hmf;go_wp2_with (refine wpList_iload 30 _ rfl rfl H3 7 64 rfl _ Tryz.underlying30 rfl size_A16A4 (by rw[Hl.out];omega) _ (by rw[Mac.zs_lv Hm.out]) ?_)
 go_loopw [23] (fun i wr=>∃ k:Nat,k≤4∧i= .int .i64 k∧Ext w wr∧Hid (∀ j,j<k→inB 4080 (sub m.lv (j*16) 16)=true)) (fun i _=>4-(intOf i).toNat)
 case atStart=>exact⟨0,by omega,rfl,E3,Lib.hid (fun j hj=>by omega)⟩
 case round =>
  obtain⟨k,hk,rfl,E4,hall⟩:=hrel;clear H3 E3
  by_cases hlt:k<4
  ·have hbl:=sub_len m.lv (k*16) 16 (by rw[Hm.out.lv];omega);have Hbl:=Lib.hid hbl;have p0:=IB.new wr 29 (List.replicate 16 0);have Hsa:=Lib.hid (sub_all _ 16 hbl);clear hbl;go_wp2_with (first|(refine wpList_iindexa _ _ _ rfl rfl m.lv rfl k 4 16 _ rfl rfl _ _ Tryz.underlying30 Tryz.underlying29 rfl size_A16 hlt ?_)|(refine wpList_istore _ _ _ rfl rfl p0 0 16 rfl _ rfl _ rfl size_A16 Hbl.out (by simp) ?_;intro w6 p6 g6;refine Hid.out ?_))
   rw[spl_all (by rw[Hbl.out];rfl)]at p6;have E6:Ext w w6:=Ext.grown (E4.trans (Ext.alloc _ _)) g6 (fun q hq=>by cases hq;exact E4.size);clear g6 p0 E4;refine Lib.hid ?_;go_wp2_with (refine wpList_iload 29 _ rfl rfl p6 0 16 rfl _ Tryz.underlying29 rfl size_A16 (by rw[Hbl.out];omega) _ (by rw[Hsa.out]) ?_)
   refine(impl_blockWithin_any _ 4080 _ Hbl.out (by omega) (by omega)).mono ?_
   rintro e w5 ⟨rfl,e5⟩
   have E5:=E6.trans e5;clear E6 e5 p6;cases hb:inB 4080 (sub m.lv (k*16) 16)
   ·have hres:=Lib.hid (HNO.out k hlt hb);clear hb;go_wp2;go_ret
    exact⟨(ret_bool hres.out).symm,E5⟩
   ·have hall2:=Lib.hid (show ∀ j,j<k+1→inB 4080 (sub m.lv (j*16) 16)=true from fun j hj=>by
     by_cases hjk:j=k
     ·subst hjk;exact hb
     ·exact hall.out j (by omega))
    clear hb;go_wp2;go_roundw
    case rel=>exact⟨k+1,by omega,by go_num,E5,hall2⟩
    case measure=>simp[intOf];omega
  ·obtain rfl:k=4:=by omega
   have hres:=Lib.hid (HYES.out hall.out);go_wp2;go_ret
   exact⟨(ret_bool hres.out).symm,E4⟩
theorem impl_MacroValid_nofit1 (m:Mac) (w:World) (h:m.ok) (hk:m.kind=1) (hv:vv m.x m.y) (hf : ¬ m.modes=zero4) :
 Calls Tryz.prog 52 #[.agg (ic m.zs)] w fun e w'=>e= .returned (.bool false)∧Ext w w':=by
 have H:=IB.new w 32 m.zs;have Hl:=Lib.hid (Mac.zs_len h);have Hm:=Lib.hid h;have Hk:=Lib.hid hk;have Hfit:=Lib.hid (show decide (m.modes=zero4)=false by simpa using hf);have hmf:=fits_1;clear h hk hf;go_enter Tryz.func52,Tryz.ntmps52
 go_wp2_with (refine wpList_iload 32 _ rfl rfl H 0 71 rfl _ Tryz.underlying32 rfl size_Macro (by rw[Hl.out];omega) _ (by rw[sub_all _ _ Hl.out]) ?_)
 refine(impl_kindOf_1 m _ Hm.out Hk.out).mono ?_
 rintro e w1 ⟨rfl,e1⟩
 have H1:=H.ext e1;have E1:=(Ext.alloc w (.cells (ic m.zs) 32)).trans e1;clear H e1;go_wp2_with (first|(refine wpList_iload 27 _ rfl rfl H1 1 2 rfl _ Tryz.underlying27 rfl size_Vector (by rw[Hl.out];omega) _ Mac.zs_mv ?_))
 refine(impl_VectorValid_yes m.x m.y _ hv).mono ?_
 rintro e w2 ⟨rfl,e2⟩
 have H2:=H1.ext e2;have E2:=E1.trans e2;clear H1 E1 e2 hv;go_wp2_with fail
 refine(inter_fits_any m _ Hm.out false Hfit.out).mono ?_
 rintro e w3 ⟨rfl,e3⟩
 go_wp2;go_ret
 exact⟨rfl,E2.trans e3⟩
theorem impl_MacroValid_novec1 (m:Mac) (w:World) (h:m.ok) (hk:m.kind=1) (hv : ¬ vv m.x m.y) :
 Calls Tryz.prog 52 #[.agg (ic m.zs)] w fun e w'=>e= .returned (.bool false)∧Ext w w':=by
 have H:=IB.new w 32 m.zs;have Hl:=Lib.hid (Mac.zs_len h);have Hm:=Lib.hid h;have Hk:=Lib.hid hk;clear h hk;go_enter Tryz.func52,Tryz.ntmps52
 go_wp2_with (refine wpList_iload 32 _ rfl rfl H 0 71 rfl _ Tryz.underlying32 rfl size_Macro (by rw[Hl.out];omega) _ (by rw[sub_all _ _ Hl.out]) ?_)
 refine(impl_kindOf_1 m _ Hm.out Hk.out).mono ?_
 rintro e w1 ⟨rfl,e1⟩
 have H1:=H.ext e1;have E1:=(Ext.alloc w (.cells (ic m.zs) 32)).trans e1;clear H e1;go_wp2_with (first|(refine wpList_iload 27 _ rfl rfl H1 1 2 rfl _ Tryz.underlying27 rfl size_Vector (by rw[Hl.out];omega) _ Mac.zs_mv ?_))
 refine(impl_VectorValid_no m.x m.y _ hv).mono ?_
 rintro e w2 ⟨rfl,e2⟩
 clear hv H1;go_wp2;go_ret
 exact⟨rfl,E1.trans e2⟩
theorem impl_MacroValid_lv2 (m:Mac) (w:World) (h:m.ok) (hk:m.kind=2) (hv:vv m.x m.y) (hf:∀ j,j<4→0≤nth m.modes j∧nth m.modes j≤4) (hxy:m.x=0∧m.y=0) (r:Bool) (hno:∀ k,k<4→inB 4080 (sub m.lv (k*16) 16)=false→r=false) (hyes:(∀ k,k<4→inB 4080 (sub m.lv (k*16) 16)=true)→r=true) :
 Calls Tryz.prog 52 #[.agg (ic m.zs)] w fun e w'=>e= .returned (.bool r)∧Ext w w':=by
 have H:=IB.new w 32 m.zs;have Hl:=Lib.hid (Mac.zs_len h);have Hm:=Lib.hid h;have Hk:=Lib.hid hk;have HNO:=Lib.hid hno;have HYES:=Lib.hid hyes;have Hfit:=Lib.hid (⟨hf,by simp[hxy]⟩:(∀ j,j<4→0≤nth m.modes j∧nth m.modes j≤4)∧decide (m.x=0∧m.y=0)=true);have hmf:=fits_2;clear h hk hno hyes hf hxy;go_enter Tryz.func52,Tryz.ntmps52
 go_wp2_with (refine wpList_iload 32 _ rfl rfl H 0 71 rfl _ Tryz.underlying32 rfl size_Macro (by rw[Hl.out];omega) _ (by rw[sub_all _ _ Hl.out]) ?_)
 refine(impl_kindOf_2 m _ Hm.out Hk.out).mono ?_
 rintro e w1 ⟨rfl,e1⟩
 have H1:=H.ext e1;have E1:=(Ext.alloc w (.cells (ic m.zs) 32)).trans e1;clear H e1;go_wp2_with (first|(refine wpList_iload 27 _ rfl rfl H1 1 2 rfl _ Tryz.underlying27 rfl size_Vector (by rw[Hl.out];omega) _ Mac.zs_mv ?_))
 refine(impl_VectorValid_yes m.x m.y _ hv).mono ?_
 rintro e w2 ⟨rfl,e2⟩
 have H2:=H1.ext e2;have E2:=E1.trans e2;clear H1 E1 e2 hv;go_wp2_with fail
 refine(intra_fits_yes m _ Hm.out Hfit.out.1 true Hfit.out.2).mono ?_
 rintro e w3 ⟨rfl,e3⟩
 have H3:=H2.ext e3;have E3:=E2.trans e3;clear H2 E2 e3 hmf;go_wp2_with (refine wpList_iload 30 _ rfl rfl H3 7 64 rfl _ Tryz.underlying30 rfl size_A16A4 (by rw[Hl.out];omega) _ (by rw[Mac.zs_lv Hm.out]) ?_)
 go_loopw [23] (fun i wr=>∃ k:Nat,k≤4∧i= .int .i64 k∧Ext w wr∧Hid (∀ j,j<k→inB 4080 (sub m.lv (j*16) 16)=true)) (fun i _=>4-(intOf i).toNat)
 case atStart=>exact⟨0,by omega,rfl,E3,Lib.hid (fun j hj=>by omega)⟩
 case round =>
  obtain⟨k,hk,rfl,E4,hall⟩:=hrel;clear H3 E3
  by_cases hlt:k<4
  ·have hbl:=sub_len m.lv (k*16) 16 (by rw[Hm.out.lv];omega);have Hbl:=Lib.hid hbl;have p0:=IB.new wr 29 (List.replicate 16 0);have Hsa:=Lib.hid (sub_all _ 16 hbl);clear hbl;go_wp2_with (first|(refine wpList_iindexa _ _ _ rfl rfl m.lv rfl k 4 16 _ rfl rfl _ _ Tryz.underlying30 Tryz.underlying29 rfl size_A16 hlt ?_)|(refine wpList_istore _ _ _ rfl rfl p0 0 16 rfl _ rfl _ rfl size_A16 Hbl.out (by simp) ?_;intro w6 p6 g6;refine Hid.out ?_))
   rw[spl_all (by rw[Hbl.out];rfl)]at p6;have E6:Ext w w6:=Ext.grown (E4.trans (Ext.alloc _ _)) g6 (fun q hq=>by cases hq;exact E4.size);clear g6 p0 E4;refine Lib.hid ?_;go_wp2_with (refine wpList_iload 29 _ rfl rfl p6 0 16 rfl _ Tryz.underlying29 rfl size_A16 (by rw[Hbl.out];omega) _ (by rw[Hsa.out]) ?_)
   refine(impl_blockWithin_any _ 4080 _ Hbl.out (by omega) (by omega)).mono ?_
   rintro e w5 ⟨rfl,e5⟩
   have E5:=E6.trans e5;clear E6 e5 p6;cases hb:inB 4080 (sub m.lv (k*16) 16)
   ·have hres:=Lib.hid (HNO.out k hlt hb);clear hb;go_wp2;go_ret
    exact⟨(ret_bool hres.out).symm,E5⟩
   ·have hall2:=Lib.hid (show ∀ j,j<k+1→inB 4080 (sub m.lv (j*16) 16)=true from fun j hj=>by
     by_cases hjk:j=k
     ·subst hjk;exact hb
     ·exact hall.out j (by omega))
    clear hb;go_wp2;go_roundw
    case rel=>exact⟨k+1,by omega,by go_num,E5,hall2⟩
    case measure=>simp[intOf];omega
  ·obtain rfl:k=4:=by omega
   have hres:=Lib.hid (HYES.out hall.out);go_wp2;go_ret
   exact⟨(ret_bool hres.out).symm,E4⟩
theorem impl_MacroValid_nofit2 (m:Mac) (w:World) (h:m.ok) (hk:m.kind=2) (hv:vv m.x m.y) (hf : ¬ ∀ j,j<4→0≤nth m.modes j∧nth m.modes j≤4) :
 Calls Tryz.prog 52 #[.agg (ic m.zs)] w fun e w'=>e= .returned (.bool false)∧Ext w w':=by
 have H:=IB.new w 32 m.zs;have Hl:=Lib.hid (Mac.zs_len h);have Hm:=Lib.hid h;have Hk:=Lib.hid hk;have Hfit:=Lib.hid hf;have hmf:=fits_2;clear h hk hf;go_enter Tryz.func52,Tryz.ntmps52
 go_wp2_with (refine wpList_iload 32 _ rfl rfl H 0 71 rfl _ Tryz.underlying32 rfl size_Macro (by rw[Hl.out];omega) _ (by rw[sub_all _ _ Hl.out]) ?_)
 refine(impl_kindOf_2 m _ Hm.out Hk.out).mono ?_
 rintro e w1 ⟨rfl,e1⟩
 have H1:=H.ext e1;have E1:=(Ext.alloc w (.cells (ic m.zs) 32)).trans e1;clear H e1;go_wp2_with (first|(refine wpList_iload 27 _ rfl rfl H1 1 2 rfl _ Tryz.underlying27 rfl size_Vector (by rw[Hl.out];omega) _ Mac.zs_mv ?_))
 refine(impl_VectorValid_yes m.x m.y _ hv).mono ?_
 rintro e w2 ⟨rfl,e2⟩
 have H2:=H1.ext e2;have E2:=E1.trans e2;clear H1 E1 e2 hv;go_wp2_with fail
 refine(intra_fits_no m _ Hm.out Hfit.out).mono ?_
 rintro e w3 ⟨rfl,e3⟩
 go_wp2;go_ret
 exact⟨rfl,E2.trans e3⟩
theorem impl_MacroValid_nofit2b (m:Mac) (w:World) (h:m.ok) (hk:m.kind=2) (hv:vv m.x m.y) (hf:(∀ j,j<4→0≤nth m.modes j∧nth m.modes j≤4) ∧ ¬ (m.x=0∧m.y=0)) :
 Calls Tryz.prog 52 #[.agg (ic m.zs)] w fun e w'=>e= .returned (.bool false)∧Ext w w':=by
 have H:=IB.new w 32 m.zs;have Hl:=Lib.hid (Mac.zs_len h);have Hm:=Lib.hid h;have Hk:=Lib.hid hk;have Hfit:=Lib.hid hf;have hmf:=fits_2;clear h hk hf;go_enter Tryz.func52,Tryz.ntmps52
 go_wp2_with (refine wpList_iload 32 _ rfl rfl H 0 71 rfl _ Tryz.underlying32 rfl size_Macro (by rw[Hl.out];omega) _ (by rw[sub_all _ _ Hl.out]) ?_)
 refine(impl_kindOf_2 m _ Hm.out Hk.out).mono ?_
 rintro e w1 ⟨rfl,e1⟩
 have H1:=H.ext e1;have E1:=(Ext.alloc w (.cells (ic m.zs) 32)).trans e1;clear H e1;go_wp2_with (first|(refine wpList_iload 27 _ rfl rfl H1 1 2 rfl _ Tryz.underlying27 rfl size_Vector (by rw[Hl.out];omega) _ Mac.zs_mv ?_))
 refine(impl_VectorValid_yes m.x m.y _ hv).mono ?_
 rintro e w2 ⟨rfl,e2⟩
 have H2:=H1.ext e2;have E2:=E1.trans e2;clear H1 E1 e2 hv;go_wp2_with fail
 refine(intra_fits_yes m _ Hm.out Hfit.out.1 false (by simpa using Hfit.out.2)).mono ?_
 rintro e w3 ⟨rfl,e3⟩
 go_wp2;go_ret
 exact⟨rfl,E2.trans e3⟩
theorem impl_MacroValid_novec2 (m:Mac) (w:World) (h:m.ok) (hk:m.kind=2) (hv : ¬ vv m.x m.y) :
 Calls Tryz.prog 52 #[.agg (ic m.zs)] w fun e w'=>e= .returned (.bool false)∧Ext w w':=by
 have H:=IB.new w 32 m.zs;have Hl:=Lib.hid (Mac.zs_len h);have Hm:=Lib.hid h;have Hk:=Lib.hid hk;clear h hk;go_enter Tryz.func52,Tryz.ntmps52
 go_wp2_with (refine wpList_iload 32 _ rfl rfl H 0 71 rfl _ Tryz.underlying32 rfl size_Macro (by rw[Hl.out];omega) _ (by rw[sub_all _ _ Hl.out]) ?_)
 refine(impl_kindOf_2 m _ Hm.out Hk.out).mono ?_
 rintro e w1 ⟨rfl,e1⟩
 have H1:=H.ext e1;have E1:=(Ext.alloc w (.cells (ic m.zs) 32)).trans e1;clear H e1;go_wp2_with (first|(refine wpList_iload 27 _ rfl rfl H1 1 2 rfl _ Tryz.underlying27 rfl size_Vector (by rw[Hl.out];omega) _ Mac.zs_mv ?_))
 refine(impl_VectorValid_no m.x m.y _ hv).mono ?_
 rintro e w2 ⟨rfl,e2⟩
 clear hv H1;go_wp2;go_ret
 exact⟨rfl,E1.trans e2⟩
theorem impl_MacroValid_nokind (m:Mac) (w:World) (h:m.ok) (hk:m.kind<0∨2<m.kind) :
 Calls Tryz.prog 52 #[.agg (ic m.zs)] w fun e w'=>e= .returned (.bool false)∧Ext w w':=by
 have H:=IB.new w 32 m.zs;have Hl:=Lib.hid (Mac.zs_len h);have Hm:=Lib.hid h;have Hk:=Lib.hid hk;clear h hk;go_enter Tryz.func52,Tryz.ntmps52
 go_wp2_with (refine wpList_iload 32 _ rfl rfl H 0 71 rfl _ Tryz.underlying32 rfl size_Macro (by rw[Hl.out];omega) _ (by rw[sub_all _ _ Hl.out]) ?_)
 refine(impl_kindOf_no m _ Hm.out Hk.out).mono ?_
 rintro e w1 ⟨rfl,e1⟩
 have H1:=H.ext e1;have E1:=(Ext.alloc w (.cells (ic m.zs) 32)).trans e1;clear H e1;go_wp2;go_ret
 exact⟨rfl,E1⟩
theorem impl_MacroValid_any (m:Mac) (w:World) (h:m.ok) :
 Calls Tryz.prog 52 #[.agg (ic m.zs)] w fun e w'=>e= .returned (.bool (decide m.valid))∧Ext w w':=by
 by_cases hk:0≤m.kind∧m.kind≤2
 ·have hlv:=inB_blocks (B:=4080) h.lv
  by_cases hv:vv m.x m.y
  ·have step:∀ r:Bool,(r=true↔m.valid)→decide m.valid=r:=fun r hr=>by
    cases r
    ·exact decide_eq_false (fun h=>by have:=hr.2 h;cases this)
    ·exact decide_eq_true (hr.1 rfl)
   obtain hk0|hk1|hk2:m.kind=0∨m.kind=1∨m.kind=2:=by omega
   ·by_cases hf:m.x=0∧m.y=0∧m.modes=zero4∧m.lv=zero64
    ·rw[step (inB 4080 m.lv) ⟨fun hb=>⟨hk,hv,fun _=>⟨hf.1,hf.2.1⟩,fun _=>hf.2.2.1,fun h=>by omega,fun _=>hf.2.2.2,hb⟩,fun h=>h.2.2.2.2.2.2⟩];refine impl_MacroValid_lv0 m w h hk0 hv hf.2.2 ⟨hf.1,hf.2.1⟩ _ (fun k hk hb => ?_) (fun hb=>hlv.2 hb);cases hc:inB 4080 m.lv
     ·rfl
     ·have:=hlv.1 hc k hk;rw[hb]at this;cases this
    ·rw[step false ⟨fun h=>(by cases h),fun h=>absurd ⟨(h.2.2.1 (by omega)).1,(h.2.2.1 (by omega)).2,h.2.2.2.1 (by omega),h.2.2.2.2.2.1 hk0⟩ hf⟩];exact impl_MacroValid_nofit0 m w h hk0 hv hf
   ·by_cases hf:m.modes=zero4
    ·rw[step (inB 4080 m.lv) ⟨fun hb=>⟨hk,hv,fun h=>absurd hk1 h,fun _=>hf,fun h=>by omega,fun h=>by omega,hb⟩,fun h=>h.2.2.2.2.2.2⟩];refine impl_MacroValid_lv1 m w h hk1 hv hf _ (fun k hk hb => ?_) (fun hb=>hlv.2 hb);cases hc:inB 4080 m.lv
     ·rfl
     ·have:=hlv.1 hc k hk;rw[hb]at this;cases this
    ·rw[step false ⟨fun h=>(by cases h),fun h=>absurd (h.2.2.2.1 (by omega)) hf⟩];exact impl_MacroValid_nofit1 m w h hk1 hv hf
   ·by_cases hf:∀ j,j<4→0≤nth m.modes j∧nth m.modes j≤4
    ·by_cases hxy:m.x=0∧m.y=0
     ·rw[step (inB 4080 m.lv) ⟨fun hb=>⟨hk,hv,fun _=>hxy,fun h=>absurd hk2 h,fun _=>hf,fun h=>by omega,hb⟩,fun h=>h.2.2.2.2.2.2⟩];refine impl_MacroValid_lv2 m w h hk2 hv hf hxy _ (fun k hk hb => ?_) (fun hb=>hlv.2 hb);cases hc:inB 4080 m.lv
      ·rfl
      ·have:=hlv.1 hc k hk;rw[hb]at this;cases this
     ·rw[step false ⟨fun h=>(by cases h),fun h=>absurd (h.2.2.1 (by omega)) hxy⟩];exact impl_MacroValid_nofit2b m w h hk2 hv ⟨hf,hxy⟩
    ·rw[step false ⟨fun h=>(by cases h),fun h=>absurd (h.2.2.2.2.1 hk2) hf⟩];exact impl_MacroValid_nofit2 m w h hk2 hv hf
  ·rw[show decide m.valid=false from decide_eq_false (fun h=>hv h.2.1)];obtain hk0|hk1|hk2:m.kind=0∨m.kind=1∨m.kind=2:=by omega
   ·exact impl_MacroValid_novec0 m w h hk0 hv
   ·exact impl_MacroValid_novec1 m w h hk1 hv
   ·exact impl_MacroValid_novec2 m w h hk2 hv
 ·rw[show decide m.valid=false from decide_eq_false (fun h=>hk h.1)];exact impl_MacroValid_nokind m w h (by omega)
/-- A macroblock begins at a position. -/
def placeP (p:Pic) (x y:Int):Prop:=p.valid∧0≤x∧x<p.w∧x%8=0∧0≤y∧y<p.h∧y%8=0
instance (p : Pic) (x y : Int) : Decidable (placeP p x y) := by unfold placeP; infer_instance
/-- Two valid pictures of one size. -/
def alikeP (p s:Pic):Prop:=p.valid∧s.valid∧p.w=s.w∧p.h=s.h
instance (p s : Pic) : Decidable (alikeP p s) := by unfold alikeP; infer_instance
/-- The arguments of Reconstruct are valid. -/
def okR (ref p:Pic) (x y:Int) (m:Mac) (q top:Int):Prop:=placeP p x y∧m.valid∧(0≤q∧q≤15)∧(0≤top∧top≤y)∧(m.kind=2∨alikeP ref p)
noncomputable instance (ref p : Pic) (x y : Int) (m : Mac) (q top : Int) : Decidable (okR ref p x y m q top) := Classical.propDecidable _
theorem l7Place_at (p:Pic) (x y:Int) (a:Option Addr) (c n:Nat) (w:World) (hn:n=p.px.length) (nc:n≤9223372036854775807) (r:Sl w a n (p.px.map (Value.int .i64))) :
 Calls Tryz.prog 55 #[.agg #[.int .i64 p.w,.int .i64 p.h,.slice a n c],.int .i64 x,.int .i64 y] w fun e w'=>e= .returned (.bool (decide (placeP p x y)))∧Ext w w':=by
 have h:=l7Place_any p x y a c n w hn nc r;rw[show decide ((p.valid)∧(0≤x∧x≤p.w-1)∧(0≤y∧y≤p.h-1)∧(x%8=0)∧(y%8=0))=decide (placeP p x y)from decide_eq_decide.2 ⟨fun⟨h0,h1,h2,h3,h4⟩=>⟨h0,h1.1,by omega,h3,h2.1,by omega,h4⟩,fun⟨h0,h1,h2,h3,h4,h5,h6⟩=>⟨h0,⟨h1,by omega⟩,⟨h4,by omega⟩,h3,h6⟩⟩]at h;exact h
theorem l1Same_at (p s:Pic) (a b:Option Addr) (c d n m:Nat) (w:World) (hn:n=p.px.length) (hm:m=s.px.length) (nc:n≤9223372036854775807) (mc:m≤9223372036854775807) (r:Sl w a n (p.px.map (Value.int .i64))) (q:Sl w b m (s.px.map (Value.int .i64))) :
 Calls Tryz.prog 41 #[.agg #[.int .i64 p.w,.int .i64 p.h,.slice a n c],.agg #[.int .i64 s.w,.int .i64 s.h,.slice b m d]] w fun e w'=>e= .returned (.bool (decide (alikeP p s)))∧Ext w w':=l1Same_any p s a b c d n m w hn hm nc mc r q
theorem alike_at (p s:Pic) (a b:Option Addr) (c d n m:Nat) (w:World) (hn:n=p.px.length) (hm:m=s.px.length) (nc:n≤9223372036854775807) (mc:m≤9223372036854775807) (r:Sl w a n (p.px.map (Value.int .i64))) (q:Sl w b m (s.px.map (Value.int .i64))) :
 Calls Tryz.prog 38 #[.agg #[.int .i64 p.w,.int .i64 p.h,.slice a n c],.agg #[.int .i64 s.w,.int .i64 s.h,.slice b m d]] w fun e w'=>e= .returned (.bool (decide (alikeP p s)))∧Ext w w':=alike_any p s a b c d n m w hn hm nc mc r q
theorem qV_in (q:Int) (w:World) (h:0≤q∧q≤15):Calls Tryz.prog 51 #[.int .i64 q] w fun e w'=>e= .returned (.bool true)∧w=w':=qualityValid_in q w h.1 h.2
theorem qV_out (q:Int) (w:World) (h : ¬ (0≤q∧q≤15)):Calls Tryz.prog 51 #[.int .i64 q] w fun e w'=>e= .returned (.bool false)∧w=w':=by
 by_cases h1:0≤q
 ·have d1:decide (0≤q)=true:=by simpa using h1
  have d2:decide (q≤15)=false:=by simp;omega
  go_enter Tryz.func51,Tryz.ntmps51
  go_wp2;go_ret
  exact⟨rfl,rfl⟩
 ·have d1:decide (0≤q)=false:=by simpa using h1
  go_enter Tryz.func51,Tryz.ntmps51
  go_wp2;go_ret
  exact⟨rfl,rfl⟩
theorem reconstructsK_any (ref p:Pic) (x y:Int) (m:Mac) (q top:Int) (a b:Option Addr) (c d n l:Nat) (w:World) (hn:n=ref.px.length) (hl:l=p.px.length) (nc:n≤9223372036854775807) (lc:l≤9223372036854775807) (r:Sl w a n (ref.px.map (Value.int .i64))) (s:Sl w b l (p.px.map (Value.int .i64))) (hm:m.ok) (hk:m.kind=2) :
 Calls Tryz.prog 39 #[.agg #[.int .i64 ref.w,.int .i64 ref.h,.slice a n c],.agg #[.int .i64 p.w,.int .i64 p.h,.slice b l d],.int .i64 x,.int .i64 y,.agg (ic m.zs),.int .i64 q,.int .i64 top] w fun e w'=>e= .returned (.bool (decide ((p.valid)∧(m.valid)∧(0≤q∧q≤15)∧((0≤x)∧(x<p.w)∧(x%8=0)∧(0≤y)∧(y<p.h)∧(y%8=0))∧(0≤top)∧(top≤y))))∧Ext w w':=by
 obtain⟨B,hB⟩:∃ B,B=decide ((p.valid)∧(m.valid)∧(0≤q∧q≤15)∧((0≤x)∧(x<p.w)∧(x%8=0)∧(0≤y)∧(y<p.h)∧(y%8=0))∧(0≤top)∧(top≤y)):=⟨_,rfl⟩;rw[←hB];have HB:=Lib.hid hB;clear hB;have HN:=Lib.hid hn;have HL:=Lib.hid hl;have HM:=Lib.hid hm;have Hl:=Lib.hid (Mac.zs_len hm);clear hn hl hm;have fk:(m.kind == 2)=true:=by simpa using hk
 clear hk;have a0_1:=Ext.alloc (w.alloc (.cells #[.int .i64 ref.w,.int .i64 ref.h,.slice a n c] 25)) (.cells #[.int .i64 p.w,.int .i64 p.h,.slice b l d] 25);have a0_2:=Ext.alloc ((w.alloc (.cells #[.int .i64 ref.w,.int .i64 ref.h,.slice a n c] 25)).alloc (.cells #[.int .i64 p.w,.int .i64 p.h,.slice b l d] 25)) (.cells (ic m.zs) 32);have X0_0:=a0_2.blk (a0_1.blk (blk_new w (.cells #[.int .i64 ref.w,.int .i64 ref.h,.slice a n c] 25)));have a1_2:=Ext.alloc ((w.alloc (.cells #[.int .i64 ref.w,.int .i64 ref.h,.slice a n c] 25)).alloc (.cells #[.int .i64 p.w,.int .i64 p.h,.slice b l d] 25)) (.cells (ic m.zs) 32);have X1_0:=a1_2.blk (blk_new (w.alloc (.cells #[.int .i64 ref.w,.int .i64 ref.h,.slice a n c] 25)) (.cells #[.int .i64 p.w,.int .i64 p.h,.slice b l d] 25));have X2_0:=IB.new ((w.alloc (.cells #[.int .i64 ref.w,.int .i64 ref.h,.slice a n c] 25)).alloc (.cells #[.int .i64 p.w,.int .i64 p.h,.slice b l d] 25)) 32 m.zs;have E_0:=((Ext.alloc w (.cells #[.int .i64 ref.w,.int .i64 ref.h,.slice a n c] 25)).trans (Ext.alloc (w.alloc (.cells #[.int .i64 ref.w,.int .i64 ref.h,.slice a n c] 25)) (.cells #[.int .i64 p.w,.int .i64 p.h,.slice b l d] 25))).trans (Ext.alloc ((w.alloc (.cells #[.int .i64 ref.w,.int .i64 ref.h,.slice a n c] 25)).alloc (.cells #[.int .i64 p.w,.int .i64 p.h,.slice b l d] 25)) (.cells (ic m.zs) 32));simp only[World.size_alloc]at X1_0 X2_0;clear a0_1 a0_2 a1_2;obtain⟨-,k0_0,k0_1,k0_2,-⟩:=bx3 X0_0;obtain⟨-,k1_0,k1_1,k1_2,-⟩:=bx3 X1_0;have k2_0:=X2_0.cell (i:=0) (by rw[Hl.out];omega);rw[Mac.zs_kind]at k2_0;go_enter Tryz.func39,Tryz.ntmps39
 obtain⟨D0,hD0⟩:∃ D0,D0=decide (p.valid):=⟨_,rfl⟩;have HD0:=Lib.hid hD0.symm;clear hD0;go_wp2_with fail
 refine(impl_PictureValid_any p b d l _ HL.out lc (s.ext E_0)).mono ?_;rw[show decide (p.valid)=D0 from HD0.out]
 rintro e w_1 ⟨rfl,e_1⟩
 have X0_1:=e_1.blk X0_0;have X1_1:=e_1.blk X1_0;have X2_1:=X2_0.ext e_1;have E_1:=E_0.trans e_1;clear k0_0 k0_1 k0_2 X0_0 k1_0 k1_1 k1_2 X1_0 k2_0 X2_0 E_0 e_1;obtain⟨-,k0_0,k0_1,k0_2,-⟩:=bx3 X0_1;obtain⟨-,k1_0,k1_1,k1_2,-⟩:=bx3 X1_1;have k2_0:=X2_1.cell (i:=0) (by rw[Hl.out];omega);rw[Mac.zs_kind]at k2_0
 by_cases h0:p.valid
 rotate_left
 ·have H0:=Lib.hid (show ¬ (p.valid) by first|exact h0|omega);obtain rfl:D0=false:=by rw[←HD0.out];exact decide_eq_false h0
  clear h0;go_wp2;go_ret
  exact⟨by rw[HB.out,(decide_eq_false fun hh=>by have h9:=H0.out;have h8:=hh.1;first|exact h9 h8|omega)];(first|done|rfl),E_1⟩
 obtain rfl:D0=true:=by rw[←HD0.out];exact decide_eq_true h0
 have H0:=Lib.hid h0;clear h0;obtain⟨D1,hD1⟩:∃ D1,D1=decide (m.valid):=⟨_,rfl⟩;have HD1:=Lib.hid hD1.symm;clear hD1;go_wp2_with (refine wpList_iload 32 _ rfl rfl X2_1 0 71 rfl _ Tryz.underlying32 rfl size_Macro (by rw[Hl.out];omega) _ (by rw[sub_all _ _ Hl.out]) ?_)
 refine(impl_MacroValid_any m _ HM.out).mono ?_;rw[show decide (m.valid)=D1 from HD1.out]
 rintro e w_2 ⟨rfl,e_2⟩
 have X0_2:=e_2.blk X0_1;have X1_2:=e_2.blk X1_1;have X2_2:=X2_1.ext e_2;have E_2:=E_1.trans e_2;clear k0_0 k0_1 k0_2 X0_1 k1_0 k1_1 k1_2 X1_1 k2_0 X2_1 E_1 e_2;obtain⟨-,k0_0,k0_1,k0_2,-⟩:=bx3 X0_2;obtain⟨-,k1_0,k1_1,k1_2,-⟩:=bx3 X1_2;have k2_0:=X2_2.cell (i:=0) (by rw[Hl.out];omega);rw[Mac.zs_kind]at k2_0
 by_cases h1:m.valid
 rotate_left
 ·have H1:=Lib.hid (show ¬ (m.valid) by first|exact h1|omega);obtain rfl:D1=false:=by rw[←HD1.out];exact decide_eq_false h1
  clear h1;go_wp2;go_ret
  exact⟨by rw[HB.out,(decide_eq_false fun hh=>by have h9:=H1.out;have h8:=hh.2.1;first|exact h9 h8|omega)];(first|done|rfl),E_2⟩
 obtain rfl:D1=true:=by rw[←HD1.out];exact decide_eq_true h1
 have H1:=Lib.hid h1;clear h1
 by_cases h2:0≤q∧q≤15
 rotate_left
 ·have H2:=Lib.hid (show ¬ (0≤q∧q≤15) by first|exact h2|omega);have Q2:=Lib.hid h2;clear h2;go_wp2_with fail
  refine(qV_out q _ Q2.out).mono ?_
  rintro e w_s2 ⟨rfl,rfl⟩
  go_wp2;go_ret
  exact⟨by rw[HB.out,(decide_eq_false fun hh=>by have h9:=H2.out;have h8:=hh.2.2.1;first|exact h9 h8|omega)];(first|done|rfl),E_2⟩
 have H2:=Lib.hid h2;have Q2:=Lib.hid h2;clear h2;go_wp2_with fail
 refine(qV_in q _ Q2.out).mono ?_
 rintro e w_s2 ⟨rfl,rfl⟩
 obtain⟨D3,hD3⟩:∃ D3,D3=decide ((0≤x)∧(x<p.w)∧(x%8=0)∧(0≤y)∧(y<p.h)∧(y%8=0)):=⟨_,rfl⟩;have HD3:=Lib.hid hD3.symm;clear hD3;go_wp2_with fail
 refine(begins_any p x y b d l _).mono ?_;rw[show decide ((0≤x)∧(x<p.w)∧(x%8=0)∧(0≤y)∧(y<p.h)∧(y%8=0))=D3 from HD3.out]
 rintro e w_3 ⟨rfl,e_3⟩
 have X0_3:=e_3.blk X0_2;have X1_3:=e_3.blk X1_2;have X2_3:=X2_2.ext e_3;have E_3:=E_2.trans e_3;clear k0_0 k0_1 k0_2 X0_2 k1_0 k1_1 k1_2 X1_2 k2_0 X2_2 E_2 e_3;obtain⟨-,k0_0,k0_1,k0_2,-⟩:=bx3 X0_3;obtain⟨-,k1_0,k1_1,k1_2,-⟩:=bx3 X1_3;have k2_0:=X2_3.cell (i:=0) (by rw[Hl.out];omega);rw[Mac.zs_kind]at k2_0
 by_cases h3:(0≤x)∧(x<p.w)∧(x%8=0)∧(0≤y)∧(y<p.h)∧(y%8=0)
 rotate_left
 ·have H3:=Lib.hid (show ¬ ((0≤x)∧(x<p.w)∧(x%8=0)∧(0≤y)∧(y<p.h)∧(y%8=0)) by first|exact h3|omega);obtain rfl:D3=false:=by rw[←HD3.out];exact decide_eq_false h3
  clear h3;go_wp2;go_ret
  exact⟨by rw[HB.out,(decide_eq_false fun hh=>by have h9:=H3.out;have h8:=hh.2.2.2.1;first|exact h9 h8|omega)];(first|done|rfl),E_3⟩
 obtain rfl:D3=true:=by rw[←HD3.out];exact decide_eq_true h3
 have H3:=Lib.hid h3;clear h3
 by_cases h4:0≤top
 rotate_left
 ·have H4:=Lib.hid (show ¬ (0≤top) by first|exact h4|omega);have f4:decide (top<0)=true:=by simpa using h4
  go_wp2;go_ret
  exact⟨by rw[HB.out,(decide_eq_false fun hh=>by have h9:=H4.out;have h8:=hh.2.2.2.2.1;first|exact h9 h8|omega)];(first|done|rfl),E_3⟩
 have H4:=Lib.hid h4;have f4:decide (top<0)=false:=by simpa using h4
 by_cases h5:top≤y
 rotate_left
 ·have H5:=Lib.hid (show ¬ (top≤y) by first|exact h5|omega);have f5:decide (y<top)=true:=by simpa using h5
  go_wp2;go_ret
  exact⟨by rw[HB.out,(decide_eq_false fun hh=>by have h9:=H5.out;have h8:=hh.2.2.2.2.2;first|exact h9 h8|omega)];(first|done|rfl),E_3⟩
 have H5:=Lib.hid h5;have f5:decide (y<top)=false:=by simpa using h5
 go_wp2;go_ret
 exact⟨by rw[HB.out,(decide_eq_true ⟨H0.out,H1.out,H2.out,H3.out,H4.out,H5.out⟩)];(first|done|rfl),E_3⟩
theorem reconstructsN_any (ref p:Pic) (x y:Int) (m:Mac) (q top:Int) (a b:Option Addr) (c d n l:Nat) (w:World) (hn:n=ref.px.length) (hl:l=p.px.length) (nc:n≤9223372036854775807) (lc:l≤9223372036854775807) (r:Sl w a n (ref.px.map (Value.int .i64))) (s:Sl w b l (p.px.map (Value.int .i64))) (hm:m.ok) (hk : ¬ m.kind=2) :
 Calls Tryz.prog 39 #[.agg #[.int .i64 ref.w,.int .i64 ref.h,.slice a n c],.agg #[.int .i64 p.w,.int .i64 p.h,.slice b l d],.int .i64 x,.int .i64 y,.agg (ic m.zs),.int .i64 q,.int .i64 top] w fun e w'=>e= .returned (.bool (decide ((p.valid)∧(m.valid)∧(0≤q∧q≤15)∧((0≤x)∧(x<p.w)∧(x%8=0)∧(0≤y)∧(y<p.h)∧(y%8=0))∧(0≤top)∧(top≤y)∧(alikeP ref p))))∧Ext w w':=by
 obtain⟨B,hB⟩:∃ B,B=decide ((p.valid)∧(m.valid)∧(0≤q∧q≤15)∧((0≤x)∧(x<p.w)∧(x%8=0)∧(0≤y)∧(y<p.h)∧(y%8=0))∧(0≤top)∧(top≤y)∧(alikeP ref p)):=⟨_,rfl⟩;rw[←hB];have HB:=Lib.hid hB;clear hB;have HN:=Lib.hid hn;have HL:=Lib.hid hl;have HM:=Lib.hid hm;have Hl:=Lib.hid (Mac.zs_len hm);clear hn hl hm;have fk:(m.kind == 2)=false:=by simpa using hk
 clear hk;have a0_1:=Ext.alloc (w.alloc (.cells #[.int .i64 ref.w,.int .i64 ref.h,.slice a n c] 25)) (.cells #[.int .i64 p.w,.int .i64 p.h,.slice b l d] 25);have a0_2:=Ext.alloc ((w.alloc (.cells #[.int .i64 ref.w,.int .i64 ref.h,.slice a n c] 25)).alloc (.cells #[.int .i64 p.w,.int .i64 p.h,.slice b l d] 25)) (.cells (ic m.zs) 32);have X0_0:=a0_2.blk (a0_1.blk (blk_new w (.cells #[.int .i64 ref.w,.int .i64 ref.h,.slice a n c] 25)));have a1_2:=Ext.alloc ((w.alloc (.cells #[.int .i64 ref.w,.int .i64 ref.h,.slice a n c] 25)).alloc (.cells #[.int .i64 p.w,.int .i64 p.h,.slice b l d] 25)) (.cells (ic m.zs) 32);have X1_0:=a1_2.blk (blk_new (w.alloc (.cells #[.int .i64 ref.w,.int .i64 ref.h,.slice a n c] 25)) (.cells #[.int .i64 p.w,.int .i64 p.h,.slice b l d] 25));have X2_0:=IB.new ((w.alloc (.cells #[.int .i64 ref.w,.int .i64 ref.h,.slice a n c] 25)).alloc (.cells #[.int .i64 p.w,.int .i64 p.h,.slice b l d] 25)) 32 m.zs;have E_0:=((Ext.alloc w (.cells #[.int .i64 ref.w,.int .i64 ref.h,.slice a n c] 25)).trans (Ext.alloc (w.alloc (.cells #[.int .i64 ref.w,.int .i64 ref.h,.slice a n c] 25)) (.cells #[.int .i64 p.w,.int .i64 p.h,.slice b l d] 25))).trans (Ext.alloc ((w.alloc (.cells #[.int .i64 ref.w,.int .i64 ref.h,.slice a n c] 25)).alloc (.cells #[.int .i64 p.w,.int .i64 p.h,.slice b l d] 25)) (.cells (ic m.zs) 32));simp only[World.size_alloc]at X1_0 X2_0;clear a0_1 a0_2 a1_2;obtain⟨-,k0_0,k0_1,k0_2,-⟩:=bx3 X0_0;obtain⟨-,k1_0,k1_1,k1_2,-⟩:=bx3 X1_0;have k2_0:=X2_0.cell (i:=0) (by rw[Hl.out];omega);rw[Mac.zs_kind]at k2_0;go_enter Tryz.func39,Tryz.ntmps39
 obtain⟨D0,hD0⟩:∃ D0,D0=decide (p.valid):=⟨_,rfl⟩;have HD0:=Lib.hid hD0.symm;clear hD0;go_wp2_with fail
 refine(impl_PictureValid_any p b d l _ HL.out lc (s.ext E_0)).mono ?_;rw[show decide (p.valid)=D0 from HD0.out]
 rintro e w_1 ⟨rfl,e_1⟩
 have X0_1:=e_1.blk X0_0;have X1_1:=e_1.blk X1_0;have X2_1:=X2_0.ext e_1;have E_1:=E_0.trans e_1;clear k0_0 k0_1 k0_2 X0_0 k1_0 k1_1 k1_2 X1_0 k2_0 X2_0 E_0 e_1;obtain⟨-,k0_0,k0_1,k0_2,-⟩:=bx3 X0_1;obtain⟨-,k1_0,k1_1,k1_2,-⟩:=bx3 X1_1;have k2_0:=X2_1.cell (i:=0) (by rw[Hl.out];omega);rw[Mac.zs_kind]at k2_0
 by_cases h0:p.valid
 rotate_left
 ·have H0:=Lib.hid (show ¬ (p.valid) by first|exact h0|omega);obtain rfl:D0=false:=by rw[←HD0.out];exact decide_eq_false h0
  clear h0;go_wp2;go_ret
  exact⟨by rw[HB.out,(decide_eq_false fun hh=>by have h9:=H0.out;have h8:=hh.1;first|exact h9 h8|omega)];(first|done|rfl),E_1⟩
 obtain rfl:D0=true:=by rw[←HD0.out];exact decide_eq_true h0
 have H0:=Lib.hid h0;clear h0;obtain⟨D1,hD1⟩:∃ D1,D1=decide (m.valid):=⟨_,rfl⟩;have HD1:=Lib.hid hD1.symm;clear hD1;go_wp2_with (refine wpList_iload 32 _ rfl rfl X2_1 0 71 rfl _ Tryz.underlying32 rfl size_Macro (by rw[Hl.out];omega) _ (by rw[sub_all _ _ Hl.out]) ?_)
 refine(impl_MacroValid_any m _ HM.out).mono ?_;rw[show decide (m.valid)=D1 from HD1.out]
 rintro e w_2 ⟨rfl,e_2⟩
 have X0_2:=e_2.blk X0_1;have X1_2:=e_2.blk X1_1;have X2_2:=X2_1.ext e_2;have E_2:=E_1.trans e_2;clear k0_0 k0_1 k0_2 X0_1 k1_0 k1_1 k1_2 X1_1 k2_0 X2_1 E_1 e_2;obtain⟨-,k0_0,k0_1,k0_2,-⟩:=bx3 X0_2;obtain⟨-,k1_0,k1_1,k1_2,-⟩:=bx3 X1_2;have k2_0:=X2_2.cell (i:=0) (by rw[Hl.out];omega);rw[Mac.zs_kind]at k2_0
 by_cases h1:m.valid
 rotate_left
 ·have H1:=Lib.hid (show ¬ (m.valid) by first|exact h1|omega);obtain rfl:D1=false:=by rw[←HD1.out];exact decide_eq_false h1
  clear h1;go_wp2;go_ret
  exact⟨by rw[HB.out,(decide_eq_false fun hh=>by have h9:=H1.out;have h8:=hh.2.1;first|exact h9 h8|omega)];(first|done|rfl),E_2⟩
 obtain rfl:D1=true:=by rw[←HD1.out];exact decide_eq_true h1
 have H1:=Lib.hid h1;clear h1
 by_cases h2:0≤q∧q≤15
 rotate_left
 ·have H2:=Lib.hid (show ¬ (0≤q∧q≤15) by first|exact h2|omega);have Q2:=Lib.hid h2;clear h2;go_wp2_with fail
  refine(qV_out q _ Q2.out).mono ?_
  rintro e w_s2 ⟨rfl,rfl⟩
  go_wp2;go_ret
  exact⟨by rw[HB.out,(decide_eq_false fun hh=>by have h9:=H2.out;have h8:=hh.2.2.1;first|exact h9 h8|omega)];(first|done|rfl),E_2⟩
 have H2:=Lib.hid h2;have Q2:=Lib.hid h2;clear h2;go_wp2_with fail
 refine(qV_in q _ Q2.out).mono ?_
 rintro e w_s2 ⟨rfl,rfl⟩
 obtain⟨D3,hD3⟩:∃ D3,D3=decide ((0≤x)∧(x<p.w)∧(x%8=0)∧(0≤y)∧(y<p.h)∧(y%8=0)):=⟨_,rfl⟩;have HD3:=Lib.hid hD3.symm;clear hD3;go_wp2_with fail
 refine(begins_any p x y b d l _).mono ?_;rw[show decide ((0≤x)∧(x<p.w)∧(x%8=0)∧(0≤y)∧(y<p.h)∧(y%8=0))=D3 from HD3.out]
 rintro e w_3 ⟨rfl,e_3⟩
 have X0_3:=e_3.blk X0_2;have X1_3:=e_3.blk X1_2;have X2_3:=X2_2.ext e_3;have E_3:=E_2.trans e_3;clear k0_0 k0_1 k0_2 X0_2 k1_0 k1_1 k1_2 X1_2 k2_0 X2_2 E_2 e_3;obtain⟨-,k0_0,k0_1,k0_2,-⟩:=bx3 X0_3;obtain⟨-,k1_0,k1_1,k1_2,-⟩:=bx3 X1_3;have k2_0:=X2_3.cell (i:=0) (by rw[Hl.out];omega);rw[Mac.zs_kind]at k2_0
 by_cases h3:(0≤x)∧(x<p.w)∧(x%8=0)∧(0≤y)∧(y<p.h)∧(y%8=0)
 rotate_left
 ·have H3:=Lib.hid (show ¬ ((0≤x)∧(x<p.w)∧(x%8=0)∧(0≤y)∧(y<p.h)∧(y%8=0)) by first|exact h3|omega);obtain rfl:D3=false:=by rw[←HD3.out];exact decide_eq_false h3
  clear h3;go_wp2;go_ret
  exact⟨by rw[HB.out,(decide_eq_false fun hh=>by have h9:=H3.out;have h8:=hh.2.2.2.1;first|exact h9 h8|omega)];(first|done|rfl),E_3⟩
 obtain rfl:D3=true:=by rw[←HD3.out];exact decide_eq_true h3
 have H3:=Lib.hid h3;clear h3
 by_cases h4:0≤top
 rotate_left
 ·have H4:=Lib.hid (show ¬ (0≤top) by first|exact h4|omega);have f4:decide (top<0)=true:=by simpa using h4
  go_wp2;go_ret
  exact⟨by rw[HB.out,(decide_eq_false fun hh=>by have h9:=H4.out;have h8:=hh.2.2.2.2.1;first|exact h9 h8|omega)];(first|done|rfl),E_3⟩
 have H4:=Lib.hid h4;have f4:decide (top<0)=false:=by simpa using h4
 by_cases h5:top≤y
 rotate_left
 ·have H5:=Lib.hid (show ¬ (top≤y) by first|exact h5|omega);have f5:decide (y<top)=true:=by simpa using h5
  go_wp2;go_ret
  exact⟨by rw[HB.out,(decide_eq_false fun hh=>by have h9:=H5.out;have h8:=hh.2.2.2.2.2.1;first|exact h9 h8|omega)];(first|done|rfl),E_3⟩
 have H5:=Lib.hid h5;have f5:decide (y<top)=false:=by simpa using h5
 obtain⟨D6,hD6⟩:∃ D6,D6=decide (alikeP ref p):=⟨_,rfl⟩;have HD6:=Lib.hid hD6.symm;clear hD6;go_wp2_with fail
 refine(alike_at ref p a b c d n l _ HN.out HL.out nc lc (r.ext E_3) (s.ext E_3)).mono ?_;rw[show decide (alikeP ref p)=D6 from HD6.out]
 rintro e w_4 ⟨rfl,e_4⟩
 have X0_4:=e_4.blk X0_3;have X1_4:=e_4.blk X1_3;have X2_4:=X2_3.ext e_4;have E_4:=E_3.trans e_4;clear k0_0 k0_1 k0_2 X0_3 k1_0 k1_1 k1_2 X1_3 k2_0 X2_3 E_3 e_4;obtain⟨-,k0_0,k0_1,k0_2,-⟩:=bx3 X0_4;obtain⟨-,k1_0,k1_1,k1_2,-⟩:=bx3 X1_4;have k2_0:=X2_4.cell (i:=0) (by rw[Hl.out];omega);rw[Mac.zs_kind]at k2_0
 by_cases h6:alikeP ref p
 rotate_left
 ·have H6:=Lib.hid (show ¬ (alikeP ref p) by first|exact h6|omega);obtain rfl:D6=false:=by rw[←HD6.out];exact decide_eq_false h6
  clear h6;go_wp2;go_ret
  exact⟨by rw[HB.out,(decide_eq_false fun hh=>by have h9:=H6.out;have h8:=hh.2.2.2.2.2.2;first|exact h9 h8|omega)];(first|done|rfl),E_4⟩
 obtain rfl:D6=true:=by rw[←HD6.out];exact decide_eq_true h6
 have H6:=Lib.hid h6;clear h6;go_wp2;go_ret
 exact⟨by rw[HB.out,(decide_eq_true ⟨H0.out,H1.out,H2.out,H3.out,H4.out,H5.out,H6.out⟩)];(first|done|rfl),E_4⟩
theorem reconstructs_any (ref p:Pic) (x y:Int) (m:Mac) (q top:Int) (a b:Option Addr) (c d n l:Nat) (w:World) (hn:n=ref.px.length) (hl:l=p.px.length) (nc:n≤9223372036854775807) (lc:l≤9223372036854775807) (r:Sl w a n (ref.px.map (Value.int .i64))) (s:Sl w b l (p.px.map (Value.int .i64))) (hm:m.ok) :
 Calls Tryz.prog 39 #[.agg #[.int .i64 ref.w,.int .i64 ref.h,.slice a n c],.agg #[.int .i64 p.w,.int .i64 p.h,.slice b l d],.int .i64 x,.int .i64 y,.agg (ic m.zs),.int .i64 q,.int .i64 top] w fun e w'=>e= .returned (.bool (decide (okR ref p x y m q top)))∧Ext w w':=by
 by_cases hk:m.kind=2
 ·have h:=reconstructsK_any ref p x y m q top a b c d n l w hn hl nc lc r s hm hk;rw[show decide ((p.valid)∧(m.valid)∧(0≤q∧q≤15)∧((0≤x)∧(x<p.w)∧(x%8=0)∧(0≤y)∧(y<p.h)∧(y%8=0))∧(0≤top)∧(top≤y))=decide (okR ref p x y m q top)from decide_eq_decide.2 ⟨fun⟨h0,h1,h2,h3,h4,h5⟩=>⟨⟨h0,h3⟩,h1,h2,⟨h4,h5⟩,.inl hk⟩,fun⟨h0,h1,h2,h3,_⟩=>⟨h0.1,h1,h2,h0.2,h3.1,h3.2⟩⟩]at h;exact h
 ·have h:=reconstructsN_any ref p x y m q top a b c d n l w hn hl nc lc r s hm hk;rw[show decide ((p.valid)∧(m.valid)∧(0≤q∧q≤15)∧((0≤x)∧(x<p.w)∧(x%8=0)∧(0≤y)∧(y<p.h)∧(y%8=0))∧(0≤top)∧(top≤y)∧(alikeP ref p))=decide (okR ref p x y m q top)from decide_eq_decide.2 ⟨fun⟨h0,h1,h2,h3,h4,h5,h6⟩=>⟨⟨h0,h3⟩,h1,h2,⟨h4,h5⟩,.inr h6⟩,fun⟨h0,h1,h2,h3,h4⟩=>⟨h0.1,h1,h2,h0.2,h3.1,h3.2,h4.resolve_left hk⟩⟩]at h;exact h
structure RG (w : World) (base g n c : Nat) (ra : Option Addr) (rn rc W H : Nat) (ref : Pic) (m : Mac) (B : Nat) (Z : List Int) (wx : World) : Prop where
 gr:w.grownBy wx (some g)
 own:wx.ownsRow base 3 1 (.slice (some ⟨g,0,none⟩) n c) n (Z.map (Value.int .i64))
 b0:wx.heap[B]?=some (.cells #[.int .i64 W,.int .i64 H,.slice (some ⟨g,0,none⟩) n c] 25 (0,0))
 b1:wx.heap[B+1]?=some (.cells #[.int .i64 ref.w,.int .i64 ref.h,.slice ra rn rc] 25 (0,0))
 b2:IB wx (B+1+1) 32 m.zs
 gB:g<B
section
variable {w wx wy : World} {base g n c rn rc W H B : Nat} {ra : Option Addr} {ref : Pic} {m : Mac} {Z Z' : List Int}
theorem RG.ex (h:RG w base g n c ra rn rc W H ref m B Z wx) (e:Ext wx wy):RG w base g n c ra rn rc W H ref m B Z wy :=
 ⟨grown_ext h.gr e,owns_ext h.own e,e.blk h.b0,e.blk h.b1,h.b2.ext e,h.gB⟩
theorem RG.drew (h:RG w base g n c ra rn rc W H ref m B Z wx):RG w base g n c ra rn rc W H ref m B Z wx.drew:=h.ex (Ext.drewN _ 1)
theorem RG.put (h:RG w base g n c ra rn rc W H ref m B Z wx) (gr:wx.grownBy wy (some g)) (own:wy.ownsRow base 3 1 (.slice (some ⟨g,0,none⟩) n c) n (Z'.map (Value.int .i64))):RG w base g n c ra rn rc W H ref m B Z' wy:=by
 have:=h.gB;exact⟨grownBy_trans h.gr gr,own,blk_gr h.b0 gr (by simp;omega),blk_gr h.b1 gr (by simp;omega),h.b2.gr gr (by simp;omega),h.gB⟩
theorem RG.loc {b':Nat} (h:RG w base g n c ra rn rc W H ref m B Z wx) (gr:wx.grownBy wy (some b')) (hb:B+1+1<b') (hw:w.heap.size≤B):RG w base g n c ra rn rc W H ref m B Z wy:=by
 have:=h.gB;refine⟨⟨gr.os.trans h.gr.os,gr.tape.trans h.gr.tape,gr.output.trans h.gr.output,Nat.le_trans h.gr.size gr.size,fun k hk hne=>(gr.block k (Nat.lt_of_lt_of_le hk h.gr.size) (by simp;omega)).trans (h.gr.block k hk hne)⟩,h.own.kept gr (.inr (by simp[Value.ownBlock];omega)),blk_gr h.b0 gr (by simp;omega),blk_gr h.b1 gr (by simp;omega),h.b2.gr gr (by simp;omega),h.gB⟩
end
end Go.Proofs.YtbnhaegidfbgbaaGreatDoor
