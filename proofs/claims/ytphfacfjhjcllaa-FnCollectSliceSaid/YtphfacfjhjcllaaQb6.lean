/- The decisions for a macroblock: the reference. | The decisions for a macroblock: the reference, intra. | The decisions for a macroblock of an intra picture: the reference. | The reference's EncodeSlice. | Drawing macroblocks: l20Macros. | Coded pictures and lists of them: what they read as; rows of the call's own, one behind the other. | The exact laws' helpers over lists of byte strings, once more: exact sizes, own copies, marks. | The exact laws' helpers over coded pictures and lists of them. | Copies of coded pictures: the program's. | Cutting and joining lists of coded pictures: the program's. | Copies of coded pictures, cutting and joining lists of them: the reference's. | Drawn coded pictures: what their slices read as. -/
import Derived.Test.YtphfacfjhjcllaaQb5
import Derived.Deep.Cut
set_option linter.unusedVariables false
set_option linter.unusedSimpArgs false
set_option maxRecDepth 100000
set_option maxHeartbeats 16000000
namespace Go.Proofs.Ytphfacfjhjcllaa
open Go.RowKit
theorem bdI_of_inB {Bd:Int} {zs:List Int} (h:inB Bd zs=true):bdI Bd zs:=by
 intro j hj;unfold inB at h;rw[List.all_eq_true]at h;have:=h _ (List.getElem_mem hj);rw[nth_eq zs j hj]
 simpa using this
theorem bdI_subU {Bd:Int} {zs:List Int} (h:bdI Bd zs) (o n:Nat) (hl:o+n≤zs.length):bdI Bd (sub zs o n):=by
 intro j hj;rw[sub_len _ _ _ hl]at hj;rw[nth_sub _ _ _ _ hj];exact h _ (by omega)
/-- The decisions for a macroblock in a picture that is not intra. -/
def hdL (m:Mac):List Int := [0,1,1,m.kind-1]
def mvL (m:Mac):List Int:=numL (sidx m.x).toNat 2++numL (sidx m.y).toNat 2
def mdL (m:Mac):Nat→List Int
 | 0 => []
 | k+1=>mdL m k++numL (nth m.modes k).toNat 9
def mdN (m:Mac):Nat→Nat
 | 0=>0
 | k+1=>mdN m k+numN (nth m.modes k).toNat
def miL (m:Mac):List Int:=hdL m++(if m.kind=1 then mvL m else mdL m 4)
def miN (m:Mac):Nat:=2+(if m.kind=1 then numN (sidx m.x).toNat+numN (sidx m.y).toNat else mdN m 4)
def lvBn (m:Mac):Nat→List Int
 | 0=>miL m
 | k+1=>lvBn m k++blkB (sub m.lv (k*16) 16)
def lvNn (m:Mac):Nat→Nat
 | 0=>miN m
 | k+1=>lvNn m k+blkC (sub m.lv (k*16) 16)
def macL (m:Mac):List Int:=if m.kind=0 then [0,0]else lvBn m 4
def macN (m:Mac):Nat:=if m.kind=0 then 1 else lvNn m 4
theorem md_rng {m:Mac} (hv:m.valid) (h2:m.kind=2) {k:Nat} (hk:k<4):∃ z:Nat,nth m.modes k=z∧z≤4:=by
 have:=hv.2.2.2.2.1 h2 k hk;exact⟨(nth m.modes k).toNat,by omega,by omega⟩
theorem mdN_le {m:Mac} (hv:m.valid) (h2:m.kind=2):∀ k,k≤4→mdN m k≤k*31
 | 0,_=>Nat.le_refl _
 | k+1,hk=>by
  have ih:=mdN_le hv h2 k (by omega);obtain⟨z,e,h⟩:=md_rng hv h2 (show k<4 by omega);have:=numN_le (show(nth m.modes k).toNat<32768 by omega);rw[mdN];omega
theorem mv_rng {m:Mac} (hv:m.valid):∃ a b:Nat,sidx m.x=a∧a≤32∧sidx m.y=b∧b≤32:=by
 obtain⟨h1,h2,h3,h4⟩:=hv.2.1;have q1:=sidx_rng h1 h2;have q2:=sidx_rng h3 h4;exact⟨(sidx m.x).toNat,(sidx m.y).toNat,by omega,by omega,by omega,by omega⟩
theorem miN_le {m:Mac} (hv:m.valid) (h0:m.kind≠0):miN m≤200:=by
 unfold miN
 by_cases h1:m.kind=1
 ·rw[if_pos h1];obtain⟨a,b,e1,l1,e2,l2⟩:=mv_rng hv;have:=numN_le (show(sidx m.x).toNat<32768 by omega);have:=numN_le (show(sidx m.y).toNat<32768 by omega);omega
 ·rw[if_neg h1];have:=mdN_le hv (by have:=hv.1;omega) 4 (Nat.le_refl _);omega
theorem lv_bd {m:Mac} (hm:m.ok) (hv:m.valid) {k:Nat} (hk:k<4):(sub m.lv (k*16) 16).length=16∧bdI 4080 (sub m.lv (k*16) 16):=by
 have hl:=hm.lv;exact⟨sub_len _ _ _ (by omega),bdI_subU (bdI_of_inB hv.2.2.2.2.2.2) _ _ (by omega)⟩
theorem lvNn_le {m:Mac} (hm:m.ok) (hv:m.valid) (h0:m.kind≠0):∀ k,k≤4→lvNn m k≤200+k*1023
 | 0,_=>by have:=miN_le hv h0;rw[lvNn];omega
 | k+1,hk=>by
  have ih:=lvNn_le hm hv h0 k (by omega);obtain⟨h1,h2⟩:=lv_bd hm hv (show k<4 by omega);have:=blkC_le h1 h2;rw[lvNn];omega
theorem macN_pos (m:Mac):1≤macN m:=by
 unfold macN
 split
 ·exact Nat.le_refl _
 ·have:∀ k,1≤lvNn m k:=fun k=>by
   induction k with
   | zero=>rw[lvNn,miN];omega
   | succ k ih=>rw[lvNn];omega
  exact this 4
theorem macN_le {m:Mac} (hm:m.ok) (hv:m.valid):macN m≤5000:=by
 unfold macN
 split
 ·omega
 ·have:=lvNn_le hm hv (by assumption) 4 (Nat.le_refl _);omega
theorem blkC_pos (zs:List Int):0<blkC zs:=by
 have:∀ k,0<bkN zs k:=fun k=>by
  induction k with
  | zero=>exact numN_pos _
  | succ k ih=>rw[bkN];omega
 exact this _
theorem l10Macro_skip (m:Mac) (w:World) (hm:m.ok) (h0:m.kind=0) :
 Calls Try.prog 43 #[.agg (ic m.zs),.bool false] w fun e w'=>∃ a c,e= .returned (.slice a (macN m) c)∧w'.ownsRow w.heap.size 97 2 (.slice a (macN m) c) (macN m) ((macL m).map (Value.int .i64))∧Ext w w':=by
 have I0:=(IB.new w 84 m.zs).alloc (.cells #[] 97);have Hl:=Lib.hid (Mac.zs_len hm);have hk:=I0.cell (i:=0) (by rw[Mac.zs_len hm];omega);rw[Mac.zs_kind,h0]at hk;have E0:=((Ext.alloc w (.cells (ic m.zs) 84)).trans (Ext.alloc _ (.cells #[] 97))).trans (Ext.alloc _ (.cells #[.int .i64 0,.int .i64 0] 97));have HN:=Lib.hid (show macN m=1 by rw[macN,if_pos h0]);have HL:=Lib.hid (show macL m = [0,0] by rw[macL,if_pos h0]);have o9:=World.ownsRow_lit (base:=w.heap.size) (e:=97) (size:=2) ((w.alloc (.cells (ic m.zs) 84)).alloc (.cells #[] 97)) #[.int .i64 0,.int .i64 0] 1 (by simp;omega) (by unfold maxLen;omega) rfl;rw[World.size_alloc,World.size_alloc]at o9;clear h0;go_enter Try.func43,Try.ntmps43
 go_wp2;go_ret
 rw[HN.out,HL.out];exact⟨_,_,rfl,o9,E0⟩
theorem l10Macro_I (m:Mac) (w:World) (hm:m.ok) (hv:m.valid) (h1:m.kind=1) :
 Calls Try.prog 43 #[.agg (ic m.zs),.bool false] w fun e w'=>∃ a c,e= .returned (.slice a (macN m) c)∧w'.ownsRow w.heap.size 97 2 (.slice a (macN m) c) (macN m) ((macL m).map (Value.int .i64))∧Ext w w':=by
 have Hl:=Lib.hid (Mac.zs_len hm);have Hm:=Lib.hid hm;have HV:=Lib.hid hv;have HK0:=Lib.hid (show m.kind≠0 by rw[h1];decide);have HK1:=Lib.hid h1;obtain⟨Bx,hBx⟩:∃ Bx,Bx=w.heap.size:=⟨_,rfl⟩;have E0:=(Ext.alloc w (.cells (ic m.zs) 84)).trans (Ext.alloc _ (.cells #[] 97));have I0:=(IB.new w 84 m.zs).alloc (.cells #[] 97);have o0:=World.ownsRow_made (base:=Bx+1) (e:=97) (size:=2) (w.alloc (.cells (ic m.zs) 84)) #[] 0 (by simp[hBx]) (by simp) rfl;have z0:Bx+1≤((w.alloc (.cells (ic m.zs) 84)).alloc (.cells #[] 97)).heap.size:=by simp[hBx]
 rw[World.size_alloc]at o0;have hk:=I0.cell (i:=0) (by rw[Mac.zs_len hm];omega);have hx:=I0.cell (i:=1) (by rw[Mac.zs_len hm];omega);have hy:=I0.cell (i:=2) (by rw[Mac.zs_len hm];omega);rw[Mac.zs_kind,h1]at hk;rw[Mac.zs_x]at hx;rw[Mac.zs_y]at hy;rw[←hBx]at I0 o0 hk hx hy;have HBx:=Lib.hid hBx;obtain⟨xa,ya,ex,lx,ey,ly⟩:=mv_rng hv;have HX:=Lib.hid ex;have HY:=Lib.hid ey;obtain⟨v1,v2,v3,v4⟩:=hv.2.1;have px:=numN_le (show xa<32768 by omega);have py:=numN_le (show ya<32768 by omega);have ppx:=numN_pos xa;have ppy:=numN_pos ya;have HMI:=Lib.hid (show lvBn m 0 = [0,1,1,0]++(numL xa 2++numL ya 2) by rw[lvBn,miL,if_pos h1,hdL,mvL,ex,ey,h1];simp);have HMN:=Lib.hid (show lvNn m 0=0+2+numN xa+numN ya by rw[lvNn,miN,if_pos h1,ex,ey];simp;omega);clear hm hv h1 ex ey;go_enter Try.func43,Try.ntmps43
 go_upto_region 2 with fail
 try simp only[World.size_alloc]
 rw[←hBx];clear hBx;generalize (w.alloc (.cells (ic m.zs) 84)).alloc (.cells #[] 97)=w1 at *;go_wp2_with (at_builtin;refine wpList_appk _ rfl (o0.alloc _) (by simp;omega) _ _ 76 rfl (.agg #[.int .i64 0,.int .i64 0]) 16 Try.underlying76 info_Bin rfl (by decide) rfl ⟨w1.heap.size,0,none⟩ 2 2 [.int .i64 0,.int .i64 1,.int .i64 1,.int .i64 _] rfl rfl ((Sl_new w1 [.int .i64 0,.int .i64 1,.int .i64 1,.int .i64 _] 97).cellsOf _ (by simp)) (by intro u hu;simp at hu;rcases hu with rfl|rfl|rfl|rfl <;> rfl) (by omega) (by omega) ?_;intro v2 w2 own2 gr2 _;refine Hid.out ?_)
 refine Lib.hid ?_;obtain⟨a2,c2,rfl⟩:=owns_form own2;have F2:=(FR.of_ext (B:=Bx+1) (T:=97) (Ext.alloc w1 (.cells #[.int .i64 0,.int .i64 1,.int .i64 1,.int .i64 _] 97)) z0).trans (FR.of_row (o0.alloc _) gr2 (by simp;omega));have E2:Ext w w2:=Below.trans E0 (F2.lo.mono (by have:=HBx.out;omega));have z2:=Nat.le_trans z0 F2.size;have I2:=F2.ib I0 (by decide);have hx2:=I2.cell (i:=1) (by rw[Hl.out];omega);have hy2:=I2.cell (i:=2) (by rw[Hl.out];omega);have hk2:=I2.cell (i:=0) (by rw[Hl.out];omega);rw[Mac.zs_kind,HK1.out]at hk2;rw[Mac.zs_x]at hx2;rw[Mac.zs_y]at hy2;have o2:=ownc own2 (show _=([0,1,1,0]:List Int).map (Value.int .i64) by simp);clear own2 gr2 F2 E0 I0 o0 z0 hk hx hy;have hke:((1:Int) == 1)=true:=rfl;go_wp2_with fail
 refine(spec_SignedIndex_in m.x _ (by omega) (by omega)).mono ?_
 rintro e w3 ⟨rfl,rfl⟩
 rw[HX.out];go_wp2_with fail
 refine(l10Number_at xa 2 2 rfl _ (by omega) (by omega)).mono ?_
 rintro e w3 ⟨a3,c3,rfl,o3,e3⟩
 obtain⟨g3,rfl⟩:=own_ptr o3 ppx;have o2':=owns_ext o2 e3;have hB3:=Nat.le_trans z2 e3.size;have E3:=E2.trans e3;have I3:=I2.ext e3;clear o2 e3 I2 E2 hx2 hy2 hk2;go_wp2_with (at_builtin;refine wpList_appk _ rfl o2' hB3 _ _ 76 rfl (.agg #[.int .i64 0,.int .i64 0]) 16 Try.underlying76 info_Bin rfl (by decide) rfl _ _ _ _ rfl o3.1 (o3.cells rfl) (one_ints _) (by omega) (by omega) ?_;intro v2 w2 own2 gr2 _;refine Hid.out ?_)
 refine Lib.hid ?_;obtain⟨a4,c4,rfl⟩:=owns_form own2;have F4:=FR.of_row o2' gr2 hB3;have E4:Ext w w2:=Below.trans E3 (F4.lo.mono (by have:=HBx.out;omega));have z4:=Nat.le_trans hB3 F4.size;have I4:=F4.ib I3 (by decide);have hy4:=I4.cell (i:=2) (by rw[Hl.out];omega);rw[Mac.zs_y]at hy4;have o4:=own2;clear own2 gr2 F4 E3 I3 o2' o3 hB3;go_wp2_with fail
 refine(spec_SignedIndex_in m.y _ (by omega) (by omega)).mono ?_
 rintro e w5 ⟨rfl,rfl⟩
 rw[HY.out];go_wp2_with fail
 refine(l10Number_at ya 2 2 rfl _ (by omega) (by omega)).mono ?_
 rintro e w5 ⟨a5,c5,rfl,o5,e5⟩
 obtain⟨g5,rfl⟩:=own_ptr o5 ppy;have o4':=owns_ext o4 e5;have hB5:=Nat.le_trans z4 e5.size;have E5:=E4.trans e5;have I5:=I4.ext e5;clear o4 e5 I4 E4 hy4;go_wp2_with (at_builtin;refine wpList_appk _ rfl o4' hB5 _ _ 76 rfl (.agg #[.int .i64 0,.int .i64 0]) 16 Try.underlying76 info_Bin rfl (by decide) rfl _ _ _ _ rfl o5.1 (o5.cells rfl) (one_ints _) (by omega) (by omega) ?_;intro v2 w3 own2 gr2 _;refine Hid.out ?_)
 refine Lib.hid ?_;obtain⟨a6,c6,rfl⟩:=owns_form own2;have F6:=FR.of_row o4' gr2 hB5;have E3:Ext w w3:=Below.trans E5 (F6.lo.mono (by have:=HBx.out;omega));have z3:=Nat.le_trans hB5 F6.size;have I3:=F6.ib I5 (by decide);have o3:=ownc own2 (show _=(lvBn m 0).map (Value.int .i64) by rw[HMI.out];simp);rw[←HMN.out]at o3⊢;clear own2 gr2 F6 E5 I5 o4' o5 hB5;have F3:=FR.refl (Bx+1) 97 w3;go_wp2_with fail
 go_loopw [5,7] (fun v y wr=>∃ k:Nat,k≤4∧y= .int .i64 k∧wr.ownsRow (Bx+1) 97 2 v (lvNn m k) ((lvBn m k).map (Value.int .i64))∧FR (Bx+1) 97 w3 wr) (fun _ y _=>4-(intOf y).toNat)
 case atStart=>exact⟨0,by omega,rfl,o3,F3⟩
 case round =>
  obtain⟨k,hk,rfl,o4,F4⟩:=hrel;clear o3 F3;obtain⟨a4,c4,rfl⟩:=owns_form o4;have hB4:=Nat.le_trans z3 F4.size
  by_cases hlt:k<4
  ·have hd:decide ((k:Int)<4)=true:=by simp;omega
   obtain⟨l1,l2⟩:=lv_bd Hm.out HV.out hlt;have hbc:=blkC_le l1 l2;have hln:=lvNn_le Hm.out HV.out HK0.out k (by omega);have I4:=F4.ib I3 (by decide);have HLs:=Lib.hid (show lvBn m (k+1)=lvBn m k++blkB (sub m.lv (k*16) 16)from rfl);have HC:=Lib.hid (show lvNn m k+blkC (sub m.lv (k*16) 16)=lvNn m (k+1)from rfl);have HBK:=Lib.hid (fun w=>l10Block_any (sub m.lv (k*16) 16) w l1 l2);have HZB:=Lib.hid (Mac.zs_blk Hm.out k hlt);generalize sub m.lv (k*16) 16=bz at *;clear l1 l2;go_wp2_with (refine wpList_iload 81 _ rfl rfl I4 (7+k*16) 16 rfl _ Try.underlying81 rfl size_A16s (by rw[Hl.out];omega) _ (by rw[HZB.out]) ?_)
   refine(HBK.out _).mono ?_
   rintro e w5 ⟨a5,c5,rfl,o5,e5⟩
   have o4':=owns_ext o4 e5;have F5:=F4.trans (FR.of_ext e5 hB4);have hB5:=Nat.le_trans hB4 e5.size;obtain⟨g5,rfl⟩:=own_ptr o5 (blkC_pos bz);go_wp2_with (at_builtin;refine wpList_appk _ rfl o4' hB5 _ _ 76 rfl (.agg #[.int .i64 0,.int .i64 0]) 16 Try.underlying76 info_Bin rfl (by decide) rfl _ _ _ _ rfl o5.1 (o5.cells rfl) (one_ints _) (by omega) (by omega) ?_;intro v2 w2 own2 gr2 _;refine Hid.out ?_)
   refine Lib.hid ?_;obtain⟨a6,c6,rfl⟩:=owns_form own2;have F6:=F5.trans (FR.of_row o4' gr2 hB5);have o6:=ownc own2 (show _=(lvBn m (k+1)).map (Value.int .i64) by rw[HLs.out];simp);rw[HC.out]at o6⊢;clear own2 o5 o4' o4 F5 F4 e5 gr2 I4;go_wp2;go_roundw
   case rel=>exact⟨k+1,by omega,by go_num,o6,F6⟩
   case measure=>simp[intOf] <;> omega
  ·have HKR:=Lib.hid (show k=4 by omega);have hd:decide ((k:Int)<4)=false:=by simp;omega
   have H1:=Lib.hid (show lvNn m k=macN m by rw[HKR.out,macN,if_neg HK0.out]);have H2:=Lib.hid (show lvBn m k=macL m by rw[HKR.out,macL,if_neg HK0.out]);rw[H1.out,H2.out]at o4;rw[H1.out];have hlo:=F4.lo;go_wp2;go_ret
   exact⟨_,_,rfl,owns_mono o4 (by have:=HBx.out;omega),Below.trans E3 (hlo.mono (by have:=HBx.out;omega))⟩
theorem l10Macro_A (m:Mac) (w:World) (hm:m.ok) (hv:m.valid) (h1:m.kind=2) :
 Calls Try.prog 43 #[.agg (ic m.zs),.bool false] w fun e w'=>∃ a c,e= .returned (.slice a (macN m) c)∧w'.ownsRow w.heap.size 97 2 (.slice a (macN m) c) (macN m) ((macL m).map (Value.int .i64))∧Ext w w':=by
 have Hl:=Lib.hid (Mac.zs_len hm);have Hm:=Lib.hid hm;have HV:=Lib.hid hv;have HK0:=Lib.hid (show m.kind≠0 by rw[h1];decide);have HK1:=Lib.hid h1;obtain⟨Bx,hBx⟩:∃ Bx,Bx=w.heap.size:=⟨_,rfl⟩;have E0:=(Ext.alloc w (.cells (ic m.zs) 84)).trans (Ext.alloc _ (.cells #[] 97));have I0:=(IB.new w 84 m.zs).alloc (.cells #[] 97);have o0:=World.ownsRow_made (base:=Bx+1) (e:=97) (size:=2) (w.alloc (.cells (ic m.zs) 84)) #[] 0 (by simp[hBx]) (by simp) rfl;have z0:Bx+1≤((w.alloc (.cells (ic m.zs) 84)).alloc (.cells #[] 97)).heap.size:=by simp[hBx]
 rw[World.size_alloc]at o0;have hk:=I0.cell (i:=0) (by rw[Mac.zs_len hm];omega);rw[Mac.zs_kind,h1]at hk;rw[←hBx]at I0 o0 hk;have HBx:=Lib.hid hBx;have HMI:=Lib.hid (show lvBn m 0 = [0,1,1,1]++mdL m 4 by rw[lvBn,miL,if_neg (by rw[h1];decide),hdL,h1];simp);have HMN:=Lib.hid (show lvNn m 0=2+mdN m 4 by rw[lvNn,miN,if_neg (by rw[h1];decide)]);clear hm hv h1;go_enter Try.func43,Try.ntmps43
 go_upto_region 2 with fail
 try simp only[World.size_alloc]
 rw[←hBx];clear hBx;generalize (w.alloc (.cells (ic m.zs) 84)).alloc (.cells #[] 97)=w1 at *;go_wp2_with (at_builtin;refine wpList_appk _ rfl (o0.alloc _) (by simp;omega) _ _ 76 rfl (.agg #[.int .i64 0,.int .i64 0]) 16 Try.underlying76 info_Bin rfl (by decide) rfl ⟨w1.heap.size,0,none⟩ 2 2 [.int .i64 0,.int .i64 1,.int .i64 1,.int .i64 _] rfl rfl ((Sl_new w1 [.int .i64 0,.int .i64 1,.int .i64 1,.int .i64 _] 97).cellsOf _ (by simp)) (by intro u hu;simp at hu;rcases hu with rfl|rfl|rfl|rfl <;> rfl) (by omega) (by omega) ?_;intro v2 w2 own2 gr2 _;refine Hid.out ?_)
 refine Lib.hid ?_;rw[show 0+2=2 from rfl]at own2;try rw[show 0+2=2 from rfl]
 obtain⟨a2,c2,rfl⟩:=owns_form own2;have F2:=(FR.of_ext (B:=Bx+1) (T:=97) (Ext.alloc w1 (.cells #[.int .i64 0,.int .i64 1,.int .i64 1,.int .i64 _] 97)) z0).trans (FR.of_row (o0.alloc _) gr2 (by simp;omega));have E2:Ext w w2:=Below.trans E0 (F2.lo.mono (by have:=HBx.out;omega));have z2:=Nat.le_trans z0 F2.size;have I2:=F2.ib I0 (by decide);have hk2:=I2.cell (i:=0) (by rw[Hl.out];omega);rw[Mac.zs_kind,HK1.out]at hk2;have o2:=ownc own2 (show _=([0,1,1,1]++mdL m 0:List Int).map (Value.int .i64) by simp[mdL]);clear own2 gr2 F2 E0 I0 o0 z0 hk;have hke:((2:Int) == 1)=false:=rfl;have F0:=FR.refl (Bx+1) 97 w2;go_wp2_with fail
 clear hk2 hke;go_loopw [5,6] (fun v y wr=>∃ k:Nat,k≤4∧y= .int .i64 k∧wr.ownsRow (Bx+1) 97 2 v (2+mdN m k) (([0,1,1,1]++mdL m k).map (Value.int .i64))∧FR (Bx+1) 97 w2 wr) (fun _ y _=>4-(intOf y).toNat)
 case atStart=>exact⟨0,by omega,rfl,o2,F0⟩
 case round =>
  obtain⟨k,hk,rfl,o4,F4⟩:=hrel;clear o2 F0;obtain⟨a4,c4,rfl⟩:=owns_form o4;have hB4:=Nat.le_trans z2 F4.size
  by_cases hlt:k<4
  ·have hd:decide ((k:Int)<4)=true:=by simp;omega
   obtain⟨z,ez,lz⟩:=md_rng HV.out HK1.out hlt;have hmn:=mdN_le HV.out HK1.out k (by omega);have q1:=numN_le (show z<32768 by omega);have p1:=numN_pos z;have cz:=(F4.ib I2 (by decide)).cell (i:=3+k) (by rw[Hl.out];omega);rw[Mac.nth_mode Hm.out k hlt,ez]at cz;have HLs:=Lib.hid (show mdL m (k+1)=mdL m k++numL z 9 by rw[mdL,ez];simp);have HC:=Lib.hid (show 2+mdN m k+numN z=2+mdN m (k+1) by rw[mdN,ez];simp;omega);clear ez;go_wp2_with fail
   refine(l10Number_at z 9 9 rfl _ (by omega) (by omega)).mono ?_
   rintro e w5 ⟨a5,c5,rfl,o5,e5⟩
   obtain⟨g5,rfl⟩:=own_ptr o5 p1;have o4':=owns_ext o4 e5;have F5:=F4.trans (FR.of_ext e5 hB4);have hB5:=Nat.le_trans hB4 e5.size;go_wp2_with (at_builtin;refine wpList_appk _ rfl o4' hB5 _ _ 76 rfl (.agg #[.int .i64 0,.int .i64 0]) 16 Try.underlying76 info_Bin rfl (by decide) rfl _ _ _ _ rfl o5.1 (o5.cells rfl) (one_ints _) (by omega) (by omega) ?_;intro v2 w6 own2 gr2 _;refine Hid.out ?_)
   refine Lib.hid ?_;obtain⟨a6,c6,rfl⟩:=owns_form own2;have F6:=F5.trans (FR.of_row o4' gr2 hB5);have o6:=ownc own2 (show _=([0,1,1,1]++mdL m (k+1)).map (Value.int .i64) by rw[HLs.out];simp);rw[HC.out]at o6⊢;clear own2 o5 o4' o4 F5 F4 e5 gr2 cz;go_wp2;go_roundw
   case rel=>exact⟨k+1,by omega,by go_num,o6,F6⟩
   case measure=>simp[intOf] <;> omega
  ·have HKR:=Lib.hid (show k=4 by omega);have hd:decide ((k:Int)<4)=false:=by simp;omega
   have H1:=Lib.hid (show 2+mdN m k=lvNn m 0 by rw[HKR.out,HMN.out]);have H2:=Lib.hid (show [0,1,1,1]++mdL m k=lvBn m 0 by rw[HKR.out,HMI.out]);rw[H1.out,H2.out]at o4;rw[H1.out];obtain⟨w3,hw3⟩:∃ w3,w3=wr:=⟨_,rfl⟩;rw[←hw3]at o4 F4 hB4⊢;clear hw3;have E3:Ext w w3:=Below.trans E2 (F4.lo.mono (by have:=HBx.out;omega));have z3:=hB4;have I3:=F4.ib I2 (by decide);have o3:=o4;clear o4 F4 hB4 E2 I2;have F3:=FR.refl (Bx+1) 97 w3;go_wp2_with fail
   go_loopw [5,7] (fun v y wr=>∃ k:Nat,k≤4∧y= .int .i64 k∧wr.ownsRow (Bx+1) 97 2 v (lvNn m k) ((lvBn m k).map (Value.int .i64))∧FR (Bx+1) 97 w3 wr) (fun _ y _=>4-(intOf y).toNat)
   case atStart=>exact⟨0,by omega,rfl,o3,F3⟩
   case round =>
    obtain⟨k,hk,rfl,o4,F4⟩:=hrel;clear o3 F3;obtain⟨a4,c4,rfl⟩:=owns_form o4;have hB4:=Nat.le_trans z3 F4.size
    by_cases hlt:k<4
    ·have hd:decide ((k:Int)<4)=true:=by simp;omega
     obtain⟨l1,l2⟩:=lv_bd Hm.out HV.out hlt;have hbc:=blkC_le l1 l2;have hln:=lvNn_le Hm.out HV.out HK0.out k (by omega);have I4:=F4.ib I3 (by decide);have HLs:=Lib.hid (show lvBn m (k+1)=lvBn m k++blkB (sub m.lv (k*16) 16)from rfl);have HC:=Lib.hid (show lvNn m k+blkC (sub m.lv (k*16) 16)=lvNn m (k+1)from rfl);have HBK:=Lib.hid (fun w=>l10Block_any (sub m.lv (k*16) 16) w l1 l2);have HZB:=Lib.hid (Mac.zs_blk Hm.out k hlt);generalize sub m.lv (k*16) 16=bz at *;clear l1 l2;go_wp2_with (refine wpList_iload 81 _ rfl rfl I4 (7+k*16) 16 rfl _ Try.underlying81 rfl size_A16s (by rw[Hl.out];omega) _ (by rw[HZB.out]) ?_)
     refine(HBK.out _).mono ?_
     rintro e w5 ⟨a5,c5,rfl,o5,e5⟩
     have o4':=owns_ext o4 e5;have F5:=F4.trans (FR.of_ext e5 hB4);have hB5:=Nat.le_trans hB4 e5.size;obtain⟨g5,rfl⟩:=own_ptr o5 (blkC_pos bz);go_wp2_with (at_builtin;refine wpList_appk _ rfl o4' hB5 _ _ 76 rfl (.agg #[.int .i64 0,.int .i64 0]) 16 Try.underlying76 info_Bin rfl (by decide) rfl _ _ _ _ rfl o5.1 (o5.cells rfl) (one_ints _) (by omega) (by omega) ?_;intro v2 w2 own2 gr2 _;refine Hid.out ?_)
     refine Lib.hid ?_;obtain⟨a6,c6,rfl⟩:=owns_form own2;have F6:=F5.trans (FR.of_row o4' gr2 hB5);have o6:=ownc own2 (show _=(lvBn m (k+1)).map (Value.int .i64) by rw[HLs.out];simp);rw[HC.out]at o6⊢;clear own2 o5 o4' o4 F5 F4 e5 gr2 I4;go_wp2;go_roundw
     case rel=>exact⟨k+1,by omega,by go_num,o6,F6⟩
     case measure=>simp[intOf] <;> omega
    ·have HKR:=Lib.hid (show k=4 by omega);have hd:decide ((k:Int)<4)=false:=by simp;omega
     have H1:=Lib.hid (show lvNn m k=macN m by rw[HKR.out,macN,if_neg HK0.out]);have H2:=Lib.hid (show lvBn m k=macL m by rw[HKR.out,macL,if_neg HK0.out]);rw[H1.out,H2.out]at o4;rw[H1.out];have hlo:=F4.lo;go_wp2;go_ret
     exact⟨_,_,rfl,owns_mono o4 (by have:=HBx.out;omega),Below.trans E3 (hlo.mono (by have:=HBx.out;omega))⟩
/-- The reference's decisions for a macroblock. -/
theorem l10Macro_any (m:Mac) (w:World) (hm:m.ok) (hv:m.valid) :
 Calls Try.prog 43 #[.agg (ic m.zs),.bool false] w fun e w'=>∃ a c,e= .returned (.slice a (macN m) c)∧w'.ownsRow w.heap.size 97 2 (.slice a (macN m) c) (macN m) ((macL m).map (Value.int .i64))∧Ext w w':=by
 by_cases h0:m.kind=0
 ·exact l10Macro_skip m w hm h0
 ·by_cases h1:m.kind=1
  ·exact l10Macro_I m w hm hv h1
  ·exact l10Macro_A m w hm hv (by have:=hv.1;omega)
def lvBT (m:Mac):Nat→List Int
 | 0=>mdL m 4
 | k+1=>lvBT m k++blkB (sub m.lv (k*16) 16)
def lvNT (m:Mac):Nat→Nat
 | 0=>mdN m 4
 | k+1=>lvNT m k+blkC (sub m.lv (k*16) 16)
def macLT (m:Mac):List Int:=lvBT m 4
def macNT (m:Mac):Nat:=lvNT m 4
theorem lvNT_le {m:Mac} (hm:m.ok) (hv:m.valid) (h2:m.kind=2):∀ k,k≤4→lvNT m k≤200+k*1023
 | 0,_=>by have:=mdN_le hv h2 4 (Nat.le_refl _);rw[lvNT];omega
 | k+1,hk=>by
  have ih:=lvNT_le hm hv h2 k (by omega);obtain⟨h1,h2⟩:=lv_bd hm hv (show k<4 by omega);have:=blkC_le h1 h2;rw[lvNT];omega
theorem macNT_le {m:Mac} (hm:m.ok) (hv:m.valid) (h2:m.kind=2):macNT m≤5000:=by
 have:=lvNT_le hm hv h2 4 (Nat.le_refl _);show lvNT m 4≤_;omega
theorem macNT_pos (m:Mac):1≤macNT m:=by
 have:=blkC_pos (sub m.lv (3*16) 16);show 1≤lvNT m 3+blkC (sub m.lv (3*16) 16);omega
theorem l10Macro_T (m:Mac) (w:World) (hm:m.ok) (hv:m.valid) (h1:m.kind=2) :
 Calls Try.prog 43 #[.agg (ic m.zs),.bool true] w fun e w'=>∃ a c,e= .returned (.slice a (macNT m) c)∧w'.ownsRow w.heap.size 97 2 (.slice a (macNT m) c) (macNT m) ((macLT m).map (Value.int .i64))∧Ext w w':=by
 have Hl:=Lib.hid (Mac.zs_len hm);have Hm:=Lib.hid hm;have HV:=Lib.hid hv;have HK0:=Lib.hid (show m.kind≠0 by rw[h1];decide);have HK1:=Lib.hid h1;obtain⟨Bx,hBx⟩:∃ Bx,Bx=w.heap.size:=⟨_,rfl⟩;have E0:=(Ext.alloc w (.cells (ic m.zs) 84)).trans (Ext.alloc _ (.cells #[] 97));have I0:=(IB.new w 84 m.zs).alloc (.cells #[] 97);have o0:=World.ownsRow_made (base:=Bx+1) (e:=97) (size:=2) (w.alloc (.cells (ic m.zs) 84)) #[] 0 (by simp[hBx]) (by simp) rfl;have z0:Bx+1≤((w.alloc (.cells (ic m.zs) 84)).alloc (.cells #[] 97)).heap.size:=by simp[hBx]
 rw[World.size_alloc]at o0;have hk:=I0.cell (i:=0) (by rw[Mac.zs_len hm];omega);rw[Mac.zs_kind,h1]at hk;rw[←hBx]at I0 o0 hk;have HBx:=Lib.hid hBx;have HMI:=Lib.hid (show lvBT m 0=mdL m 4 from rfl);have HMN:=Lib.hid (show lvNT m 0=mdN m 4 from rfl);clear hm hv h1;go_enter Try.func43,Try.ntmps43
 go_upto_region 6 with fail
 try simp only[World.size_alloc]
 rw[←hBx];clear hBx;generalize (w.alloc (.cells (ic m.zs) 84)).alloc (.cells #[] 97)=w2 at *;have E2:Ext w w2:=E0;have z2:=z0;have I2:=I0;have hk2:=hk;have o2:=ownc o0 (show _=(mdL m 0:List Int).map (Value.int .i64) by simp[mdL]);clear E0 I0 o0 z0 hk;have hke:((2:Int) == 1)=false:=rfl;have F0:=FR.refl (Bx+1) 97 w2;go_wp2_with fail
 clear hk2 hke;go_loopw [5,6] (fun v y wr=>∃ k:Nat,k≤4∧y= .int .i64 k∧wr.ownsRow (Bx+1) 97 2 v (mdN m k) ((mdL m k).map (Value.int .i64))∧FR (Bx+1) 97 w2 wr) (fun _ y _=>4-(intOf y).toNat)
 case atStart=>exact⟨0,by omega,rfl,o2,F0⟩
 case round =>
  obtain⟨k,hk,rfl,o4,F4⟩:=hrel;clear o2 F0;obtain⟨a4,c4,rfl⟩:=owns_form o4;have hB4:=Nat.le_trans z2 F4.size
  by_cases hlt:k<4
  ·have hd:decide ((k:Int)<4)=true:=by simp;omega
   obtain⟨z,ez,lz⟩:=md_rng HV.out HK1.out hlt;have hmn:=mdN_le HV.out HK1.out k (by omega);have q1:=numN_le (show z<32768 by omega);have p1:=numN_pos z;have cz:=(F4.ib I2 (by decide)).cell (i:=3+k) (by rw[Hl.out];omega);rw[Mac.nth_mode Hm.out k hlt,ez]at cz;have HLs:=Lib.hid (show mdL m (k+1)=mdL m k++numL z 9 by rw[mdL,ez];simp);have HC:=Lib.hid (show mdN m k+numN z=mdN m (k+1) by rw[mdN,ez];simp);clear ez;go_wp2_with fail
   refine(l10Number_at z 9 9 rfl _ (by omega) (by omega)).mono ?_
   rintro e w5 ⟨a5,c5,rfl,o5,e5⟩
   obtain⟨g5,rfl⟩:=own_ptr o5 p1;have o4':=owns_ext o4 e5;have F5:=F4.trans (FR.of_ext e5 hB4);have hB5:=Nat.le_trans hB4 e5.size;go_wp2_with (at_builtin;refine wpList_appk _ rfl o4' hB5 _ _ 76 rfl (.agg #[.int .i64 0,.int .i64 0]) 16 Try.underlying76 info_Bin rfl (by decide) rfl _ _ _ _ rfl o5.1 (o5.cells rfl) (one_ints _) (by omega) (by omega) ?_;intro v2 w6 own2 gr2 _;refine Hid.out ?_)
   refine Lib.hid ?_;obtain⟨a6,c6,rfl⟩:=owns_form own2;have F6:=F5.trans (FR.of_row o4' gr2 hB5);have o6:=ownc own2 (show _=(mdL m (k+1)).map (Value.int .i64) by rw[HLs.out];simp);rw[HC.out]at o6⊢;clear own2 o5 o4' o4 F5 F4 e5 gr2 cz;go_wp2;go_roundw
   case rel=>exact⟨k+1,by omega,by go_num,o6,F6⟩
   case measure=>simp[intOf] <;> omega
  ·have HKR:=Lib.hid (show k=4 by omega);have hd:decide ((k:Int)<4)=false:=by simp;omega
   have H1:=Lib.hid (show mdN m k=lvNT m 0 by rw[HKR.out,HMN.out]);have H2:=Lib.hid (show mdL m k=lvBT m 0 by rw[HKR.out,HMI.out]);rw[H1.out,H2.out]at o4;rw[H1.out];obtain⟨w3,hw3⟩:∃ w3,w3=wr:=⟨_,rfl⟩;rw[←hw3]at o4 F4 hB4⊢;clear hw3;have E3:Ext w w3:=Below.trans E2 (F4.lo.mono (by have:=HBx.out;omega));have z3:=hB4;have I3:=F4.ib I2 (by decide);have o3:=o4;clear o4 F4 hB4 E2 I2;have F3:=FR.refl (Bx+1) 97 w3;go_wp2_with fail
   go_loopw [5,7] (fun v y wr=>∃ k:Nat,k≤4∧y= .int .i64 k∧wr.ownsRow (Bx+1) 97 2 v (lvNT m k) ((lvBT m k).map (Value.int .i64))∧FR (Bx+1) 97 w3 wr) (fun _ y _=>4-(intOf y).toNat)
   case atStart=>exact⟨0,by omega,rfl,o3,F3⟩
   case round =>
    obtain⟨k,hk,rfl,o4,F4⟩:=hrel;clear o3 F3;obtain⟨a4,c4,rfl⟩:=owns_form o4;have hB4:=Nat.le_trans z3 F4.size
    by_cases hlt:k<4
    ·have hd:decide ((k:Int)<4)=true:=by simp;omega
     obtain⟨l1,l2⟩:=lv_bd Hm.out HV.out hlt;have hbc:=blkC_le l1 l2;have hln:=lvNT_le Hm.out HV.out HK1.out k (by omega);have I4:=F4.ib I3 (by decide);have HLs:=Lib.hid (show lvBT m (k+1)=lvBT m k++blkB (sub m.lv (k*16) 16)from rfl);have HC:=Lib.hid (show lvNT m k+blkC (sub m.lv (k*16) 16)=lvNT m (k+1)from rfl);have HBK:=Lib.hid (fun w=>l10Block_any (sub m.lv (k*16) 16) w l1 l2);have HZB:=Lib.hid (Mac.zs_blk Hm.out k hlt);generalize sub m.lv (k*16) 16=bz at *;clear l1 l2;go_wp2_with (refine wpList_iload 81 _ rfl rfl I4 (7+k*16) 16 rfl _ Try.underlying81 rfl size_A16s (by rw[Hl.out];omega) _ (by rw[HZB.out]) ?_)
     refine(HBK.out _).mono ?_
     rintro e w5 ⟨a5,c5,rfl,o5,e5⟩
     have o4':=owns_ext o4 e5;have F5:=F4.trans (FR.of_ext e5 hB4);have hB5:=Nat.le_trans hB4 e5.size;obtain⟨g5,rfl⟩:=own_ptr o5 (blkC_pos bz);go_wp2_with (at_builtin;refine wpList_appk _ rfl o4' hB5 _ _ 76 rfl (.agg #[.int .i64 0,.int .i64 0]) 16 Try.underlying76 info_Bin rfl (by decide) rfl _ _ _ _ rfl o5.1 (o5.cells rfl) (one_ints _) (by omega) (by omega) ?_;intro v2 w2 own2 gr2 _;refine Hid.out ?_)
     refine Lib.hid ?_;obtain⟨a6,c6,rfl⟩:=owns_form own2;have F6:=F5.trans (FR.of_row o4' gr2 hB5);have o6:=ownc own2 (show _=(lvBT m (k+1)).map (Value.int .i64) by rw[HLs.out];simp);rw[HC.out]at o6⊢;clear own2 o5 o4' o4 F5 F4 e5 gr2 I4;go_wp2;go_roundw
     case rel=>exact⟨k+1,by omega,by go_num,o6,F6⟩
     case measure=>simp[intOf] <;> omega
    ·have HKR:=Lib.hid (show k=4 by omega);have hd:decide ((k:Int)<4)=false:=by simp;omega
     have H1:=Lib.hid (show lvNT m k=macNT m by rw[HKR.out];rfl);have H2:=Lib.hid (show lvBT m k=macLT m by rw[HKR.out];rfl);rw[H1.out,H2.out]at o4;rw[H1.out];have hlo:=F4.lo;go_wp2;go_ret
     exact⟨_,_,rfl,owns_mono o4 (by have:=HBx.out;omega),Below.trans E3 (hlo.mono (by have:=HBx.out;omega))⟩
section
variable {P : Program}
theorem run_loadVar_cells (w:World) {b off n:Nat} {zs:List Int} (h:∀ j,j<n→w.cell? ⟨b,off+j,none⟩=some (.int .i64 (nth zs j))) (hn:zs.length=n) (ty:TypeId) (d:TypeDesc) (hu:P.underlying ty=some d) (hd:(match d with | .struct _ | .array _ _=>true|_=>false)=true) (hi:(P.info? ty).map (·.size)=some n) :
 (loadVar ty ⟨b,off,none⟩).run P w= .ok (.agg (ic zs)) w:=by
 have hl:(loadCells ⟨b,off,none⟩ (zs.map (Value.int .i64)).length).run P w= .ok (zs.map (Value.int .i64)).toArray w :=
  run_loadCells_list (P:=P) w ⟨b,off,none⟩ _ (fun j v hv=>by
   have hj:j<n:=by
    have:=(List.getElem?_eq_some_iff.1 hv).1
    simpa [hn] using this
   have hadd:(⟨b,off,none⟩:Addr).add j=⟨b,off+j,none⟩:=by rw[Addr.add_lit]
   rw[hadd,h j hj];have e:(zs.map (Value.int .i64))[j]?=some (.int .i64 (nth zs j)):=by
    have:j<zs.length:=by omega
    simp[nth,this]
   rw[e]at hv;exact hv)
 cases hq:P.info? ty with
 | none=>simp[hq]at hi
 | some i =>
  have hs:i.size=n:=by simpa [hq] using hi
  rw[List.length_map,hn]at hl;simp[loadVar,Sem.run_bind,isAgg_of w hu hd,sizeOf,typeInfo,hq,hs,hl,ic]
theorem wpList_cload {ops:Array Oper} {rest:List Oper} {o:Oper} {a:Act} {w:World} {Q:Exit→Act→World→Prop} (ty:TypeId) (x:Operand) (ho:o.op= .load ty x) (hgd:Region.wanted o (yielded ops a.tmps)=true)
 {b off n:Nat} {zs:List Int} (h:∀ j,j<n→w.cell? ⟨b,off+j,none⟩=some (.int .i64 (nth zs j))) (hn:zs.length=n) (hx:a.eval x= .pointer (some ⟨b,off,none⟩)) (d:TypeDesc)
 (hu:P.underlying ty=some d) (hd:(match d with | .struct _ | .array _ _=>true|_=>false)=true) (hi:(P.info? ty).map (·.size)=some n)
 (hK:wpList P ops Q rest (a.put o.dst (.agg (ic zs))) w):wpList P ops Q (o::rest) a w:=by
 refine wpList_wanted hgd fun _ hK' => ?_
 unfold Oper.wp execOp;simp only[ho,hx,Instr.loadAt,Instr.sureAddr,Sem.run_bind,Sem.run_pure,Result.andThen_ok,run_loadVar_cells w h hn ty d hu hd hi];exact hK' _ _ hK
end
/-- The slice at a of n macroblocks reads as ms. -/
def MR (w:World) (a:Option Addr) (n:Nat) (ms:Nat→Mac):Prop :=
 ∀ i,i<n→(ms i).ok∧∃ b off,a=some ⟨b,off,none⟩∧∀ j,j<71→w.cell? ⟨b,off+i*71+j,none⟩=some (.int .i64 (nth (ms i).zs j))
theorem MR.ext {w w':World} {a:Option Addr} {n:Nat} {ms:Nat→Mac} (h:MR w a n ms) (e:Ext w w'):MR w' a n ms:=fun i hi=>by
 obtain⟨h0,b,off,h1,h2⟩:=h i hi;exact⟨h0,b,off,h1,fun j hj=>cell_ext e (h2 j hj)⟩
/-- The decisions of one macroblock, their number. -/
noncomputable def mbL (m : Mac) (intra : Bool) : List Int := if intra then macLT m else macL m
noncomputable def mbN (m : Mac) (intra : Bool) : Nat := if intra then macNT m else macN m
noncomputable def sliL (ms : Nat → Mac) (intra : Bool) : Nat → List Int
 | 0 => []
 | k+1=>sliL ms intra k++mbL (ms k) intra
noncomputable def sliN (ms : Nat → Mac) (intra : Bool) : Nat → Nat
 | 0=>0
 | k+1=>sliN ms intra k+mbN (ms k) intra
/-- What a slice takes. -/
def mbOk (m:Mac) (intra:Bool):Prop:=m.valid∧(intra=true→m.kind=2)
noncomputable instance (m : Mac) (intra : Bool) : Decidable (mbOk m intra) := Classical.propDecidable _
def sliOk (ms:Nat→Mac) (intra:Bool) (n:Nat):Prop:=(1≤n∧n≤4)∧∀ k,k<n→mbOk (ms k) intra
noncomputable instance (ms : Nat → Mac) (intra : Bool) (n : Nat) : Decidable (sliOk ms intra n) := Classical.propDecidable _
/-- What EncodeSlice answers. -/
noncomputable def slcL (ms : Nat → Mac) (intra : Bool) (n : Nat) : List Int := if sliOk ms intra n then encS (sliL ms intra n) (sliN ms intra n) else []
theorem slcL_len (ms:Nat→Mac) (intra:Bool) (n:Nat):(slcL ms intra n).length≤60004:=by
 unfold slcL
 split
 ·exact encS_len _ _
 ·simp
theorem slcL_byt (ms:Nat→Mac) (intra:Bool) (n:Nat):bytL (slcL ms intra n):=by
 unfold slcL
 split
 ·exact encS_byt _ _
 ·intro x hx;cases hx
theorem mbN_le {m:Mac} {intra:Bool} (hm:m.ok) (h:mbOk m intra):1≤mbN m intra∧mbN m intra≤5000:=by
 unfold mbN;cases intra with
 | true=>exact⟨macNT_pos m,macNT_le hm h.1 (h.2 rfl)⟩
 | false=>exact⟨macN_pos m,macN_le hm h.1⟩
theorem spec_l10Macro_mb (m:Mac) (intra:Bool) (w:World) (hm:m.ok) (h:mbOk m intra) :
 Calls Try.prog 43 #[.agg (ic m.zs),.bool intra] w fun e w'=>∃ a c,e= .returned (.slice a (mbN m intra) c)∧w'.ownsRow w.heap.size 97 2 (.slice a (mbN m intra) c) (mbN m intra) ((mbL m intra).map (Value.int .i64))∧Ext w w':=by
 cases intra with
 | true=>exact l10Macro_T m w hm h.1 (h.2 rfl)
 | false=>exact l10Macro_any m w hm h.1
theorem spec_EncodeSlice_any (a:Option Addr) (n c:Nat) (ms:Nat→Mac) (intra:Bool) (w:World) (R:MR w a n ms) (hn:n≤2^40) :
 Calls Try.prog 37 #[.slice a n c,.bool intra] w fun e w'=>∃ a' c',e= .returned (.slice a' (slcL ms intra n).length c')∧w'.ownsRow w.heap.size 5 1 (.slice a' (slcL ms intra n).length c') (slcL ms intra n).length (u8s (slcL ms intra n))∧Ext w w':=by
 by_cases h0:1≤n∧n≤4
 ·have EA:=Ext.alloc w (.cells #[] 97);have oA:=World.ownsRow_made (base:=w.heap.size) (e:=97) (size:=2) w #[] 0 (Nat.le_refl _) (by simp) rfl;have hsA:=EA.size;go_enter Try.func37,Try.ntmps37
  go_wp2_with fail
  refine(l1In_yes _ _ _ _ (by omega) (by omega)).mono ?_
  rintro e w' ⟨rfl,rfl⟩
  go_wp2_with fail
  go_loopw [5,6] (fun v i wr=>∃ k:Nat,k≤n∧i= .int .i64 (k:Nat)∧Ext w wr∧w.heap.size≤wr.heap.size∧(∀ j,j<k→mbOk (ms j) intra)∧sliN ms intra k≤k*5000∧wr.ownsRow w.heap.size 97 2 v (sliN ms intra k) ((sliL ms intra k).map (Value.int .i64))) (fun _ i _=>n-(intOf i).toNat)
  case atStart=>exact⟨0,by omega,rfl,EA,hsA,fun j hj=>by omega,Nat.zero_le _,oA⟩
  case round =>
   obtain⟨k,hk,rfl,E2,hs2,hall,hsum,o2⟩:=hrel;clear EA oA hsA;obtain⟨al,cl,rfl⟩:=owns_form o2;have Hall:=Lib.hid hall;clear hall
   by_cases hlt:k<n
   ·obtain⟨hok,b,off,rfl,hcs⟩:=R.ext E2 k hlt;have hzl:=Mac.zs_len hok;have hkd:=hcs 0 (by omega);rw[Mac.zs_kind,Nat.add_zero]at hkd;have Hcs:=Lib.hid hcs;have HR:=Lib.hid R;have Hok:=Lib.hid hok;obtain⟨m,hm⟩:∃ m,m=ms k:=⟨_,rfl⟩;rw[←hm]at hkd hzl Hcs Hok;have HM:=Lib.hid hm;have Hzl:=Lib.hid hzl;clear hm hcs hok hzl R;go_wp2_with (refine wpList_cload 84 _ rfl rfl Hcs.out Hzl.out rfl _ Try.underlying84 rfl size_Macro ?_)
    refine(spec_MacroValid_any m _ Hok.out).mono ?_
    rintro e w3 ⟨rfl,e3⟩
    have hkd3:=cell_ext e3 hkd;have E3:=E2.trans e3
    by_cases hmb:mbOk m intra
    ·have hb:=mbN_le Hok.out hmb;have Hmb:=Lib.hid hmb;rw[decide_eq_true hmb.1];have hk2:intra=true→m.kind=2:=hmb.2;have Hcs3:=Lib.hid (fun j (hj:j<71)=>cell_ext e3 (Hcs.out j hj));have o3:=owns_ext o2 e3;have hs3:=Nat.le_trans hs2 e3.size;have HL:=Lib.hid (show sliL ms intra (k+1)=sliL ms intra k++mbL m intra by rw[HM.out];rfl);have HN:=Lib.hid (show sliN ms intra k+mbN m intra=sliN ms intra (k+1) by rw[HM.out];rfl);obtain⟨N2,hN2⟩:∃ N2,N2=sliN ms intra k:=⟨_,rfl⟩;rw[←hN2]at o3 hsum HN⊢;obtain⟨M2,hM2⟩:∃ M2,M2=mbN m intra:=⟨_,rfl⟩;rw[←hM2]at hb HN;have HM2:=Lib.hid hM2;clear hmb o2 hkd e3 hN2 hM2;cases intra
     case' true=>rw[hk2 rfl]at hkd3
     all_goals
      clear hk2;go_wp2_with (refine wpList_cload 84 _ rfl rfl Hcs3.out Hzl.out rfl _ Try.underlying84 rfl size_Macro ?_)
      refine(spec_l10Macro_mb m _ _ Hok.out Hmb.out).mono ?_;rw[←HM2.out]
      rintro e w5 ⟨a5,c5,rfl,o5,e5⟩
      obtain⟨g5,rfl⟩:=own_ptr o5 hb.1;have o4':=owns_ext o3 e5;have hB5:=Nat.le_trans hs3 e5.size;go_wp2_with (at_builtin;refine wpList_appk _ rfl o4' hB5 _ _ 76 rfl (.agg #[.int .i64 0,.int .i64 0]) 16 Try.underlying76 info_Bin rfl (by decide) rfl _ _ _ _ rfl o5.1 (o5.cells rfl) (one_ints _) (by omega) (by omega) ?_;intro v2 w6 own2 gr2 _;refine Hid.out ?_)
      refine Lib.hid ?_;obtain⟨a6,c6,rfl⟩:=owns_form own2;have E6:Ext w w6:=Ext.grown (E3.trans e5) gr2 (owns_ge o4');have hs6:=E6.size;have o6:=ownc own2 (show _=(sliL ms _ (k+1)).map (Value.int .i64) by rw[HL.out];simp);rw[HN.out]at o6⊢;clear own2 o5 o4' o3 e5 gr2 hkd3;go_wp2;go_roundw
      case rel =>
       refine⟨k+1,by omega,by go_num,E6,hs6,fun j hj => ?_,by have:=HN.out;omega,o6⟩
       by_cases e:j=k
       ·rw[e,←HM.out];exact Hmb.out
       ·exact Hall.out j (by omega)
      case measure=>simp[intOf];omega
    ·have Hno:=Lib.hid (show slcL ms intra n = [] by unfold slcL;rw[if_neg (fun h=>hmb (by rw[HM.out];exact h.2 k hlt))]);have e4:=Ext.alloc w3 (.cells #[] 5);have o0:=World.ownsRow_made (base:=w.heap.size) (e:=5) (size:=1) w3 #[] 0 E3.size (by simp) rfl;have E4:=E3.trans e4;clear e3 e4 E2 E3 o2
     by_cases hv:m.valid
     ·rw[decide_eq_true hv];have hn2:intra=true∧m.kind≠2:=by
       refine Classical.byContradiction fun h=>hmb ⟨hv,fun hi => ?_⟩
       exact Classical.byContradiction fun h2=>h ⟨hi,h2⟩
      obtain⟨rfl,hk2⟩:=hn2;have hdk:(m.kind == 2)=false:=by simpa using hk2
      clear hmb hv;go_wp2;go_ret
      rw[Hno.out];exact⟨_,_,rfl,o0,E4⟩
     ·rw[decide_eq_false hv];clear hmb hv;go_wp2;go_ret
      rw[Hno.out];exact⟨_,_,rfl,o0,E4⟩
   ·obtain rfl:k=n:=by omega
    have Hs:=Lib.hid (show slcL ms intra k=encS (sliL ms intra k) (sliN ms intra k) by unfold slcL;rw[if_pos ⟨h0,Hall.out⟩]);go_wp2_with fail
    refine(spec_EncodeBins_any al _ cl w.heap.size _ _ o2 (by omega)).mono ?_
    rintro e w4 ⟨a4,c4,rfl,o4,e4⟩
    have E4:=E2.trans e4;have o5:=owns_mono o4 hs2;clear o4 e4 E2 o2;go_wp2;go_ret
    rw[Hs.out];exact⟨_,_,rfl,o5,E4⟩
 ·have hs:slcL ms intra n = []:=by unfold slcL;rw[if_neg (fun h=>h0 h.1)]
  rw[hs];clear hs R;have E1:=(Ext.alloc w (.cells #[] 97)).trans (Ext.alloc _ (.cells #[] 5));have o0:=World.ownsRow_made (base:=w.heap.size) (e:=5) (size:=1) (w.alloc (.cells #[] 97)) #[] 0 (by simp) (by simp) rfl;rw[World.size_alloc]at o0;go_enter Try.func37,Try.ntmps37
  go_wp2_with fail
  refine(l1In_no _ _ _ _ (by omega)).mono ?_
  rintro e w' ⟨rfl,rfl⟩
  go_wp2;go_ret
  exact⟨_,_,rfl,o0,E1⟩
end Go.Proofs.Ytphfacfjhjcllaa
namespace Go.Proofs.Ytphfacfjhjcllaa
open Go.RowKit
theorem fill_seg1 (zs ys:List Int) (off:Nat) (h:off+zs.length≤ys.length):(ic zs).zipIdx.foldl (fun cs (x:Value×Nat)=>cs.setIfInBounds (off+x.2) x.1) (ic ys)=ic (spl ys off zs):=by
 have key:∀(zs ys:List Int) (k:Nat),off+k+zs.length≤ys.length→((zs.map (Value.int .i64)).zipIdx k).foldl (fun cs (x:Value×Nat)=>cs.setIfInBounds (off+x.2) x.1) (ic ys)=ic (spl ys (off+k) zs):=by
  intro zs
  induction zs with
  | nil=>intro ys k _;simp[spl_nil]
  | cons z zs ih =>
   intro ys k hk;simp only[List.length_cons]at hk;rw[List.map_cons,List.zipIdx_cons,List.foldl_cons];have e:(ic ys).setIfInBounds (off+k) (.int .i64 z)=ic (ys.set (off+k) z):=by simp[ic,List.map_set]
   rw[e,ih _ _ (by simp;omega),show off+(k+1)=off+k+1 by omega,spl_cons (by omega)]
 have:=key zs ys 0 (by omega);rw[Nat.add_zero]at this;rw[←this,←Array.foldl_toList];simp[ic]
theorem fill_cons1 {place:Nat→Option (Nat×Nat)} {i off size:Nat} {zs ys:List Int} (rest:List (Nat×Value)) (hp:place i=some (off,size)) (hz:zs.length=size) (h:off+size≤ys.length) :
 Instr.fill place (ic ys) ((i,.agg (ic zs))::rest)=Instr.fill place (ic (spl ys off zs)) rest:=by
 have hs:=fill_seg1 zs ys off (by omega);have e:Instr.fill place (ic ys) ((i,.agg (ic zs))::rest)=if(ic zs).size≠size || off+(ic zs).size>(ic ys).size then none else Instr.fill place ((ic zs).zipIdx.foldl (fun cs (x:Value×Nat)=>cs.setIfInBounds (off+x.2) x.1) (ic ys)) rest:=by
  rw[Instr.fill,hp];rfl
 rw[e,if_neg (by simp[ic_size];omega),hs]
theorem zrow1 : (Array.range (1*71)).map (fun i=>Try.zeroCells84[i%Try.zeroCells84.size]!)=ic (zl 71):=by kernel_rfl
theorem info_M1 : ∃ i,Try.prog.info? 84=some i∧i.zero=some (.agg Try.zeroCells84)∧i.size=71∧i.bytes=568:=by
 have:(Try.prog.info? 84).map (fun i=>(i.zero,i.size,i.bytes))=some (some (.agg Try.zeroCells84),71,568):=by kernel_rfl
 cases hq:Try.prog.info? 84 with
 | none=>rw[hq]at this;simp at this
 | some i=>rw[hq]at this;simp at this;exact⟨i,rfl,this.1,this.2.1,this.2.2⟩
theorem zeroM_size : (Value.agg Try.zeroCells84).cells.size=71:=by kernel_rfl
theorem run_bs1 (w:World) (z0:List Int) (h0:z0.length=71) :
 (Instr.buildSlice 72 1 #[(0,.agg (ic z0))]).run Try.prog w= .ok (.slice (some ⟨w.heap.size,0,none⟩) 1 1) (w.alloc (.cells (ic z0) 84)):=by
 obtain⟨i,hi,hz,hs,-⟩:=info_M1;have hspl:spl (zl 71) 0 z0=z0:=by unfold spl;rw[h0];simp[zl]
 have hf:Instr.fill (fun i=>some (i*71,71)) ((Array.range (1*71)).map (fun i=>Try.zeroCells84[i%Try.zeroCells84.size]!)) [(0,.agg (ic z0))]=some (ic z0):=by
  rw[zrow1,fill_cons1 _ rfl h0 (by rw[zl_len];omega),Nat.zero_mul,hspl];rfl
 have hsz:(sizeOf 84).run Try.prog w= .ok 71 w:=by simp[sizeOf,typeInfo,hi,hs]
 have hzv:(zeroValue 84).run Try.prog w= .ok (.agg Try.zeroCells84) w:=by simp[zeroValue,typeInfo,hi,hz]
 unfold Instr.buildSlice;rw[Sem.run_bind,run_underlying Try.underlying72 w,Result.andThen_ok];show Sem.run _ (do let size ←sizeOf 84;_) w=_;rw[Sem.run_bind,hsz,Result.andThen_ok,if_neg (by decide),if_neg (by decide)];simp only[Sem.run_bind,hzv,Result.andThen_ok,Sem.run_pure,Value.cells];rw[hf];rfl
theorem wpList_bs1 {ops:Array Oper} {rest:List Oper} {o:Oper} {a:Act} {w:World} {Q:Exit→Act→World→Prop} (x0:Operand) (ho:o.op= .buildSlice 72 1 #[(0,x0)]) (hgd:Region.wanted o (yielded ops a.tmps)=true)
 (z0:List Int) (e0:a.eval x0= .agg (ic z0)) (h0:z0.length=71)
 (hK:wpList Try.prog ops Q rest (a.put o.dst (.slice (some ⟨w.heap.size,0,none⟩) 1 1)) (w.alloc (.cells (ic z0) 84))):wpList Try.prog ops Q (o::rest) a w:=by
 refine wpList_wanted hgd fun _ hK' => ?_
 unfold Oper.wp execOp;have h:=run_bs1 w z0 h0;rw[←e0]at h;simp only[ho,List.map_toArray,List.map_cons,List.map_nil,Sem.run_bind,Sem.run_pure,Result.andThen_ok,h];exact hK' _ _ hK
/-- append(s, m), m the macroblock in the block just laid. -/
theorem wpList_app71 (wr:World) {ops:Array Oper} {rest:List Oper} {o:Oper} {a:Act} {Q:Exit→Act→World→Prop} {base:Nat} {v:Value} {n:Nat} {xs:List Value}
 (hown:wr.ownsRow base 84 71 v n xs) (hbase:base≤wr.heap.size) (zs:List Int) (hz:zs.length=71)
 (hg:o.guard=none) (s x:Operand) (ho:o.op= .call { callee := .builtin .append,args := #[s,x],argTypes := #[72,72] })
 (hs:a.eval s=v) (hx:a.eval x= .slice (some ⟨wr.heap.size,0,none⟩) 1 1) (hn:n<2^30)
 (h:∀ v' w',w'.ownsRow base 84 71 v' (n+1) (xs++zs.map (Value.int .i64))→wr.grownBy w' v.ownBlock→wpList Try.prog ops Q rest (a.put o.dst v') w'):wpList Try.prog ops Q (o::rest) a (wr.alloc (.cells (ic zs) 84)):=by
 obtain⟨i0,hi,hz0,hz1,hz2⟩:=info_M1;refine wpList_append_own _ hg s x 72 ho base 84 i0 _ 71 568 Try.underlying72 hi hz0 hz1 hz2 zeroM_size (by decide) v n xs hs (hown.alloc _) ⟨wr.heap.size,0,none⟩ 1 1 (zs.map (Value.int .i64)) hx (by simp[hz]) ?_ (by intro u hu;obtain⟨z,-,rfl⟩:=List.mem_map.1 hu;rfl) (by unfold maxLen;omega) (by omega) (by simp;omega) ?_
 ·intro j q hq;have hj:j<zs.length:=by
   have:=(List.getElem?_eq_some_iff.1 hq).1
   simpa using this
  rw[Addr.add_lit,Nat.zero_add,(IB.new wr 84 zs).cell hj];have e:(zs.map (Value.int .i64))[j]?=some (.int .i64 (nth zs j)):=by simp[nth,hj]
  rw[←e];exact hq
 ·intro v' w' a1 a2 _;exact h v' w' a1 (grownBy_trans (World.grownBy_alloc _ _ _) a2)
theorem Mac.ofz {zs:List Int} (h:zs.length=71):∃ m:Mac,m.ok∧m.zs=zs:=by
 match zs,h with
 | a::b::c::t,h =>
  refine⟨⟨a,b,c,t.take 4,t.drop 4⟩,⟨by simp at h⊢;omega,by simp at h⊢;omega⟩,?_⟩;simp[Mac.zs]
theorem mac_ex (zs:List Int):∃ m:Mac,m.ok∧(zs.length=71→m.zs=zs):=by
 by_cases h:zs.length=71
 ·obtain⟨m,h1,h2⟩:=Mac.ofz h;exact⟨m,h1,fun _=>h2⟩
 ·exact⟨mac0,mac0_ok,fun h2=>absurd h2 h⟩
noncomputable def macOf (zs : List Int) : Mac := Classical.choose (mac_ex zs)
theorem macOf_ok (zs:List Int):(macOf zs).ok:=(Classical.choose_spec (mac_ex zs)).1
theorem macOf_zs {zs:List Int} (h:zs.length=71):(macOf zs).zs=zs:=(Classical.choose_spec (mac_ex zs)).2 h
theorem MR.of_own {w:World} {H n c:Nat} {a:Option Addr} {L:List Int} (h:w.ownsRow H 84 71 (.slice a n c) n (L.map (Value.int .i64))):MR w a n (fun i=>macOf (sub L (i*71) 71)):=by
 have hl:L.length=n*71:=by simpa using h.1
 intro i hi;refine⟨macOf_ok _,?_⟩;have hs:(sub L (i*71) 71).length=71:=sub_len _ _ _ (by omega);rcases id h.2 with⟨hv,h0⟩|⟨g,cap,cur,hv,-⟩
 ·omega
 ·simp only[Value.slice.injEq]at hv;obtain⟨rfl,-,rfl⟩:=hv;refine⟨g,0,rfl,fun j hj => ?_⟩;simp only;rw[macOf_zs hs,nth_sub _ _ _ _ hj,Nat.zero_add,h.cellAt _ (by omega)];have hb:i*71+j<L.length:=by omega
  simp[nth,hb]
theorem l20Macros_c (b P many:Nat) (intra:Bool) (w:World) (h:RdP w b P) (hp:P<2^36) (hm:many≤1000) :
 Calls Try.prog 38 #[.pointer (some ⟨b,0,none⟩),.int .i64 (many:Nat),.bool intra] w fun e w'=>∃(a:Option Addr) (c:Nat) (L:List Int),e= .returned (.slice a many c)∧w'.ownsRow w.heap.size 84 71 (.slice a many c) many (L.map (Value.int .i64))∧RdP w' b (P+many*600)∧w.grownBy w' (some b):=by
 have hbw:b<w.heap.size:=h.lt;have oA:=World.ownsRow_made (base:=w.heap.size) (e:=84) (size:=71) w #[] 0 (Nat.le_refl _) (by simp) rfl;have EA:=Ext.alloc w (.cells #[] 84);have D0:DG w b P 0 0 (w.alloc (.cells #[] 84)):=⟨ext_gr EA,by rw[Nat.zero_mul,Nat.add_zero];exact h.ext EA⟩;have hsA:=EA.size;go_enter Try.func38,Try.ntmps38
 go_wp2_with fail
 go_loopw [7,8] (fun v i wr=>∃(k:Nat) (L:List Int),k≤many∧i= .int .i64 (k:Nat)∧wr.ownsRow w.heap.size 84 71 v k (L.map (Value.int .i64))∧w.grownBy wr (some b)∧RdP wr b (P+k*600)∧w.heap.size≤wr.heap.size) (fun _ i _=>many-(intOf i).toNat)
 case atStart=>exact⟨0,[],by omega,rfl,oA,D0.1,by have:=D0.2;simpa using this,hsA⟩
 case round =>
  obtain⟨k,L,hk,rfl,o2,g2,r2,hs2⟩:=hrel;clear oA EA D0 hsA;obtain⟨al,cl,rfl⟩:=owns_form o2
  by_cases hlt:k<many
  ·go_wp2_with fail
   refine(l20Macro_c b _ intra 0 _ r2 (by omega) (by omega) (by omega)).mono ?_
   rintro e w3 ⟨zs,rfl,hzl,-,r3,g3⟩
   have o3:=own_gr o2 g3 hbw;have gg:=grown_trans g2 g3;have hs3:=Nat.le_trans hs2 g3.size;have Hzl:=Lib.hid hzl;have r3':=r3.mono (P':=P+(k+1)*600) (by omega);clear o2 g2 r2 r3 g3 hzl;go_wp2_with (first|(at_builtin;refine wpList_app71 _ o3 hs3 zs Hzl.out rfl _ _ rfl rfl rfl (by omega) ?_;intro v6 w6 own6 gr6;refine Hid.out ?_)|refine wpList_bs1 _ rfl rfl zs rfl Hzl.out ?_)
   refine Lib.hid ?_;have D6:=(show DG w b (P+(k+1)*600) 0 0 w3 from ⟨gg,r3'⟩).own gr6 (owns_ge o3) hbw;have o6:w6.ownsRow w.heap.size 84 71 v6 (k+1) ((L++zs).map (Value.int .i64)):=by rw[List.map_append];exact own6
   have hs6:=D6.1.size;clear own6 gr6 o3 r3' gg;go_wp2;go_roundw
   case rel=>exact⟨k+1,L++zs,by omega,by go_num,o6,D6.1,D6.2,hs6⟩
   case measure=>simp[intOf];omega
  ·obtain rfl:k=many:=by omega
   go_wp2;go_ret
   exact⟨_,_,_,rfl,o2,r2,g2⟩
theorem bx5 {w:World} {b:Nat} {x0 x1 x2 x3 x4:Value} {T:TypeId} (h:w.heap[b]?=some (.cells #[x0,x1,x2,x3,x4] T (0,0))):b<w.heap.size∧w.cell? ⟨b,0,none⟩=some x0∧w.cell? ⟨b,1,none⟩=some x1∧w.cell? ⟨b,2,none⟩=some x2∧w.cell? ⟨b,3,none⟩=some x3∧w.cell? ⟨b,4,none⟩=some x4 :=
 ⟨lt_of_block h,by simp[World.cell?,h],by simp[World.cell?,h],by simp[World.cell?,h],by simp[World.cell?,h],by simp[World.cell?,h]⟩
theorem fz5 {w:World} {b:Nat} {x0 x1 x2 x3 x4:Value} {T:TypeId} (h:w.heap[b]?=some (.cells #[x0,x1,x2,x3,x4] T (0,0))):w.frozen? ⟨b,0,none⟩=false∧w.frozen? ⟨b,1,none⟩=false∧w.frozen? ⟨b,2,none⟩=false∧w.frozen? ⟨b,3,none⟩=false∧w.frozen? ⟨b,4,none⟩=false :=
 ⟨by simp[World.frozen?,h],by simp[World.frozen?,h],by simp[World.frozen?,h],by simp[World.frozen?,h],by simp[World.frozen?,h]⟩
theorem blk_set5 {w:World} {b:Nat} {x0 x1 x2 x3 x4 y0 y1 y2 y3 y4:Value} {T:TypeId} (h:w.heap[b]?=some (.cells #[x0,x1,x2,x3,x4] T (0,0))):(((((w.setCell ⟨b,0,none⟩ y0).setCell ⟨b,1,none⟩ y1).setCell ⟨b,2,none⟩ y2).setCell ⟨b,3,none⟩ y3).setCell ⟨b,4,none⟩ y4).heap[b]?=some (.cells #[y0,y1,y2,y3,y4] T (0,0)):=by
 have h1:=heap_setCell_same w b 0 _ _ y0 h;have h2:=heap_setCell_same _ b 1 _ _ y1 h1;have h3:=heap_setCell_same _ b 2 _ _ y2 h2;have h4:=heap_setCell_same _ b 3 _ _ y3 h3;have h5:=heap_setCell_same _ b 4 _ _ y4 h4
 simpa using h5
theorem gs1 (w:World) (g o:Nat) (u:Value):w.grownBy (w.setCell ⟨g,o,none⟩ u) (some g):=⟨rfl,rfl,rfl,by simp,fun k _ hk=>heap_setCell_other w ⟨g,o,none⟩ k u (fun e=>hk (by simp[e]))⟩
theorem gs5 (w:World) (B i0 i1 i2 i3 i4:Nat) (u0 u1 u2 u3 u4:Value):w.grownBy (((((w.setCell ⟨B,i0,none⟩ u0).setCell ⟨B,i1,none⟩ u1).setCell ⟨B,i2,none⟩ u2).setCell ⟨B,i3,none⟩ u3).setCell ⟨B,i4,none⟩ u4) (some B) :=
 grownBy_trans (grownBy_trans (grownBy_trans (grownBy_trans (gs1 _ _ _ _) (gs1 _ _ _ _)) (gs1 _ _ _ _)) (gs1 _ _ _ _)) (gs1 _ _ _ _)
theorem own_ne2 {w:World} {b1 b2 e1 e2 s1 s2 n1 n2:Nat} {v1 v2:Value} {x1 x2:List Value} (h1:w.ownsRow b1 e1 s1 v1 n1 x1) (h2:w.ownsRow b2 e2 s2 v2 n2 x2) (hne:e1≠e2):v1.ownBlock=none∨v1.ownBlock≠v2.ownBlock:=by
 rcases h1.2 with⟨rfl,-⟩|⟨g,cap,cur,rfl,-,p1,-⟩
 ·exact .inl rfl
 ·right
  intro he;rcases h2.2 with⟨rfl,-⟩|⟨g',cap',cur',rfl,-,p2,-⟩
  ·simp[Value.ownBlock]at he
  ·simp[Value.ownBlock]at he;subst he;rw[p1]at p2;simp at p2;exact hne p2.2
/-- Sums. -/
def sumN (g:Nat→Nat):Nat→Nat
 | 0=>0
 | n+1=>sumN g n+g n
theorem sumN_mono {g:Nat→Nat} {i n:Nat} (h:i≤n):sumN g i≤sumN g n:=by
 induction n with
 | zero =>
  obtain rfl:i=0:=by omega
  exact Nat.le_refl _
 | succ n ih =>
  by_cases hi:i=n+1
  ·subst hi;exact Nat.le_refl _
  ·have:=ih (by omega);simp only[sumN];omega
theorem sumN_mem {g:Nat→Nat} {i n:Nat} (h:i<n):g i≤sumN g n:=by
 have:=sumN_mono (g:=g) (show i+1≤n from h);simp only[sumN]at this;omega
theorem seq_le {bs:Nat→Nat} {n:Nat} (h:∀ i,i<n→bs i≤bs (i+1)):∀ {j i:Nat},i≤j→j≤n→bs i≤bs j:=by
 intro j
 induction j with
 | zero =>
  intro i hi _;obtain rfl:i=0:=by omega
  exact Nat.le_refl _
 | succ j ih =>
  intro i hi hj
  by_cases e:i=j+1
  ·subst e;exact Nat.le_refl _
  ·exact Nat.le_trans (ih (by omega) (by omega)) (h j (by omega))
theorem seq_snoc {us:Nat→Nat} {k lo hi hi':Nat} (h2:lo≤us 0) (h4:us k≤hi) (h5:∀ i,i<k→us i≤us (i+1)) (hh:hi≤hi') :
 ∃ vs:Nat→Nat,(∀ i,i<k→vs i=us i)∧vs k=hi∧vs (k+1)=hi'∧lo≤vs 0∧(∀ i,i<k+1→vs i≤vs (i+1))∧∀ i,i<k→us (i+1)≤vs (i+1):=by
 obtain⟨vs,v1,v2,v3⟩:∃ vs:Nat→Nat,(∀ i,i<k→vs i=us i)∧vs k=hi∧vs (k+1)=hi' :=
  ⟨fun i=>if i<k then us i else if i=k then hi else hi',fun i hi=>by simp[hi],by simp,by simp;omega⟩
 have hle:∀ i,i<k→us (i+1)≤vs (i+1):=fun i hi3=>by
  by_cases e:i+1=k
  ·rw[e,v2];exact h4
  ·rw[v1 _ (by omega)];exact Nat.le_refl _
 refine⟨vs,v1,v2,v3,?_,fun i hi2 => ?_,hle⟩
 ·by_cases h0:k=0
  ·subst h0;rw[v2];omega
  ·rw[v1 0 (by omega)];exact h2
 ·by_cases e:i=k
  ·subst e;rw[v2,v3];exact hh
  ·rw[v1 i (by omega)];exact Nat.le_trans (h5 i (by omega)) (hle i (by omega))
/-- The list of f's strings. -/
def lst (n:Nat) (f:Nat→List Int):List (List Int):=(List.range n).map f
theorem lst_len (n:Nat) (f:Nat→List Int):(lst n f).length=n:=by simp[lst]
theorem lget_lst {n:Nat} {f:Nat→List Int} {i:Nat} (h:i<n):lget (lst n f) i=f i:=by simp[lget,lst,h]
theorem SS.of {w:World} {a:Option Addr} {n:Nat} {f:Nat→List Int} (h:∀ i,i<n→∃ b off,a=some ⟨b,off,none⟩∧BsAt w b (off+i) (f i)):SS w a n (lst n f) :=
 ⟨lst_len _ _,fun i hi=>by rw[lget_lst hi];exact h i hi⟩
theorem SS.at {w:World} {a:Option Addr} {n:Nat} {f:Nat→List Int} (h:SS w a n (lst n f)) {i:Nat} (hi:i<n):∃ b off,a=some ⟨b,off,none⟩∧BsAt w b (off+i) (f i):=by
 have:=h.2 i hi;rw[lget_lst hi]at this;exact this
/-- A coded picture. -/
structure Cd where
 w:Int
 h:Int
 i:Bool
 q:Int
 n:Nat
 f:Nat→List Int
def cd0 : Cd:=⟨0,0,false,0,0,fun _ => []⟩
/-- The five cells at b, o read as a coded picture. -/
def CdAt (w:World) (b o:Nat) (x:Cd):Prop :=
 ∃(a:Option Addr) (c:Nat),(w.cell? ⟨b,o,none⟩=some (.int .i64 x.w)∧w.cell? ⟨b,o+1,none⟩=some (.int .i64 x.h)∧w.cell? ⟨b,o+2,none⟩=some (.bool x.i)∧w.cell? ⟨b,o+3,none⟩=some (.int .i64 x.q)∧w.cell? ⟨b,o+4,none⟩=some (.slice a x.n c))∧SS w a x.n (lst x.n x.f)∧x.n≤c∧c≤maxLen
/-- The slice at a of n coded pictures reads as r. -/
def CP (w:World) (a:Option Addr) (n:Nat) (r:Nat→Cd):Prop :=
 ∀ i,i<n→∃ b off,a=some ⟨b,off,none⟩∧CdAt w b (off+i*5) (r i)
theorem CdAt.ext {w w':World} {b o:Nat} {x:Cd} (h:CdAt w b o x) (e:Ext w w'):CdAt w' b o x:=by
 obtain⟨a,c,⟨h1,h2,h3,h4,h5⟩,h6,h7⟩:=h;exact⟨a,c,⟨cell_ext e h1,cell_ext e h2,cell_ext e h3,cell_ext e h4,cell_ext e h5⟩,h6.ext e,h7⟩
theorem CP.ext {w w':World} {a:Option Addr} {n:Nat} {r:Nat→Cd} (h:CP w a n r) (e:Ext w w'):CP w' a n r:=fun i hi=>by
 obtain⟨b,off,ha,hs⟩:=h i hi;exact⟨b,off,ha,hs.ext e⟩
theorem CP.congr {w:World} {a:Option Addr} {n:Nat} {r s:Nat→Cd} (h:CP w a n r) (e:∀ i,i<n→r i=s i):CP w a n s:=fun i hi=>by
 obtain⟨b,off,ha,hs⟩:=h i hi;exact⟨b,off,ha,by rw[←e i hi];exact hs⟩
/-- n cells of byte strings of the call's own, of which the first k are laid, one behind the other in bs; the list's cells are cs. -/
def SSb (w:World) (lo hi:Nat) (v:Value) (n k:Nat) (f:Nat→List Int) (cs:List Value) (bs:Nat→Nat):Prop :=
 w.ownsRow lo 22 1 v n cs∧lo≤bs 0∧bs k≤hi∧(∀ i,i<k→bs i≤bs (i+1))∧∀ i,i<k→∃(a':Option Addr) (c':Nat),cs[i]?=some (.slice a' (f i).length c')∧w.ownsRow (bs i) 5 1 (.slice a' (f i).length c') (f i).length ((f i).map (Value.int .u8))∧∀ y,a'=some y→y.block<bs (i+1)
def SSk (w:World) (lo hi:Nat) (v:Value) (n k:Nat) (f:Nat→List Int) (cs:List Value):Prop:=∃ bs,SSb w lo hi v n k f cs bs
def SSg (w:World) (lo hi:Nat) (v:Value) (n:Nat) (f:Nat→List Int) (cs:List Value):Prop:=SSk w lo hi v n n f cs
theorem SSb.ext {w w':World} {lo hi n k:Nat} {v:Value} {f:Nat→List Int} {cs:List Value} {bs:Nat→Nat} (h:SSb w lo hi v n k f cs bs) (e:Ext w w'):SSb w' lo hi v n k f cs bs:=by
 obtain⟨h1,h2,h3,h4,h5⟩:=h;refine⟨owns_ext h1 e,h2,h3,h4,fun i hi => ?_⟩;obtain⟨a',c',k1,k2,k3⟩:=h5 i hi;exact⟨a',c',k1,owns_ext k2 e,k3⟩
theorem SSk.ext {w w':World} {lo hi n k:Nat} {v:Value} {f:Nat→List Int} {cs:List Value} (h:SSk w lo hi v n k f cs) (e:Ext w w'):SSk w' lo hi v n k f cs:=by
 obtain⟨bs,h⟩:=h;exact⟨bs,h.ext e⟩
theorem SSg.ext {w w':World} {lo hi n:Nat} {v:Value} {f:Nat→List Int} {cs:List Value} (h:SSg w lo hi v n f cs) (e:Ext w w'):SSg w' lo hi v n f cs:=SSk.ext h e
/-- A row of another type has changed. -/
theorem SSk.kept {w w':World} {lo hi n k b0 T s0 n0:Nat} {v v0:Value} {f:Nat→List Int} {cs x0:List Value} (h:SSk w lo hi v n k f cs) (g:w.grownBy w' v0.ownBlock)
 (o0:w.ownsRow b0 T s0 v0 n0 x0) (t1:22≠T) (t2:5≠T):SSk w' lo hi v n k f cs:=by
 obtain⟨bs,h1,h2,h3,h4,h5⟩:=h;refine⟨bs,h1.kept g (own_ne2 h1 o0 t1),h2,h3,h4,fun i hi => ?_⟩;obtain⟨a',c',k1,k2,k3⟩:=h5 i hi;exact⟨a',c',k1,k2.kept g (own_ne2 k2 o0 t2),k3⟩
theorem SSg.kept {w w':World} {lo hi n b0 T s0 n0:Nat} {v v0:Value} {f:Nat→List Int} {cs x0:List Value} (h:SSg w lo hi v n f cs) (g:w.grownBy w' v0.ownBlock)
 (o0:w.ownsRow b0 T s0 v0 n0 x0) (t1:22≠T) (t2:5≠T):SSg w' lo hi v n f cs:=SSk.kept h g o0 t1 t2
theorem SSk.zero {w:World} {lo hi n:Nat} {v:Value} {cs:List Value} (f:Nat→List Int) (h:w.ownsRow lo 22 1 v n cs) (hh:lo≤hi):SSk w lo hi v n 0 f cs :=
 ⟨fun _=>lo,h,Nat.le_refl _,hh,fun i hi=>by omega,fun i hi=>by omega⟩
theorem SSk.own {w:World} {lo hi n k:Nat} {v:Value} {f:Nat→List Int} {cs:List Value} (h:SSk w lo hi v n k f cs):w.ownsRow lo 22 1 v n cs:=by
 obtain⟨bs,h1,-⟩:=h;exact h1
theorem SSk.nil (w:World) (lo hi:Nat) (f:Nat→List Int) (h:lo≤hi):SSk w lo hi (.slice none 0 0) 0 0 f []:=SSk.zero f (World.ownsRow_nil _ _ _ _) h
theorem SSk.up {w:World} {lo hi hi' n k:Nat} {v:Value} {f:Nat→List Int} {cs:List Value} (h:SSk w lo hi v n k f cs) (e:hi≤hi'):SSk w lo hi' v n k f cs:=by
 obtain⟨bs,h1,h2,h3,h4⟩:=h;exact⟨bs,h1,h2,Nat.le_trans h3 e,h4⟩
theorem SSk.gr {w w':World} {lo hi n k b:Nat} {v:Value} {f:Nat→List Int} {cs:List Value} (h:SSk w lo hi v n k f cs) (g:w.grownBy w' (some b)) (hb:b<lo):SSk w' lo hi v n k f cs:=by
 obtain⟨bs,h1,h2,h3,h4,h5⟩:=h;refine⟨bs,own_gr h1 g hb,h2,h3,h4,fun i hi2 => ?_⟩;obtain⟨a',c',k1,k2,k3⟩:=h5 i hi2;have:=seq_le h4 (show 0≤i by omega) (by omega);exact⟨a',c',k1,own_gr k2 g (by omega),k3⟩
theorem SSk.mono {w:World} {lo lo' hi n k:Nat} {v:Value} {f:Nat→List Int} {cs:List Value} (h:SSk w lo hi v n k f cs) (e:lo'≤lo):SSk w lo' hi v n k f cs:=by
 obtain⟨bs,h1,h2,h3,h4⟩:=h;exact⟨bs,owns_mono h1 e,Nat.le_trans e h2,h3,h4⟩
/-- A string is laid: what the own row holds is said by cs'. -/
theorem SSk.snoc {w w':World} {lo hi hi' n n' k:Nat} {v v':Value} {f:Nat→List Int} {cs cs':List Value} {a1:Option Addr} {c1:Nat} (h:SSk w lo hi v n k f cs)
 (h3:w.ownsRow hi 5 1 (.slice a1 (f k).length c1) (f k).length ((f k).map (Value.int .u8))) (hh:hi≤hi') (hlt:∀ y,a1=some y→y.block<hi')
 (own:w'.ownsRow lo 22 1 v' n' cs') (g:w.grownBy w' v.ownBlock) (hold:∀ o,o<k→cs'[o]?=cs[o]?) (hnew:cs'[k]?=some (.slice a1 (f k).length c1)):SSk w' lo hi' v' n' (k+1) f cs':=by
 obtain⟨bs,h1,h2,h4,h5,h6⟩:=h;have hk:∀ {b m xs a c},w.ownsRow b 5 1 (.slice a m c) m xs→w'.ownsRow b 5 1 (.slice a m c) m xs:=fun o=>o.kept g (own_ne2 o h1 (by decide))
 obtain⟨vs,v1,v2,v3,v4,v5,v6⟩:=seq_snoc h2 h4 h5 hh;refine⟨vs,own,v4,by rw[v3];exact Nat.le_refl _,v5,fun i hi2 => ?_⟩
 by_cases e:i=k
 ·subst e;exact⟨a1,c1,hnew,by rw[v2];exact hk h3,by rw[v3];exact hlt⟩
 ·obtain⟨a',c',k1,k2,k3⟩:=h6 i (by omega);exact⟨a',c',by rw[hold _ (by omega)];exact k1,by rw[v1 i (by omega)];exact hk k2,fun y hy=>Nat.lt_of_lt_of_le (k3 y hy) (v6 i (by omega))⟩
/-- A string is appended. -/
theorem SSk.app {w w':World} {lo hi hi' n:Nat} {v v':Value} {f:Nat→List Int} {cs:List Value} {a1:Option Addr} {c1:Nat} (h:SSk w lo hi v n n f cs)
 (h3:w.ownsRow hi 5 1 (.slice a1 (f n).length c1) (f n).length ((f n).map (Value.int .u8))) (hh:hi≤hi') (hlt:∀ y,a1=some y→y.block<hi')
 (own:w'.ownsRow lo 22 1 v' (n+1) (cs ++ [.slice a1 (f n).length c1])) (g:w.grownBy w' v.ownBlock):SSk w' lo hi' v' (n+1) (n+1) f (cs ++ [.slice a1 (f n).length c1]):=by
 have hcl:cs.length=n:=by have:=h.own.1;omega
 exact h.snoc h3 hh hlt own g (fun o ho=>by rw[List.getElem?_append_left (by omega)]) (by rw[←hcl];simp)
/-- What is in a coded picture's cells. -/
def RC (cs:List Value) (o:Nat) (x:Cd) (a:Option Addr) (c:Nat):Prop :=
 cs[o]?=some (.int .i64 x.w)∧cs[o+1]?=some (.int .i64 x.h)∧cs[o+2]?=some (.bool x.i)∧cs[o+3]?=some (.int .i64 x.q)∧cs[o+4]?=some (.slice a x.n c)
/-- n cells of coded pictures of the call's own, of which the first k are laid, one behind the other in us. -/
def CEu (w:World) (lo hi:Nat) (v:Value) (n k:Nat) (r:Nat→Cd) (cs:List Value) (us:Nat→Nat):Prop :=
 w.ownsRow lo 41 5 v n cs∧lo≤us 0∧us k≤hi∧(∀ i,i<k→us i≤us (i+1))∧∀ i,i<k→∃(a:Option Addr) (c:Nat) (ss:List Value),RC cs (i*5) (r i) a c∧SSg w (us i) (us (i+1)) (.slice a (r i).n c) (r i).n (r i).f ss
def CE (w:World) (lo hi:Nat) (v:Value) (n k:Nat) (r:Nat→Cd) (cs:List Value):Prop:=∃ us,CEu w lo hi v n k r cs us
theorem CEu.ext {w w':World} {lo hi n k:Nat} {v:Value} {r:Nat→Cd} {cs:List Value} {us:Nat→Nat} (h:CEu w lo hi v n k r cs us) (e:Ext w w'):CEu w' lo hi v n k r cs us:=by
 obtain⟨h1,h2,h3,h4,h5⟩:=h;refine⟨owns_ext h1 e,h2,h3,h4,fun i hi => ?_⟩;obtain⟨a,c,ss,k1,k2⟩:=h5 i hi;exact⟨a,c,ss,k1,k2.ext e⟩
theorem CE.ext {w w':World} {lo hi n k:Nat} {v:Value} {r:Nat→Cd} {cs:List Value} (h:CE w lo hi v n k r cs) (e:Ext w w'):CE w' lo hi v n k r cs:=by
 obtain⟨us,h⟩:=h;exact⟨us,h.ext e⟩
theorem CE.up {w:World} {lo hi hi' n k:Nat} {v:Value} {r:Nat→Cd} {cs:List Value} (h:CE w lo hi v n k r cs) (e:hi≤hi'):CE w lo hi' v n k r cs:=by
 obtain⟨us,h1,h2,h3,h4⟩:=h;exact⟨us,h1,h2,Nat.le_trans h3 e,h4⟩
theorem CE.congr {w:World} {lo hi n k:Nat} {v:Value} {r s:Nat→Cd} {cs:List Value} (h:CE w lo hi v n k r cs) (e:∀ i,i<k→r i=s i):CE w lo hi v n k s cs:=by
 obtain⟨us,h1,h2,h3,h4,h5⟩:=h;refine⟨us,h1,h2,h3,h4,fun i hi => ?_⟩;rw[←e i hi];exact h5 i hi
/-- Coded pictures of which none is laid. -/
theorem CE.zero {w:World} {lo hi n:Nat} {v:Value} {cs:List Value} (r:Nat→Cd) (h:w.ownsRow lo 41 5 v n cs) (hh:lo≤hi):CE w lo hi v n 0 r cs :=
 ⟨fun _=>lo,h,Nat.le_refl _,hh,fun i hi=>by omega,fun i hi=>by omega⟩
/-- One more is laid: what the own row holds is said by cs'. -/
theorem CE.snoc {w w':World} {lo hi hi' n n' k:Nat} {v v':Value} {r:Nat→Cd} {cs cs':List Value} {a1:Option Addr} {c1:Nat} {ss:List Value} (h:CE w lo hi v n k r cs)
 (h3:SSg w hi hi' (.slice a1 (r k).n c1) (r k).n (r k).f ss) (hh:hi≤hi')
 (own:w'.ownsRow lo 41 5 v' n' cs') (g:w.grownBy w' v.ownBlock) (hold:∀ o,o<k*5→cs'[o]?=cs[o]?) (hnew:RC cs' (k*5) (r k) a1 c1):CE w' lo hi' v' n' (k+1) r cs':=by
 obtain⟨us,h1,h2,h4,h5,h6⟩:=h;obtain⟨vs,v1,v2,v3,v4,v5,v6⟩:=seq_snoc h2 h4 h5 hh;refine⟨vs,own,v4,by rw[v3];exact Nat.le_refl _,v5,fun i hi2 => ?_⟩
 by_cases e:i=k
 ·subst e;exact⟨a1,c1,ss,hnew,by rw[v2,v3];exact h3.kept g h1 (by decide) (by decide)⟩
 ·obtain⟨a',c',s',⟨k1,k2,k3,k4,k5⟩,k6⟩:=h6 i (by omega);have hr:RC cs' (i*5) (r i) a' c':=⟨by rw[hold _ (by omega)];exact k1,by rw[hold _ (by omega)];exact k2,by rw[hold _ (by omega)];exact k3,by rw[hold _ (by omega)];exact k4,by rw[hold _ (by omega)];exact k5⟩;obtain⟨bs,q1,q2,q3,q4⟩:=k6.kept g h1 (by decide) (by decide);refine⟨a',c',s',hr,bs,?_,?_,Nat.le_trans q3 (v6 i (by omega)),q4⟩
  ·rw[v1 i (by omega)];exact q1
  ·rw[v1 i (by omega)];exact q2
def ln (f:Nat→List Int) (i:Nat):Nat:=(f i).length
/-- What changes when byte strings of lo..hi-1 are overwritten. -/
structure MkT (w w' : World) (lo hi : Nat) : Prop where
 tch:Tch w w' lo hi
 kept:∀ {b E s n:Nat} {v:Value} {xs:List Value},w.ownsRow b E s v n xs→(E≠5∨∀ q,v.ownBlock=some q→q<lo∨hi≤q)→w'.ownsRow b E s v n xs
theorem MkT.refl (w:World) (lo hi:Nat):MkT w w lo hi:=⟨Tch.refl _ _ _,fun h _=>h⟩
theorem MkT.step {w w1 w2:World} {lo hi b n:Nat} {v:Value} {xs:List Value} (h:MkT w w1 lo hi) (g:w1.grownBy w2 v.ownBlock) (o:w1.ownsRow b 5 1 v n xs) (hq:∀ q,v.ownBlock=some q→lo≤q∧q<hi):MkT w w2 lo hi:=by
 refine⟨h.tch.trans (Tch.of_grown g hq),fun o2 hE => ?_⟩;have o3:=h.kept o2 hE;refine o3.kept g ?_;rcases hE with hE|hE
 ·exact own_ne2 o3 o hE
 ·cases hv:(Value.ownBlock _:Option Nat)with
  | none=>exact .inl rfl
  | some p =>
   right
   intro e;have h1:=hq p e.symm;have h2:=hE p hv;omega
theorem MkT.mono {w w':World} {lo hi lo' hi':Nat} (h:MkT w w' lo hi) (h1:lo'≤lo) (h2:hi≤hi'):MkT w w' lo' hi' :=
 ⟨⟨h.tch.os,h.tch.tape,h.tch.output,h.tch.size,fun k hk ho=>h.tch.block k hk (by omega)⟩,fun o hE=>h.kept o (by
  rcases hE with hE|hE
  ·exact .inl hE
  ·exact .inr fun q hq=>by have:=hE q hq;omega)⟩
theorem MkT.trans {a b c:World} {lo hi:Nat} (h:MkT a b lo hi) (k:MkT b c lo hi):MkT a c lo hi:=⟨h.tch.trans k.tch,fun o hE=>k.kept (h.kept o hE) hE⟩
/-- The marks that the i-th string gets. -/
def mkF (k0:Int) (f:Nat→List Int) (i:Nat):List Int:=marksB (k0+(sumN (ln f) i:Nat)) (f i).length
/-- What a coded picture's marks come to, and its size. -/
def wtC (x:Cd):Nat:=4+sumN (ln x.f) x.n
def szC (x:Cd):Nat:=x.n+sumN (ln x.f) x.n
def mkR (k0:Int) (x:Cd):Cd:=⟨k0,k0+1,(k0+1+1)%3 == 0,k0+1+1+1,x.n,mkF (k0+1+1+1+1) x.f⟩
def smN (g:Cd→Nat) (r:Nat→Cd) (n:Nat):Nat:=sumN (fun i=>g (r i)) n
def mkC (k0:Int) (r:Nat→Cd) (i:Nat):Cd:=mkR (k0+(smN wtC r i:Nat)) (r i)
/-- A list of coded pictures that is small enough. -/
def okC (r:Nat→Cd) (n:Nat):Prop:=n≤1048576∧smN szC r n≤1048576
theorem okC.at {r:Nat→Cd} {n i:Nat} (h:okC r n) (hi:i<n):(r i).n≤1048576∧sumN (ln (r i).f) (r i).n≤1048576:=by
 have:=sumN_mem (g:=fun i=>szC (r i)) hi;have h2:=h.2;simp only[smN,szC]at this h2;omega
theorem size_Coded : (Try.prog.info? 41).map (·.size)=some 5:=by kernel_rfl
/-- The list of strings has grown, its first k stay. -/
theorem SSk.again {w w':World} {lo hi n k:Nat} {v:Value} {f:Nat→List Int} {cs:List Value} (h:SSk w lo hi v n k f cs) (g:w.grownBy w' v.ownBlock) (own:w'.ownsRow lo 22 1 v n cs):SSk w' lo hi v n k f cs:=by
 obtain⟨bs,h1,h2,h3,h4,h5⟩:=h;refine⟨bs,own,h2,h3,h4,fun i hi2 => ?_⟩;obtain⟨a',c',k1,k2,k3⟩:=h5 i hi2;exact⟨a',c',k1,k2.kept g (own_ne2 k2 h1 (by decide)),k3⟩
theorem ext_noneJ {w w':World} {row:Option Nat} (g:w.grownBy w' row) (h:row=none):Ext w w':=by
 subst h;exact Ext.grown (Below.refl _ _) g (by simp)
theorem own_ne_blk' {w:World} {base e size n q:Nat} {v:Value} {xs:List Value} {arr:Array Value} {T:TypeId} (h:w.ownsRow base e size v n xs) (hq:w.heap[q]?=some (.cells arr T (0,0))) (hne:e≠T):v.ownBlock≠some q:=by
 rcases own_ne_blk h hq hne with h|h
 ·rw[h];simp
 ·exact h
theorem own_hi {w w':World} {base e s n:Nat} {v:Value} {xs:List Value} {row:Option Nat} (h:w.ownsRow base e s v n xs) (g:w.grownBy w' row) (hb:∀ q,row=some q→q<base):w'.ownsRow base e s v n xs:=by
 refine h.kept g ?_;cases hv:v.ownBlock with
 | none=>exact .inl rfl
 | some k=>right;intro e;have h1:=owns_ge h k hv;have h2:=hb k e.symm;omega
/-- A coded picture is appended. -/
theorem CE.app {w w':World} {lo hi hi' n:Nat} {v v':Value} {r:Nat→Cd} {cs ss:List Value} {a1:Option Addr} {c1:Nat} (h:CE w lo hi v n n r cs)
 (h3:SSg w hi hi' (.slice a1 (r n).n c1) (r n).n (r n).f ss) (hh:hi≤hi')
 (own:w'.ownsRow lo 41 5 v' (n+1) (cs ++ [.int .i64 (r n).w,.int .i64 (r n).h,.bool (r n).i,.int .i64 (r n).q,.slice a1 (r n).n c1])) (g:w.grownBy w' v.ownBlock) :
 CE w' lo hi' v' (n+1) (n+1) r (cs ++ [.int .i64 (r n).w,.int .i64 (r n).h,.bool (r n).i,.int .i64 (r n).q,.slice a1 (r n).n c1]):=by
 have hcl:cs.length=n*5:=by obtain⟨us,h1,-⟩:=h;exact h1.1
 refine h.snoc h3 hh own g (fun o ho=>by rw[List.getElem?_append_left (by omega)]) ⟨?_,?_,?_,?_,?_⟩ <;> (rw[←hcl,List.getElem?_append_right (by omega)];simp)
theorem CE.own {w:World} {lo hi n k:Nat} {v:Value} {r:Nat→Cd} {cs:List Value} (h:CE w lo hi v n k r cs):w.ownsRow lo 41 5 v n cs:=by
 obtain⟨us,h1,-⟩:=h;exact h1
theorem sumN_shift (g:Nat→Nat) (F:Nat):∀ m,sumN (fun i=>g (F+i)) m+sumN g F=sumN g (F+m)
 | 0=>by simp[sumN]
 | m+1=>by have:=sumN_shift g F m;rw[←Nat.add_assoc];simp only[sumN];omega
theorem okC.shift {r:Nat→Cd} {n:Nat} (h:okC r n) {F m:Nat} (hm:F+m≤n):okC (fun i=>r (F+i)) m:=by
 have h1:=sumN_shift (fun i=>szC (r i)) F m;have h2:sumN (fun i=>szC (r i)) (F+m)≤sumN (fun i=>szC (r i)) n:=sumN_mono hm;have h3:=h.2;have h4:=h.1;unfold smN at h3;refine⟨by omega,?_⟩;unfold smN;simp only at h1 h2 h3⊢;omega
/-- The joined list. -/
def joinR (n1:Nat) (r1 r2:Nat→Cd) (i:Nat):Cd:=if i<n1 then r1 i else r2 (i-n1)
theorem CP.shift {w:World} {b off n:Nat} {r:Nat→Cd} (h:CP w (some ⟨b,off,none⟩) n r) {F m:Nat} (hm:F+m≤n):CP w (some ⟨b,off+F*5,none⟩) m (fun i=>r (F+i)):=fun i hi=>by
 obtain⟨b',o',ha,hc⟩:=h (F+i) (by omega);simp only[Option.some.injEq,Addr.mk.injEq,and_true]at ha;obtain⟨rfl,rfl⟩:=ha;exact⟨_,_,rfl,by rw[Nat.add_assoc,←Nat.add_mul];exact hc⟩
theorem CE.one {w:World} {lo hi n:Nat} {v:Value} {r:Nat→Cd} {cs:List Value} (h:CE w lo hi v n n r cs):∀ u∈cs,u.oneCell'=true:=by
 obtain⟨us,h1,-,-,-,h5⟩:=h;have hcl:cs.length=n*5:=h1.1;intro u hu;obtain⟨j,hj,rfl⟩:=List.getElem_of_mem hu;obtain⟨a,c,ss,⟨k0,k1,k2,k3,k4⟩,-⟩:=h5 (j/5) (by omega);have hd:j=j/5*5+j%5:=by omega
 have hm:j%5<5:=Nat.mod_lt _ (by decide);have he:cs[j]?=some cs[j]:=List.getElem?_eq_getElem hj;generalize cs[j]=u at *;generalize j/5=d at *;generalize j%5=m at *;subst hd
 match m,hm with
 | 0,_=>rw[Nat.add_zero]at he;rw[k0]at he;simp only[Option.some.injEq]at he;rw[←he];rfl
 | 1,_=>rw[k1]at he;simp only[Option.some.injEq]at he;rw[←he];rfl
 | 2,_=>rw[k2]at he;simp only[Option.some.injEq]at he;rw[←he];rfl
 | 3,_=>rw[k3]at he;simp only[Option.some.injEq]at he;rw[←he];rfl
 | 4,_=>rw[k4]at he;simp only[Option.some.injEq]at he;rw[←he];rfl
theorem CE.none (w:World) (r:Nat→Cd) (lo hi:Nat) (h:lo≤hi):CE w lo hi (.slice none 0 0) 0 0 r []:=CE.zero r (World.ownsRow_nil _ _ _ _) h
end Go.Proofs.Ytphfacfjhjcllaa
namespace Go.Proofs.Ytphfacfjhjcllaa

open Go.RowKit
end Go.Proofs.Ytphfacfjhjcllaa
namespace Go.Proofs.Ytphfacfjhjcllaa
open Go.RowKit
/-- One more behind the first k. -/
def fx (f:Nat→List Int) (k:Nat) (xs:List Int) (i:Nat):List Int:=if i<k then f i else xs
theorem fx_lt {f:Nat→List Int} {k i:Nat} {xs:List Int} (h:i<k):fx f k xs i=f i:=if_pos h
theorem fx_eq {f:Nat→List Int} {k:Nat} {xs:List Int} : fx f k xs k=xs:=if_neg (Nat.lt_irrefl k)
/-- The slice at a reads as the bytes xs, in a block of bytes. -/
def BA (w:World) (a:Option Addr) (c:Nat) (xs:List Int):Prop :=
 (xs.length≤c∧c≤maxLen)∧∀ j,j<xs.length→∃ b o arr,a=some ⟨b,o,none⟩∧w.heap[b]?=some (.cells arr 5 (0,0))∧arr[o+j]?=some (.int .u8 (nth xs j))
theorem BA.ext {w w':World} {a:Option Addr} {c:Nat} {xs:List Int} (h:BA w a c xs) (e:Ext w w'):BA w' a c xs:=⟨h.1,fun j hj=>by
 obtain⟨b,o,arr,h1,h2,h3⟩:=h.2 j hj;exact⟨b,o,arr,h1,e.blk h2,h3⟩⟩
theorem BA.gr {w w':World} {a:Option Addr} {c q T:Nat} {xs:List Int} {ar:Array Value} (h:BA w a c xs) (g:w.grownBy w' (some q)) (hq:w.heap[q]?=some (.cells ar T (0,0))) (hT:5≠T):BA w' a c xs:=⟨h.1,fun j hj=>by
 obtain⟨b,o,arr,h1,h2,h3⟩:=h.2 j hj;refine⟨b,o,arr,h1,blk_gr h2 g (fun e => ?_),h3⟩;obtain rfl:q=b:=by simpa using e
 rw[hq]at h2;simp at h2;exact hT h2.2.symm⟩
theorem BA.own {w w':World} {a:Option Addr} {B T s n c:Nat} {v:Value} {xs:List Int} {us:List Value} (h:BA w a c xs) (o:w.ownsRow B T s v n us) (hT:5≠T) (g:w.grownBy w' v.ownBlock):BA w' a c xs:=by
 rcases o.2 with⟨rfl,-⟩|⟨q,cap,cur,rfl,-,p1,-⟩
 ·exact h.ext (ext_noneJ g rfl)
 ·exact h.gr g p1 hT
theorem BA.of_own {w:World} {H n c:Nat} {a:Option Addr} {xs:List Int} (h:w.ownsRow H 5 1 (.slice a n c) n (xs.map (Value.int .u8))):BA w a c xs:=by
 have hl:xs.length=n:=by simpa using h.1
 rcases id h.2 with⟨hv,h0⟩|⟨g,cap,cur,hv,-,p1,p2,p3,p4,p5⟩
 ·simp only[Value.slice.injEq]at hv;obtain⟨-,-,rfl⟩:=hv;exact⟨⟨by omega,by simp[maxLen]⟩,fun j hj=>by omega⟩
 ·simp only[Value.slice.injEq]at hv;obtain⟨rfl,-,rfl⟩:=hv;refine⟨⟨by omega,p3⟩,fun j hj=>⟨g,0,cur,rfl,p1,?_⟩⟩;have h2:(xs.map (Value.int .u8))[j]?=some (.int .u8 (nth xs j)):=by simp[nth,hj]
  rw[←p5,List.getElem?_take_of_lt (by omega),Array.getElem?_toList]at h2;rw[Nat.zero_add];exact h2
theorem BA.sl {w:World} {a:Option Addr} {c:Nat} {xs:List Int} (h:BA w a c xs):Sl w a xs.length (xs.map (Value.int .u8)):=by
 refine⟨by simp,fun j hj => ?_⟩;obtain⟨b,o,arr,rfl,h2,h3⟩:=h.2 j hj;refine⟨b,o,rfl,?_⟩;simp only[World.cell?,h2,h3];simp[nth,hj]
/-- A list of k slices of the call's own, which reads as f. -/
def CRw (w:World) (lo:Nat) (v:Value) (k:Nat) (f:Nat→List Int) (cs:List Value):Prop :=
 w.ownsRow lo 22 1 v k cs∧∀ i,i<k→∃ a c,cs[i]?=some (.slice a (f i).length c)∧BA w a c (f i)
theorem CRw.ext {w w':World} {lo k:Nat} {v:Value} {f:Nat→List Int} {cs:List Value} (h:CRw w lo v k f cs) (e:Ext w w'):CRw w' lo v k f cs:=⟨owns_ext h.1 e,fun i hi=>by
 obtain⟨a,c,h1,h2⟩:=h.2 i hi;exact⟨a,c,h1,h2.ext e⟩⟩
theorem CRw.gr {w w':World} {lo k q T:Nat} {v:Value} {f:Nat→List Int} {cs:List Value} {ar:Array Value} (h:CRw w lo v k f cs) (g:w.grownBy w' (some q)) (hq:w.heap[q]?=some (.cells ar T (0,0))) (h1:5≠T) (h2:22≠T):CRw w' lo v k f cs:=⟨h.1.kept g (own_ne_blk h.1 hq h2),fun i hi=>by
 obtain⟨a,c,k1,k2⟩:=h.2 i hi;exact⟨a,c,k1,k2.gr g hq h1⟩⟩
/-- One slice more is appended. -/
theorem CRw.app {w w':World} {lo k:Nat} {v v':Value} {f:Nat→List Int} {cs:List Value} {a1:Option Addr} {c1:Nat} {xs:List Int} (h:CRw w lo v k f cs) (o:w'.ownsRow lo 22 1 v' (k+1) (cs ++ [.slice a1 xs.length c1])) (g:w.grownBy w' v.ownBlock) (hx:BA w a1 c1 xs):CRw w' lo v' (k+1) (fx f k xs) (cs ++ [.slice a1 xs.length c1]):=by
 have hl:cs.length=k:=by have:=h.1.1;omega
 refine⟨o,fun i hi => ?_⟩
 by_cases e:i=k
 ·subst e;refine⟨a1,c1,?_,?_⟩
  ·rw[fx_eq,List.getElem?_append_right (by omega),hl];simp
  ·rw[fx_eq];exact hx.own h.1 (by decide) g
 ·obtain⟨a,c,k1,k2⟩:=h.2 i (by omega);refine⟨a,c,?_,?_⟩
  ·rw[fx_lt (by omega),List.getElem?_append_left (by omega)];exact k1
  ·rw[fx_lt (by omega)];exact k2.own h.1 (by decide) g
/-- Slices of at most 60004 bytes. -/
def okF (f:Nat→List Int) (k:Nat):Prop:=∀ i,i<k→(f i).length≤60004∧bytL (f i)
theorem okF.fx {f:Nat→List Int} {k:Nat} {xs:List Int} (h:okF f k) (hl:xs.length≤60004) (hb:bytL xs):okF (fx f k xs) (k+1):=fun i hi=>by
 by_cases e:i=k
 ·rw[e,fx_eq];exact⟨hl,hb⟩
 ·rw[fx_lt (by omega)];exact h i (by omega)
/-- The slice at a of n slices reads as f. -/
def SQ (w:World) (a:Option Addr) (n:Nat) (f:Nat→List Int):Prop :=
 ∀ i,i<n→∃ b o arr,a=some ⟨b,o,none⟩∧w.heap[b]?=some (.cells arr 22 (0,0))∧∃ a2 c2,arr[o+i]?=some (.slice a2 (f i).length c2)∧BA w a2 c2 (f i)
theorem SQ.ext {w w':World} {a:Option Addr} {n:Nat} {f:Nat→List Int} (h:SQ w a n f) (e:Ext w w'):SQ w' a n f:=fun i hi=>by
 obtain⟨b,o,arr,h1,h2,a2,c2,h3,h4⟩:=h i hi;exact⟨b,o,arr,h1,e.blk h2,a2,c2,h3,h4.ext e⟩
theorem SQ.gr {w w':World} {a:Option Addr} {n q T:Nat} {f:Nat→List Int} {ar:Array Value} (h:SQ w a n f) (g:w.grownBy w' (some q)) (hq:w.heap[q]?=some (.cells ar T (0,0))) (t1:5≠T) (t2:22≠T):SQ w' a n f:=fun i hi=>by
 obtain⟨b,o,arr,h1,h2,a2,c2,h3,h4⟩:=h i hi;refine⟨b,o,arr,h1,blk_gr h2 g (fun e => ?_),a2,c2,h3,h4.gr g hq t1⟩;obtain rfl:q=b:=by simpa using e
 rw[hq]at h2;simp at h2;exact t2 h2.2.symm
theorem SQ.own {w w':World} {a:Option Addr} {n B T s m:Nat} {v:Value} {f:Nat→List Int} {us:List Value} (h:SQ w a n f) (o:w.ownsRow B T s v m us) (t1:5≠T) (t2:22≠T) (g:w.grownBy w' v.ownBlock):SQ w' a n f:=by
 rcases o.2 with⟨rfl,-⟩|⟨q,cap,cur,rfl,-,p1,-⟩
 ·exact h.ext (ext_noneJ g rfl)
 ·exact h.gr g p1 t1 t2
theorem SQ.ss {w:World} {a:Option Addr} {n:Nat} {f:Nat→List Int} (h:SQ w a n f):SS w a n (lst n f):=SS.of fun i hi=>by
 obtain⟨b,o,arr,h1,h2,a2,c2,h3,h4⟩:=h i hi;exact⟨b,o,h1,a2,c2,by simp[World.cell?,h2,h3],h4.sl,h4.1.1,h4.1.2⟩
theorem CRw.sq {w:World} {lo n c:Nat} {a:Option Addr} {f:Nat→List Int} {cs:List Value} (h:CRw w lo (.slice a n c) n f cs):SQ w a n f∧n≤c∧c≤maxLen:=by
 refine⟨fun i hi => ?_,owns_cap h.1⟩;obtain⟨a2,c2,k1,k2⟩:=h.2 i hi;rcases id h.1.2 with⟨hv,h0⟩|⟨g,cap,cur,hv,-,p1,p2,p3,p4,p5⟩
 ·omega
 ·simp only[Value.slice.injEq]at hv;obtain⟨rfl,-,rfl⟩:=hv;refine⟨g,0,cur,rfl,p1,a2,c2,?_,k2⟩;rw[←p5,List.getElem?_take_of_lt (by omega),Array.getElem?_toList]at k1;rw[Nat.zero_add];exact k1
theorem SQ.tail {w:World} {b o n:Nat} {f:Nat→List Int} (h:SQ w (some ⟨b,o,none⟩) (n+1) f):SQ w (some ⟨b,o+1,none⟩) n (fun i=>f (i+1)):=fun i hi=>by
 obtain⟨b1,o1,arr,h1,h2,a2,c2,h3,h4⟩:=h (i+1) (by omega);simp only[Option.some.injEq,Addr.mk.injEq,and_true]at h1;obtain⟨rfl,rfl⟩:=h1;exact⟨b,o+1,arr,rfl,h2,a2,c2,by rw[show o+1+i=o+(i+1) by omega];exact h3,h4⟩
theorem l20Small_c (b P:Nat) (w:World) (h:RdP w b P) (hp:P<2^38) :
 Calls Try.prog 29 #[.pointer (some ⟨b,0,none⟩)] w fun e w'=>∃ x:Nat,e= .returned (.int .i64 (8*x:Nat))∧1≤x∧x≤3∧RdP w' b (P+1)∧w.grownBy w' (some b):=by
 have hbw:b<w.heap.size:=h.lt;have e1:=Ext.alloc w (.cells #[.int .i64 1,.int .i64 1,.int .i64 2,.int .i64 2,.int .i64 3] 3);have S1:=blk_new w (.cells #[.int .i64 1,.int .i64 1,.int .i64 2,.int .i64 2,.int .i64 3] 3);go_enter Try.func29,Try.ntmps29
 go_wp2_with fail
 refine(pick_c b _ 5 _ (h.ext e1) (by omega) (by omega) (by omega)).mono ?_
 rintro e w2 ⟨x,rfl,xa,xb,r2,g2⟩
 have S2:=gr_blk g2 S1 (by omega);have G2:=grown_trans (ext_gr e1) g2;clear S1 e1 h g2;have hc:∀(i:Nat) (v:Value),(#[Value.int .i64 1,.int .i64 1,.int .i64 2,.int .i64 2,.int .i64 3])[i]?=some v→w2.cell? ⟨w.heap.size,i,none⟩=some v:=fun i v hv=>by simp only[World.cell?,S2];exact hv
 have k0:=hc 0 _ rfl;have k1:=hc 1 _ rfl;have k2:=hc 2 _ rfl;have k3:=hc 3 _ rfl;have k4:=hc 4 _ rfl;clear hc S2;obtain rfl|rfl|rfl|rfl|rfl:x=0∨x=1∨x=2∨x=3∨x=4:=by omega
 ·go_wp2;go_ret
  exact⟨1,rfl,by omega,by omega,r2,G2⟩
 ·go_wp2;go_ret
  exact⟨1,rfl,by omega,by omega,r2,G2⟩
 ·go_wp2;go_ret
  exact⟨2,rfl,by omega,by omega,r2,G2⟩
 ·go_wp2;go_ret
  exact⟨2,rfl,by omega,by omega,r2,G2⟩
 ·go_wp2;go_ret
  exact⟨3,rfl,by omega,by omega,r2,G2⟩
end Go.Proofs.Ytphfacfjhjcllaa
