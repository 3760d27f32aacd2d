/- The decisions for a number. | The decisions for a number: the reference. | The runs in a block of levels: a range over a function; how many levels are not zero. | The scan order and the runs: the reference. | The runs of a block and their decisions: the reference. | The decisions for a block: the reference. | The decisions for a macroblock: the reference. | The decisions for a macroblock: the reference, intra. -/
import Derived.Test.YtbnhaegidfbgbaaGreatDoorQr10
set_option linter.unusedVariables false
set_option linter.unusedSimpArgs false
set_option maxRecDepth 100000
set_option maxHeartbeats 4000000
namespace Go.Proofs.YtbnhaegidfbgbaaGreatDoor
open Go.RowKit
theorem info_Bin : (Tryz.prog.info? 133).map (fun i=>(i.zero,i.size,i.bytes))=some (some (.agg #[.int .i64 0,.int .i64 0]),2,16):=by kernel_rfl
theorem bin_new (w:World) (c b:Int):Sl (w.alloc (.cells #[.int .i64 c,.int .i64 b] 133)) (some ⟨w.heap.size,0,none⟩) 2 [.int .i64 c,.int .i64 b]:=Sl_new w [.int .i64 c,.int .i64 b] 133
theorem i64_and_one (a:Nat) (ha:a<9223372036854775808):bits .and .i64 (a:Int) 1=((a%2:Nat):Int):=by
 show IntKind.i64.wrap ((BitVec.ofInt 64 (a:Int) &&& BitVec.ofInt 64 ((1:Nat):Int)).toNat:Int)=_;rw[BitVec.toNat_and,i64_nat_ofInt a ha,i64_nat_ofInt 1 (by decide),Nat.and_one_is_mod,IntKind.wrap_i64];omega
theorem ownc {w:World} {b e s n:Nat} {v:Value} {xs ys:List Value} (h:w.ownsRow b e s v n xs) (he:xs=ys):w.ownsRow b e s v n ys:=he▸h
theorem appendNumber_any (v:Value) (N:Nat) (xs:List Int) (n b B:Nat) (w:World) (own:w.ownsRow B 133 2 v N (xs.map (Value.int .i64))) (hB:B≤w.heap.size) (hN:N≤1000000) (hn:n<32768) (hb:b≤100) :
 Calls Tryz.prog 106 #[v,.int .i64 n,.int .i64 b] w fun e w'=>∃ a c,e= .returned (.slice a (N+numN n) c)∧w'.ownsRow B 133 2 (.slice a (N+numN n) c) (N+numN n) ((xs++numL n b).map (Value.int .i64))∧FR B 133 w w':=by
 obtain⟨k,hk⟩:∃ k,k=kOf n:=⟨_,rfl⟩;have hk15:=kOf_le hn;have hbl:=bitLen_of (kOf_lo n) (kOf_hi n) (by omega);rw[←hk]at hk15 hbl;have HK:=Lib.hid (show numL n b=upL b k (k+1)++dnL (n+1) b k k by rw[hk];rfl);have HKN:=Lib.hid (show numN n=2*k+1 by rw[hk];rfl);have hw:IntKind.u64.wrap ((n:Int)+1)=((n+1:Nat):Int):=by rw[IntKind.wrap_u64];omega
 have F0:=FR.refl B 133 w;clear hk;go_enter Tryz.func106,Tryz.ntmps106
 go_wp2_with fail
 refine(len_in ((n:Int)+1) _ (by omega) (by omega)).mono ?_
 rintro e w1 ⟨rfl,rfl⟩
 rw[show((n:Int)+1).toNat=n+1 by omega,hbl];clear hbl hw;have hkk:((k+1:Nat):Int)-1=k:=by omega
 go_wp2_with fail
 go_loopw [0,18] (fun v y wr=>∃ i:Nat,i≤k+1∧y= .int .i64 i∧wr.ownsRow B 133 2 v (N+i) ((xs++upL b k i).map (Value.int .i64))∧FR B 133 w wr) (fun _ y _=>k+1-(intOf y).toNat)
 case atStart=>exact⟨0,by omega,rfl,by simpa [upL] using own,F0⟩
 case round =>
  obtain⟨i,hi,rfl,o1,F1⟩:=hrel;clear own F0;obtain⟨a1,c1,rfl⟩:=owns_form o1;have hB1:=Nat.le_trans hB F1.size
  by_cases hlt:i<k+1
  ·have hd:decide ((i:Int)<(k:Int)+1)=true:=by simp;omega
   by_cases hik:i=k
   ·subst hik;have HNX:=Lib.hid (show upL b i (i+1)=upL b i i ++ [(b:Int)+min (i:Int) 5,0] by rw[upL,if_pos rfl];congr 2;omega);have hd2:((i:Int) == (i:Int))=true:=by simp
    go_wp2_with (at_builtin;go_loud (refine wpList_appk _ rfl (o1.alloc _) (by simp;omega) _ _ 40 rfl (.agg #[.int .i64 0,.int .i64 0]) 16 Tryz.underlying40 info_Bin rfl (by decide) rfl ⟨wr.heap.size,0,none⟩ 1 1 [.int .i64 _,.int .i64 _] rfl rfl ((bin_new wr _ _).cellsOf _ (by simp)) (by intro u hu;simp at hu;rcases hu with rfl|rfl <;> rfl) (by omega) (by omega) ?_;intro v2 w2 own2 gr2 _;refine Hid.out ?_))
    all_goals
     refine Lib.hid ?_;obtain⟨a2,c2,rfl⟩:=owns_form own2;have F2:=(F1.trans (FR.of_ext (Ext.alloc wr (.cells #[_,_] 133)) hB1)).trans (FR.of_row (o1.alloc _) gr2 (by simp;omega));go_wp2;go_roundw
     case rel=>exact⟨i+1,by omega,by go_num,ownc own2 (by rw[HNX.out];simp),F2⟩
     case measure=>simp[intOf] <;> omega
   ·have HNX:=Lib.hid (show upL b k (i+1)=upL b k i ++ [(b:Int)+min (i:Int) 5,1] by rw[upL,if_neg hik];congr 2;omega);have hd2:((i:Int) == (k:Int))=false:=by simp;omega
    go_wp2_with (at_builtin;go_loud (refine wpList_appk _ rfl (o1.alloc _) (by simp;omega) _ _ 40 rfl (.agg #[.int .i64 0,.int .i64 0]) 16 Tryz.underlying40 info_Bin rfl (by decide) rfl ⟨wr.heap.size,0,none⟩ 1 1 [.int .i64 _,.int .i64 _] rfl rfl ((bin_new wr _ _).cellsOf _ (by simp)) (by intro u hu;simp at hu;rcases hu with rfl|rfl <;> rfl) (by omega) (by omega) ?_;intro v2 w2 own2 gr2 _;refine Hid.out ?_))
    all_goals
     refine Lib.hid ?_;obtain⟨a2,c2,rfl⟩:=owns_form own2;have F2:=(F1.trans (FR.of_ext (Ext.alloc wr (.cells #[_,_] 133)) hB1)).trans (FR.of_row (o1.alloc _) gr2 (by simp;omega));go_wp2;go_roundw
     case rel=>exact⟨i+1,by omega,by go_num,ownc own2 (by rw[HNX.out];simp),F2⟩
     case measure=>simp[intOf] <;> omega
  ·have HI:=Lib.hid (show i=k+1 by omega);have hd:decide ((i:Int)<(k:Int)+1)=false:=by simp;omega
   go_wp2_with fail
   go_loopw [0,10] (fun v y wr=>∃ J:Nat,J≤k∧y= .int .i64 ((J:Int)-1)∧wr.ownsRow B 133 2 v (N+(k+1)+(k-J)) ((xs++upL b k (k+1)++dnL (n+1) b k (k-J)).map (Value.int .i64))∧FR B 133 w wr) (fun _ y _=>((intOf y)+1).toNat)
   case atStart=>exact⟨k,by omega,rfl,by have hI:=HI.out;subst hI;simpa [dnL] using o1,F1⟩
   case round =>
    obtain⟨J,hJ,rfl,o3,F3⟩:=hrel;clear o1 F1 hi hlt hd;obtain⟨a3,c3,rfl⟩:=owns_form o3;have hB3:=Nat.le_trans hB F3.size;cases J with
    | zero =>
     have hd3:decide ((0:Int)≤((0:Nat):Int)-1)=false:=by simp
     have hc:N+(k+1)+(k-0)=N+numN n:=by rw[HKN.out];omega
     have ho:=Lib.hid (show(xs++upL b k (k+1)++dnL (n+1) b k (k-0))=xs++numL n b by rw[HK.out,←List.append_assoc];rfl);rw[hc]at o3⊢;rw[ho.out]at o3;clear hc;go_wp2;go_ret
     exact⟨_,_,rfl,o3,F3⟩
    | succ J' =>
     rw[show(((J'+1:Nat):Int)-1)=(J':Int) by omega];have hd3:decide ((0:Int)≤(J':Int))=true:=by simp
     have hq:((n:Int)+1)/2^J'=(((n+1)/2^J':Nat):Int):=by simp
     have hand:=i64_and_one ((n+1)/2^J') (by have:=Nat.div_le_self (n+1) (2^J');omega);rw[←hq]at hand;clear hq;have hkJ:k-(J'+1)+1=k-J':=by omega
     have HNX:=Lib.hid (show dnL (n+1) b k (k-J')=dnL (n+1) b k (k-(J'+1)) ++ [(b:Int)+6,(((n+1)/2^J'%2:Nat):Int)] by rw[←hkJ,dnL,show k-1-(k-(J'+1))=J' by omega];congr 2);have HC:=Lib.hid (show N+(k+1)+(k-(J'+1))+1=N+(k+1)+(k-J') by omega);clear hkJ;go_wp2_with (at_builtin;go_loud (refine wpList_appk _ rfl (o3.alloc _) (by simp;omega) _ _ 40 rfl (.agg #[.int .i64 0,.int .i64 0]) 16 Tryz.underlying40 info_Bin rfl (by decide) rfl ⟨wr.heap.size,0,none⟩ 1 1 [.int .i64 _,.int .i64 _] rfl rfl ((bin_new wr _ _).cellsOf _ (by simp)) (by intro u hu;simp at hu;rcases hu with rfl|rfl <;> rfl) (by omega) (by omega) ?_;intro v2 w2 own2 gr2 _;refine Hid.out ?_))
     refine Lib.hid ?_;obtain⟨a2,c2,rfl⟩:=owns_form own2;have F2:=(F3.trans (FR.of_ext (Ext.alloc wr (.cells #[_,_] 133)) hB3)).trans (FR.of_row (o3.alloc _) gr2 (by simp;omega));rw[HC.out]at own2⊢;have own3:=ownc own2 (show _=(xs++upL b k (k+1)++dnL (n+1) b k (k-J')).map (Value.int .i64) by rw[HNX.out];simp);clear own2 hand;go_wp2;go_roundw
     case rel=>exact⟨J',by omega,by go_num,own3,F2⟩
     case measure=>simp[intOf] <;> omega
theorem upL_one {b k:Nat} {i:Nat} (h:i<k):upL b k (i+1)=upL b k i ++ [(b:Int)+min (i:Int) 5,1]:=by
 rw[upL,if_neg (by omega)];congr 2;omega
theorem upL_zero (b k:Nat):upL b k (k+1)=upL b k k ++ [(b:Int)+min (k:Int) 5,0]:=by
 rw[upL,if_pos rfl];congr 2;omega
theorem pow_le15 {i:Nat} (h:i≤15):2^(i+1)≤65536:=Nat.pow_le_pow_right (by decide) (show i+1≤16 by omega)
theorem l10Number_any (n b:Nat) (w:World) (hn:n<32768) (hb:b≤100) :
 Calls Tryz.prog 144 #[.int .i64 n,.int .i64 b] w fun e w'=>∃ a c,e= .returned (.slice a (numN n) c)∧w'.ownsRow w.heap.size 133 2 (.slice a (numN n) c) (numN n) ((numL n b).map (Value.int .i64))∧Ext w w':=by
 obtain⟨k,hk⟩:∃ k,k=kOf n:=⟨_,rfl⟩;have hk15:=kOf_le hn;have hlo:=kOf_lo n;have hhi:=kOf_hi n;rw[←hk]at hk15 hlo hhi;have HK:=Lib.hid (show numL n b=upL b k (k+1)++dnL (n+1) b k k by rw[hk];rfl);have HKN:=Lib.hid (show numN n=2*k+1 by rw[hk];rfl);have HLO:=Lib.hid hlo;have HHI:=Lib.hid hhi;obtain⟨W,hW⟩:∃ W,W=w.heap.size:=⟨_,rfl⟩;have F0:FR w.heap.size 133 w (w.alloc (.cells #[] 133)):=FR.of_ext (Ext.alloc w _) (Nat.le_refl _);have o0:=World.ownsRow_made (base:=w.heap.size) (e:=133) (size:=2) w #[] 0 (Nat.le_refl _) (by simp) rfl;rw[←hW]at F0 o0⊢;have hWw:W≤w.heap.size:=by omega
 have HW:=Lib.hid hW;clear hk hlo hhi;go_enter Tryz.func144,Tryz.ntmps144
 go_wp2_with fail
 rw[←hW];clear hW;go_loopw [5,6] (fun v y wr=>∃ i:Nat,i≤k∧y= .int .i64 i∧wr.ownsRow W 133 2 v i ((upL b k i).map (Value.int .i64))∧FR W 133 w wr) (fun _ y _=>k-(intOf y).toNat)
 case atStart=>exact⟨0,by omega,rfl,by simpa [upL] using o0,F0⟩
 case round =>
  obtain⟨i,hi,rfl,o1,F1⟩:=hrel;clear o0 F0;obtain⟨a1,c1,rfl⟩:=owns_form o1;have hB1:=Nat.le_trans hWw F1.size;have hp:=pow_le15 (show i≤15 by omega);have hpi:(2:Int)^(i+1)=((2^(i+1):Nat):Int):=by simp
  have hp0:=Nat.pow_pos (show 0<2 by decide) (n:=i+1);have hsh:wrap64 (2*2^i)=(2:Int)^(i+1):=by
   have e:(2:Int)*2^i=2^(i+1):=by rw[Int.pow_succ,Int.mul_comm]
   rw[e,hpi];unfold wrap64;omega
  have HPI:=Lib.hid hpi;clear hpi
  by_cases hlt:i<k
  ·have hd:decide ((2:Int)^(i+1)≤(n:Int)+1)=true:=by
    have:=Nat.pow_le_pow_right (show 0<2 by decide) (show i+1≤k by omega);have:=HLO.out;rw[HPI.out];simp only[decide_eq_true_eq];omega
   have HNX:=Lib.hid (upL_one (b:=b) hlt);go_wp2_with (at_builtin;go_loud (refine wpList_appk _ rfl (o1.alloc _) (by simp;omega) _ _ 40 rfl (.agg #[.int .i64 0,.int .i64 0]) 16 Tryz.underlying40 info_Bin rfl (by decide) rfl ⟨wr.heap.size,0,none⟩ 1 1 [.int .i64 _,.int .i64 _] rfl rfl ((bin_new wr _ _).cellsOf _ (by simp)) (by intro u hu;simp at hu;rcases hu with rfl|rfl <;> rfl) (by omega) (by omega) ?_;intro v2 w2 own2 gr2 _;refine Hid.out ?_))
   refine Lib.hid ?_;obtain⟨a2,c2,rfl⟩:=owns_form own2;have F2:=(F1.trans (FR.of_ext (Ext.alloc wr (.cells #[_,_] 133)) hB1)).trans (FR.of_row (o1.alloc _) gr2 (by simp;omega));have own3:=ownc own2 (show _=(upL b k (i+1)).map (Value.int .i64) by rw[HNX.out];simp);clear own2 hsh;go_wp2;go_roundw
   case rel=>exact⟨i+1,by omega,by go_num,own3,F2⟩
   case measure=>simp[intOf] <;> omega
  ·have HI:=Lib.hid (show i=k by omega);have hd:decide ((2:Int)^(i+1)≤(n:Int)+1)=false:=by
    have:=HHI.out;rw[HPI.out,HI.out];simp only[decide_eq_false_iff_not];omega
   go_wp2_with (at_builtin;go_loud (refine wpList_appk _ rfl (o1.alloc _) (by simp;omega) _ _ 40 rfl (.agg #[.int .i64 0,.int .i64 0]) 16 Tryz.underlying40 info_Bin rfl (by decide) rfl ⟨wr.heap.size,0,none⟩ 1 1 [.int .i64 _,.int .i64 _] rfl rfl ((bin_new wr _ _).cellsOf _ (by simp)) (by intro u hu;simp at hu;rcases hu with rfl|rfl <;> rfl) (by omega) (by omega) ?_;intro v2 w2 own2 gr2 _;refine Hid.out ?_))
   refine Lib.hid ?_;obtain⟨a2,c2,rfl⟩:=owns_form own2;have F2:=(F1.trans (FR.of_ext (Ext.alloc wr (.cells #[_,_] 133)) hB1)).trans (FR.of_row (o1.alloc _) gr2 (by simp;omega));have own3:=ownc own2 (show _=(upL b k (k+1)).map (Value.int .i64) by rw[upL_zero,HI.out];simp);clear own2 hsh hd o1 F1 hlt hi;go_wp2_with fail
   go_loopw [5,7] (fun v y wr=>∃ J:Nat,J≤k∧y= .int .i64 ((J:Int)-1)∧wr.ownsRow W 133 2 v (k+1+(k-J)) ((upL b k (k+1)++dnL (n+1) b k (k-J)).map (Value.int .i64))∧FR W 133 w wr) (fun _ y _=>((intOf y)+1).toNat)
   case atStart=>exact⟨k,by omega,by rw[HI.out];congr 1;unfold wrap64;omega,by have hI:=HI.out;subst hI;simpa [dnL] using own3,F2⟩
   case round =>
    obtain⟨J,hJ,rfl,o3,F3⟩:=hrel;clear own3 F2;obtain⟨a3,c3,rfl⟩:=owns_form o3;have hB3:=Nat.le_trans hWw F3.size;cases J with
    | zero =>
     have hd3:decide ((0:Int)≤((0:Nat):Int)-1)=false:=by simp
     have hc:k+1+(k-0)=numN n:=by rw[HKN.out];omega
     have ho:=Lib.hid (show(upL b k (k+1)++dnL (n+1) b k (k-0))=numL n b by rw[HK.out];rfl);rw[hc]at o3⊢;rw[ho.out]at o3;clear hc;go_wp2;go_ret
     exact⟨_,_,rfl,o3,by show Below w.heap.size w wr;rw[←HW.out];exact F3.lo⟩
    | succ J' =>
     rw[show(((J'+1:Nat):Int)-1)=(J':Int) by omega];have hd3:decide ((0:Int)≤(J':Int))=true:=by simp
     have hq:((n:Int)+1)/2^J'=(((n+1)/2^J':Nat):Int):=by simp
     have hkJ:k-(J'+1)+1=k-J':=by omega
     have HNX:=Lib.hid (show dnL (n+1) b k (k-J')=dnL (n+1) b k (k-(J'+1)) ++ [(b:Int)+6,((n:Int)+1)/2^J'%2] by rw[←hkJ,dnL,show k-1-(k-(J'+1))=J' by omega];congr 2);have HC:=Lib.hid (show k+1+(k-(J'+1))+1=k+1+(k-J') by omega);have HTM:=Lib.hid (show(((n:Int)+1)/2^J').tmod 2=((n:Int)+1)/2^J'%2 from Int.tmod_eq_emod_of_nonneg (hq▸Int.natCast_nonneg _));clear hkJ hq;go_wp2_with (at_builtin;go_loud (refine wpList_appk _ rfl (o3.alloc _) (by simp;omega) _ _ 40 rfl (.agg #[.int .i64 0,.int .i64 0]) 16 Tryz.underlying40 info_Bin rfl (by decide) rfl ⟨wr.heap.size,0,none⟩ 1 1 [.int .i64 _,.int .i64 _] rfl rfl ((bin_new wr _ _).cellsOf _ (by simp)) (by intro u hu;simp at hu;rcases hu with rfl|rfl <;> rfl) (by omega) (by omega) ?_;intro v2 w2 own2 gr2 _;refine Hid.out ?_))
     refine Lib.hid ?_;obtain⟨a2,c2,rfl⟩:=owns_form own2;have F2:=(F3.trans (FR.of_ext (Ext.alloc wr (.cells #[_,_] 133)) hB3)).trans (FR.of_row (o3.alloc _) gr2 (by simp;omega));rw[HC.out]at own2⊢;have own3:=ownc own2 (show _=(upL b k (k+1)++dnL (n+1) b k (k-J')).map (Value.int .i64) by rw[HNX.out];simp;exact HTM.out);clear own2;go_wp2;go_roundw
     case rel=>exact⟨J',by omega,by go_num,own3,F2⟩
     case measure=>simp[intOf] <;> omega
attribute [local go_sem] Oper.semAt_some
/-- Behind k levels of the scan order: how many zeros since the last run, the runs so far. -/
def runT (zs:List Int):Nat→Nat×List (Int×Int)
 | 0=>(0,[])
 | k+1=>if nth zs (nth scanL k).toNat=0 then((runT zs k).1+1,(runT zs k).2)else(0,(runT zs k).2 ++ [(((runT zs k).1:Int),nth zs (nth scanL k).toNat)])
/-- The runs of a block. -/
def runsL (zs:List Int):List (Int×Int):=(runT zs 16).2
theorem runT_le (zs:List Int) (k:Nat):(runT zs k).1≤k:=by
 induction k with
 | zero=>exact Nat.le_refl _
 | succ k ih=>unfold runT;split <;> simp <;> omega
theorem runT_len (zs:List Int) (k:Nat):(runT zs k).2.length≤k:=by
 induction k with
 | zero=>exact Nat.le_refl _
 | succ k ih=>unfold runT;split <;> simp <;> omega
theorem runsL_len (zs:List Int):(runsL zs).length≤16:=runT_len zs 16
theorem scan_rng : ∀ k,k<16→0≤nth scanL k∧nth scanL k≤15:=by decide
/-- A run of levels within B. -/
def rOk (B:Int) (x:Int×Int):Prop:=0≤x.1∧x.1≤15∧x.2≠0 ∧ -B≤x.2∧x.2≤B
abbrev Rn (B : Int) := { x : Int × Int // rOk B x }
def encR {B:Int} (x:Rn B):Array Value := #[.agg #[.int .i64 x.1.1,.int .i64 x.1.2]]
theorem runs_stops (n:Nat) (hn:1≤n) (Bs:Nat) (zs:List Int) (B:Int) (hl:zs.length=16) (hB:bdI B zs) (w:World) (hI:IB w Bs 29 zs) :
 SeqStopsK Fence.wide n Tryz.prog 148 #[.pointer (some ⟨Bs,0,none⟩)] (encR (B:=B)) (keepB Bs) (fun xs=>xs.map (·.1)=runsL zs) (fun _=>True) 16 w:=by
 intro l J Jx W hW hJ hJx hY h0;have hB0:=hI.ext hW;refine callsIn_wide.2 ?_;have Hl:=Lib.hid hl;have HY:=Lib.hid hY;have HB:=Lib.hid hB;clear hl hY hB hI hJx hW;go_enter Tryz.func148,Tryz.ntmps148
 go_wp2_with fail
 refine(scanOrder_any _).mono ?_
 rintro e w1 ⟨rfl,e1⟩
 have B1:=hB0.ext e1;have J1:J [] w1:=hJ [] W w1 none h0 ⟨e1.os,e1.tape,e1.output,e1.size,fun k hk _=>e1.block k hk⟩ (fun r hr=>by cases hr);clear hB0 h0 e1 hJ;go_wp2_with fail
 go_loopw [3,8] (fun z i wr=>∃(k:Nat) (pre:List (Rn B)),k≤16∧i= .int .i64 k∧z= .int .i64 ((runT zs k).1:Nat)∧pre.map (·.1)=(runT zs k).2∧J pre wr∧IB wr Bs 29 zs) (fun _ i _=>16-(intOf i).toNat)
 case atStart=>exact⟨0,[],by omega,rfl,rfl,rfl,J1,B1⟩
 case round =>
  obtain⟨k,pre,hk,rfl,rfl,hpl,Jr,Br⟩:=hrel;clear J1 B1
  by_cases hlt:k<16
  ·have hd:decide ((k:Int)<16)=true:=by simp;omega
   obtain⟨s0,s1⟩:=scan_rng k hlt;have hst:runT zs (k+1)=if nth zs (nth scanL k).toNat=0 then((runT zs k).1+1,(runT zs k).2)else(0,(runT zs k).2 ++ [(((runT zs k).1:Int),nth zs (nth scanL k).toNat)]):=rfl;have hz:=runT_le zs k;have hln:=runT_len zs k;obtain⟨q,hq⟩:∃ q:Nat,nth scanL k=(q:Int):=⟨(nth scanL k).toNat,by omega⟩;rw[hq,Int.toNat_natCast]at hst;rw[hq]at s0 s1;have hc:=Br.cell (i:=q) (by rw[Hl.out];omega);have hb:=HB.out q (by rw[Hl.out];omega);have Hst:=Lib.hid hst;have Hq:=Lib.hid hq;clear hst hq;generalize nth zs q=lv at *;obtain⟨z,hzz⟩:∃ z,z=(runT zs k).1:=⟨_,rfl⟩;rw[←hzz]at Hst hz⊢;have Hpl:=Lib.hid hpl;clear hpl hzz
   by_cases h0:lv=0
   ·subst h0;go_wp2_with (refine wpList_iindex 29 _ _ rfl rfl scanL rfl k 16 _ rfl rfl 3 Tryz.underlying29 Tryz.underlying3 size_int hlt rfl ?_;rw[Hq.out])
    have hst:=Hst.out;rw[if_pos rfl]at hst;go_roundw
    case rel=>exact⟨k+1,pre,by omega,by go_num,by rw[hst];go_num,by rw[hst];exact Hpl.out,Jr,Br⟩
    case measure=>simp[intOf];omega
   ·have hd0:(lv == 0)=false:=by simpa using h0
    have hst:=Hst.out;rw[if_neg h0]at hst;have HST:=Lib.hid hst;clear hst Hst;obtain⟨fn,tmps,assign,body,hy,hR⟩:=HY.out pre ⟨((z:Nat),lv),by exact⟨by simp,by simp;omega,h0,hb.1,hb.2⟩⟩ wr Jr (by have:=congrArg List.length Hpl.out;simp at this;omega);dsimp only[encR]at hy;go_upto_region 8 with(refine wpList_iindex 29 _ _ rfl rfl scanL rfl k 16 _ rfl rfl 3 Tryz.underlying29 Tryz.underlying3 size_int hlt rfl ?_;rw[Hq.out])
    refine(wpIn_wide (n:=n)).1 ?_
    gi_wp2
    refine hR.mono ?_
    rintro e W3 (⟨rfl,hJ3,hk3⟩|⟨rfl,hJx3⟩)
    ·gi_wp2
     go_wp2;have B3:IB W3 Bs 29 zs:=hk3.trans Br;go_roundw
     case rel=>exact⟨k+1,_,by omega,by go_num,by rw[HST.out];go_num,by rw[HST.out];simp[Hpl.out],hJ3,B3⟩
     case measure=>simp[intOf];omega
    ·gi_wp2
     go_wp2;refine bodyPost_ret (results_none rfl _ _ _) rfl ?_;exact⟨⟨_,rfl⟩,.inr ⟨_,trivial,hJx3⟩⟩
  ·obtain rfl:k=16:=by omega
   go_wp2;go_end0
   exact⟨⟨_,rfl⟩,.inl ⟨pre,hpl,Jr⟩⟩
theorem runsIn_any (zs:List Int) (w:World) :
 Calls Tryz.prog 109 #[.agg (ic zs)] w fun e w'=>e= .returned (.func (.func 148) #[] #[.pointer (some ⟨w.heap.size,0,none⟩)])∧w'=w.alloc (.cells (ic zs) 29):=by
 go_enter Tryz.func109,Tryz.ntmps109
 go_wp2;go_ret
 exact⟨rfl,rfl⟩
theorem NonzeroCount_any (zs:List Int) (w:World) (hl:zs.length=16) (B:Int) (hB:bdI B zs) :
 Calls Tryz.prog 108 #[.agg (ic zs)] w fun e w'=>e= .returned (.int .i64 ((runsL zs).length:Nat))∧Ext w w':=by
 have Hl:=Lib.hid hl;have HB:=Lib.hid hB;have hr:=runsL_len zs;have p0:=(IB.new w 29 zs).alloc (.cells #[.int .i64 0] 3);have c0:=blk_new (w.alloc (.cells (ic zs) 29)) (.cells #[.int .i64 0] 3);have E0:=(Ext.alloc w (.cells (ic zs) 29)).trans (Ext.alloc _ (.cells #[.int .i64 0] 3));simp only[World.size_alloc]at c0;clear hl hB;refine calls_of_marks 4 Tryz.func108 rfl ?_;simp only[Tryz.ntmps108,List.size_toArray,List.length_cons,List.length_nil,Nat.reduceAdd,Nat.reduceSub,Array.replicate_succ,Array.replicate_zero,List.push_toArray,List.append_toArray,List.nil_append,List.cons_append];go_wp2_with (refine wpList_iload 29 _ rfl rfl p0 0 16 rfl _ Tryz.underlying29 rfl size_A16s (by rw[Hl.out];omega) _ (by rw[sub_all _ _ Hl.out]) ?_)
 refine(runsIn_any zs _).mono ?_
 rintro e w1 ⟨rfl,rfl⟩
 simp only[World.size_alloc];obtain⟨c,hc⟩:∃ c,c=w.heap.size+1:=⟨_,rfl⟩;generalize hw1:(w.alloc (.cells (ic zs) 29)).alloc (.cells #[.int .i64 0] 3)=w1 at *;have hs:w1.heap.size=c+1:=by rw[←hw1,hc];simp
 rw[←hc]at c0⊢;have e2:=Ext.alloc w1 (.cells (ic zs) 29);have I2:=IB.new w1 29 zs;have c2:=e2.blk c0;have E2:=E0.trans e2;have hs2:(w1.alloc (.cells (ic zs) 29)).heap.size=c+2:=by simp[hs]
 rw[hs]at I2;have HC:=Lib.hid hc;clear hc hw1 c0 p0 E0 e2;generalize w1.alloc (.cells (ic zs) 29)=w2 at *;go_upto_region 99 with fail
 refine(wpIn_wide (n:=4)).1 ?_;refine wpIn_rangeFunc_ownG rfl (by omega) (gf:=148) (lb := #[.pointer (some ⟨c+1,0,none⟩)]) rfl trivial (enters_of Tryz.func148 (by kernel_rfl) rfl)
  (runs_stops 3 (by omega) (c+1) zs B Hl.out HB.out w2 I2) keepB.t (keepB.b (by omega)) (Below.refl _ _) (fun _=>rfl)
  (fun pre W=>W.heap[c]?=some (.cells #[.int .i64 (pre.length:Nat)] 3 (0,0))∧Ext w W) (fun _ _ _=>False)
  (fun pre W W' row hI hg hr=>⟨blk_gr hI.1 hg (fun e=>by have:=(hr _ e).1;omega),Ext.grown hI.2 hg (fun k e=>by have:=(hr k e).1;have:=HC.out;omega)⟩) (fun _ _ _ _ _ h _ _=>h) ⟨c2,E2⟩ ?a1 ?assign ?body ?done ?stop
 case assign =>
  intro l x W K hK;simp[encR]
  gi_wp2
  exact hK
 case body =>
  rintro l pre x W ⟨hc1,hE⟩ hlen
  obtain⟨hc0,hcc,hcf⟩:=bx1 hc1
  gi_wp2
  have h1:=heap_setCell_same W c 0 _ _ (.int .i64 ((pre.length:Int)+1)) hc1;exact⟨(KeepsOthers.setCell _ _ _).from _,Below.heap_setCell _ _ _ _ (by show c+1≠c;omega),by simpa using h1,Ext.grown hE (gr_set _ _ _ _) (fun k e=>by cases e;have:=HC.out;omega)⟩
 case done =>
  rintro D ys W hD hS ⟨hc1,hE⟩ hK
  obtain⟨hc0,hcc,hcf⟩:=bx1 hc1;have hyl:=congrArg List.length hS;rw[List.length_map]at hyl;have HY:=Lib.hid hyl;clear hyl hS;go_wp2;refine⟨by simp,.inl ⟨_,_,rfl,run_takeDeferred hK,?_⟩⟩;exact⟨_,results_tmp rfl _ _ _,by rw[←HY.out];rfl,ext_putObj hE (by have:=HC.out;omega) _⟩
 case stop =>
  rintro D c pre W _ _ h _
  exact h.elim
end Go.Proofs.YtbnhaegidfbgbaaGreatDoor
namespace Go.Proofs.YtbnhaegidfbgbaaGreatDoor
open Go.RowKit
/-- Diagonal d, its first j candidates, behind l. -/
def spY (d j:Nat):Nat:=if d%2=0 then 3-j else j
def spIn (d:Nat) (l:List Int):Nat→List Int
 | 0=>l
 | j+1=>if spY d j≤d∧d-spY d j≤3 then spIn d l j ++ [4*(spY d j:Int)+d-(spY d j:Int)]else spIn d l j
def spOut : Nat→List Int
 | 0 => []
 | d+1=>spIn d (spOut d) 4
theorem spOut_all : spOut 7=scanL:=by decide
theorem sp_len : ∀ d,d<7→∀ j,j≤4→(spIn d (spOut d) j).length≤16:=by decide
theorem info_intU : (Tryz.prog.info? 3).map (fun i=>(i.zero,i.size,i.bytes))=some (some (.int .i64 0),1,8):=by kernel_rfl
theorem info_Run : (Tryz.prog.info? 140).map (fun i=>(i.zero,i.size,i.bytes))=some (some (.agg #[.int .i64 0,.int .i64 0]),2,16):=by kernel_rfl
theorem spec_ScanOrder_any (w:World) :
 Calls Tryz.prog 181 #[] w fun e w'=>∃ a c,e= .returned (.slice a 16 c)∧w'.ownsRow w.heap.size 3 1 (.slice a 16 c) 16 (scanL.map (Value.int .i64))∧Ext w w':=by
 obtain⟨W,hW⟩:∃ W,W=w.heap.size:=⟨_,rfl⟩;have F0:FR w.heap.size 3 w (w.alloc (.cells #[] 3)):=FR.of_ext (Ext.alloc w _) (Nat.le_refl _);have o0:=World.ownsRow_made (base:=w.heap.size) (e:=3) (size:=1) w #[] 0 (Nat.le_refl _) (by simp) rfl;rw[←hW]at F0 o0⊢;have hWw:W≤w.heap.size:=by omega
 have HW:=Lib.hid hW;go_enter Tryz.func181,Tryz.ntmps181
 go_wp2_with fail
 rw[←hW];clear hW;go_loopw [1,2] (fun v y wr=>∃ d:Nat,d≤7∧y= .int .i64 d∧wr.ownsRow W 3 1 v (spOut d).length ((spOut d).map (Value.int .i64))∧FR W 3 w wr) (fun _ y _=>7-(intOf y).toNat)
 case atStart=>exact⟨0,by omega,rfl,by simpa [spOut] using o0,F0⟩
 case round =>
  obtain⟨d,hd,rfl,o1,F1⟩:=hrel;clear o0 F0;obtain⟨a1,c1,rfl⟩:=owns_form o1
  by_cases hlt:d<7
  ·have hd7:decide ((d:Int)<7)=true:=by simp;omega
   go_wp2_with fail
   go_loopw [1,3] (fun v y wr=>∃ j:Nat,j≤4∧y= .int .i64 j∧wr.ownsRow W 3 1 v (spIn d (spOut d) j).length ((spIn d (spOut d) j).map (Value.int .i64))∧FR W 3 w wr) (fun _ y _=>4-(intOf y).toNat)
   case atStart=>exact⟨0,by omega,rfl,o1,F1⟩
   case round =>
    obtain⟨j,hj,rfl,o2,F2⟩:=hrel;clear o1 F1;obtain⟨a2,c2,rfl⟩:=owns_form o2;have hB2:=Nat.le_trans hWw F2.size
    by_cases hlt2:j<4
    ·have hd4:decide ((j:Int)<4)=true:=by simp;omega
     have hln:=sp_len d hlt j (by omega);have HST:=Lib.hid (show spIn d (spOut d) (j+1)=if spY d j≤d∧d-spY d j≤3 then spIn d (spOut d) j ++ [4*(spY d j:Int)+d-(spY d j:Int)]else spIn d (spOut d) j from rfl);obtain⟨L,hL⟩:∃ L,L=spIn d (spOut d) j:=⟨_,rfl⟩;rw[←hL]at HST o2 hln⊢;have hyr:spY d j≤3:=by unfold spY;split <;> omega
     have hyd:(d%2=0∧spY d j=3-j)∨(d%2=1∧spY d j=j):=by
      unfold spY
      by_cases h:d%2=0
      ·rw[if_pos h];exact .inl ⟨h,rfl⟩
      ·rw[if_neg h];exact .inr ⟨by omega,rfl⟩
     generalize spY d j=y at *;clear hL;rcases hyd with⟨he,rfl⟩|⟨he,rfl⟩
     ·have hdm:((d:Int).tmod 2 == 0)=true:=by
       rw[Int.tmod_eq_emod_of_nonneg (by omega)];simp;omega
      go_wp2_with fail
      by_cases hin:3-j≤d∧d-(3-j)≤3
      ·refine(l1In_yes ((d:Int)-(3-(j:Int))) 0 3 _ (by omega) (by omega)).mono ?_
       rintro e w3 ⟨rfl,rfl⟩
       go_wp2_with (at_builtin;refine wpList_app _ o2 hB2 _ rfl _ _ 23 rfl (.int .i64 0) 8 Tryz.underlying23 info_intU rfl rfl rfl rfl (by omega) (by omega) ?_;intro v3 w3 own3 gr3 _;refine Hid.out ?_)
       refine Lib.hid ?_;obtain⟨a3,c3,rfl⟩:=owns_form own3;have F3:=F2.trans (FR.of_row o2 gr3 hB2);have HN:=Lib.hid (show spIn d (spOut d) (j+1)=L ++ [4*(3-(j:Int))+d-(3-(j:Int))] by rw[HST.out,if_pos hin];congr 2;omega);clear HST;go_wp2;go_roundw
       case rel=>exact⟨j+1,by omega,by go_num,by rw[HN.out,List.length_append,List.map_append];exact own3,F3⟩
       case measure=>simp[intOf] <;> omega
      ·refine(l1In_no ((d:Int)-(3-(j:Int))) 0 3 _ (by omega)).mono ?_
       rintro e w3 ⟨rfl,rfl⟩
       have HN:=Lib.hid (show spIn d (spOut d) (j+1)=L by rw[HST.out,if_neg hin]);clear HST;go_wp2;go_roundw
       case rel=>exact⟨j+1,by omega,by go_num,by rw[HN.out];exact o2,F2⟩
       case measure=>simp[intOf] <;> omega
     ·have hdm:((d:Int).tmod 2 == 0)=false:=by
       rw[Int.tmod_eq_emod_of_nonneg (by omega)];simp;omega
      go_wp2_with fail
      by_cases hin:y≤d∧d-y≤3
      ·refine(l1In_yes ((d:Int)-(y:Int)) 0 3 _ (by omega) (by omega)).mono ?_
       rintro e w3 ⟨rfl,rfl⟩
       go_wp2_with (at_builtin;refine wpList_app _ o2 hB2 _ rfl _ _ 23 rfl (.int .i64 0) 8 Tryz.underlying23 info_intU rfl rfl rfl rfl (by omega) (by omega) ?_;intro v3 w3 own3 gr3 _;refine Hid.out ?_)
       refine Lib.hid ?_;obtain⟨a3,c3,rfl⟩:=owns_form own3;have F3:=F2.trans (FR.of_row o2 gr3 hB2);have HN:=Lib.hid (show spIn d (spOut d) (y+1)=L ++ [4*(y:Int)+d-(y:Int)] by rw[HST.out,if_pos hin]);clear HST;go_wp2;go_roundw
       case rel=>exact⟨y+1,by omega,by go_num,by rw[HN.out,List.length_append,List.map_append];exact own3,F3⟩
       case measure=>simp[intOf] <;> omega
      ·refine(l1In_no ((d:Int)-(y:Int)) 0 3 _ (by omega)).mono ?_
       rintro e w3 ⟨rfl,rfl⟩
       have HN:=Lib.hid (show spIn d (spOut d) (y+1)=L by rw[HST.out,if_neg hin]);clear HST;go_wp2;go_roundw
       case rel=>exact⟨y+1,by omega,by go_num,by rw[HN.out];exact o2,F2⟩
       case measure=>simp[intOf] <;> omega
    ·have HJ:=Lib.hid (show j=4 by omega);have hd4:decide ((j:Int)<4)=false:=by simp;omega
     have HO:=Lib.hid (show spIn d (spOut d) j=spOut (d+1) by rw[HJ.out];rfl);rw[HO.out]at o2⊢;go_wp2;go_roundw
     case rel=>exact⟨d+1,by omega,by go_num,o2,F2⟩
     case measure=>simp[intOf] <;> omega
  ·have HD:=Lib.hid (show d=7 by omega);have hd7:decide ((d:Int)<7)=false:=by simp;omega
   have HO:=Lib.hid (show spOut d=scanL by rw[HD.out];exact spOut_all);rw[HO.out,show scanL.length=16 from rfl]at o1⊢;go_wp2;go_ret
   exact⟨_,_,rfl,o1,by show Below w.heap.size w wr;rw[←HW.out];exact F1.lo⟩
theorem FR.owns {b0 T U b s n:Nat} {v:Value} {xs:List Value} {w w':World} (f:FR b0 T w w') (h:w.ownsRow b U s v n xs) (hne:U≠T):w'.ownsRow b U s v n xs:=by
 refine⟨h.1,?_⟩;rcases h.2 with h2|⟨g,cap,cur,hv,hb,hg,rest⟩
 ·exact .inl h2
 ·exact .inr ⟨g,cap,cur,hv,hb,f.blk hg hne,rest⟩
theorem own_ptr {w:World} {b U s n:Nat} {a:Option Addr} {c:Nat} {xs:List Value} (h:w.ownsRow b U s (.slice a n c) n xs) (hn:0<n):∃ g,a=some ⟨g,0,none⟩:=by
 rcases h.2 with⟨-,h0⟩|⟨g,cap,cur,hv,-⟩
 ·omega
 ·simp only[Value.slice.injEq]at hv;exact⟨g,hv.1⟩
theorem one_ints (zs:List Int):∀ u∈zs.map (Value.int .i64),u.oneCell'=true:=by
 intro u hu;obtain⟨z,-,rfl⟩:=List.mem_map.1 hu;rfl
theorem run_new (w:World) (c b:Int):Sl (w.alloc (.cells #[.int .i64 c,.int .i64 b] 140)) (some ⟨w.heap.size,0,none⟩) 2 [.int .i64 c,.int .i64 b]:=Sl_new w [.int .i64 c,.int .i64 b] 140
/-- Runs as numbers. -/
def flatR (l:List (Int×Int)):List Int:=l.flatMap fun r => [r.1,r.2]
theorem flatR_snoc (l:List (Int×Int)) (r:Int×Int):flatR (l ++ [r])=flatR l ++ [r.1,r.2]:=by simp[flatR]
theorem flatR_len : ∀ l:List (Int×Int),(flatR l).length=l.length*2
 | []=>rfl
 | r::l=>by
  have:=flatR_len l;simp only[flatR,List.flatMap_cons,List.length_append,List.length_cons,List.length_nil]at this⊢;omega
theorem nth_flatR : ∀(l:List (Int×Int)) (k:Nat),k<l.length→nth (flatR l) (k*2)=(l.getD k (0,0)).1∧nth (flatR l) (k*2+1)=(l.getD k (0,0)).2
 | [],k,h=>by simp at h
 | r::l,0,_=>⟨rfl,rfl⟩
 | r::l,k+1,h=>by
  have ih:=nth_flatR l k (by simpa using h);have e:flatR (r::l)=r.1::r.2::flatR l:=rfl;rw[e,show(k+1)*2=k*2+1+1 by omega];exact ih
/-- The runs' numbers are in range. -/
theorem runT_rng {zs:List Int} {Bd:Int} (hl:zs.length=16) (hB:bdI Bd zs):∀ k,k≤16→∀ j,j<(runT zs k).2.length→0≤((runT zs k).2.getD j (0,0)).1∧((runT zs k).2.getD j (0,0)).1≤15∧((runT zs k).2.getD j (0,0)).2≠0 ∧ -Bd≤((runT zs k).2.getD j (0,0)).2∧((runT zs k).2.getD j (0,0)).2≤Bd
 | 0,_,j,h=>by simp[runT]at h
 | k+1,hk,j,h=>by
  have ih:=runT_rng hl hB k (by omega);have hz:=runT_le zs k;unfold runT at h⊢
  by_cases h0:nth zs (nth scanL k).toNat=0
  ·rw[if_pos h0]at h⊢;exact ih j h
  ·rw[if_neg h0]at h⊢;simp only[List.length_append,List.length_cons,List.length_nil]at h
   by_cases hj:j<(runT zs k).2.length
   ·have e:((runT zs k).2 ++ [(((runT zs k).1:Int),nth zs (nth scanL k).toNat)]).getD j (0,0)=(runT zs k).2.getD j (0,0):=by
     simp[List.getD,List.getElem?_append_left hj]
    rw[e];exact ih j hj
   ·have hj2:j=(runT zs k).2.length:=by omega
    have e:((runT zs k).2 ++ [(((runT zs k).1:Int),nth zs (nth scanL k).toNat)]).getD j (0,0)=(((runT zs k).1:Int),nth zs (nth scanL k).toNat):=by
     rw[hj2];simp[List.getD]
    obtain⟨s0,s1⟩:=scan_rng k (by omega);have hb:=hB (nth scanL k).toNat (by omega);rw[e];exact⟨by omega,by omega,h0,hb.1,hb.2⟩
/-- The decisions for a block: the first k runs. -/
def bkL (zs:List Int):Nat→List Int
 | 0=>numL (runsL zs).length 16
 | k+1=>bkL zs k++(numL ((runsL zs).getD k (0,0)).1.toNat 23++numL (sidx ((runsL zs).getD k (0,0)).2-1).toNat 30)
def bkN (zs:List Int):Nat→Nat
 | 0=>numN (runsL zs).length
 | k+1=>bkN zs k+(numN ((runsL zs).getD k (0,0)).1.toNat+numN (sidx ((runsL zs).getD k (0,0)).2-1).toNat)
/-- The decisions for a block. -/
def blkB (zs:List Int):List Int:=bkL zs (runsL zs).length
def blkC (zs:List Int):Nat:=bkN zs (runsL zs).length
theorem runL_rng {zs:List Int} (hl:zs.length=16) (hB:bdI 4080 zs) {k:Nat} (hk:k<(runsL zs).length):∃ z s:Nat,((runsL zs).getD k (0,0)).1=z∧z≤15∧sidx ((runsL zs).getD k (0,0)).2-1=s∧s≤8160 ∧ -4080≤((runsL zs).getD k (0,0)).2∧((runsL zs).getD k (0,0)).2≤4080:=by
 obtain⟨h1,h2,h3,h4,h5⟩:=runT_rng hl hB 16 (Nat.le_refl _) k hk;show ∃ z s:Nat,((runT zs 16).2.getD k (0,0)).1=z∧z≤15∧sidx ((runT zs 16).2.getD k (0,0)).2-1=s∧s≤8160 ∧ -4080≤((runT zs 16).2.getD k (0,0)).2∧((runT zs 16).2.getD k (0,0)).2≤4080;generalize (runT zs 16).2.getD k (0,0)=r at *;refine⟨r.1.toNat,(sidx r.2-1).toNat,by omega,by omega,?_,?_,h4,h5⟩
 ·unfold sidx;split <;> omega
 ·unfold sidx;split <;> omega
theorem bkN_le {zs:List Int} (hl:zs.length=16) (hB:bdI 4080 zs):∀ k,k≤(runsL zs).length→bkN zs k≤31+k*62
 | 0,_=>by have:=runsL_len zs;exact numN_le (by omega)
 | k+1,hk=>by
  have ih:=bkN_le hl hB k (by omega);obtain⟨z,s,e1,h1,e2,h2,-,-⟩:=runL_rng hl hB (show k<(runsL zs).length by omega);have q1:numN ((runsL zs).getD k (0,0)).1.toNat≤31:=numN_le (by omega);have q2:numN (sidx ((runsL zs).getD k (0,0)).2-1).toNat≤31:=numN_le (by omega);rw[bkN];omega
theorem blkC_le {zs:List Int} (hl:zs.length=16) (hB:bdI 4080 zs):blkC zs≤1023:=by
 have h1:=bkN_le hl hB _ (Nat.le_refl _);have h2:=runsL_len zs;unfold blkC;omega
theorem spec_RunsOf_any (zs:List Int) (w:World) (hl:zs.length=16) :
 Calls Tryz.prog 166 #[.agg (ic zs)] w fun e w'=>∃ a c,e= .returned (.slice a (runsL zs).length c)∧w'.ownsRow w.heap.size 140 2 (.slice a (runsL zs).length c) (runsL zs).length ((flatR (runsL zs)).map (Value.int .i64))∧Ext w w':=by
 have Hl:=Lib.hid hl;obtain⟨Bx,hBx⟩:∃ Bx,Bx=w.heap.size:=⟨_,rfl⟩;have E0:=(Ext.alloc w (.cells (ic zs) 29)).trans (Ext.alloc _ (.cells #[] 140));have I0:=(IB.new w 29 zs).alloc (.cells #[] 140);have o0:=World.ownsRow_made (base:=Bx+1) (e:=140) (size:=2) (w.alloc (.cells (ic zs) 29)) #[] 0 (by simp[hBx]) (by simp) rfl;have z0:Bx+1≤((w.alloc (.cells (ic zs) 29)).alloc (.cells #[] 140)).heap.size:=by simp[hBx]
 rw[World.size_alloc]at o0;rw[←hBx]at I0 o0;have HB:=Lib.hid hBx;clear hl;go_enter Tryz.func166,Tryz.ntmps166
 go_wp2_with fail
 try simp only[World.size_alloc]
 rw[←hBx];clear hBx;generalize (w.alloc (.cells (ic zs) 29)).alloc (.cells #[] 140)=w1 at *;refine(spec_ScanOrder_any _).mono ?_
 rintro e w2 ⟨ga,gc,rfl,og,e2⟩
 obtain⟨g,rfl⟩:=own_ptr og (by omega);have I2:=I0.ext e2;have o2:=owns_ext o0 e2;have E2:=E0.trans e2;have z2:=Nat.le_trans z0 e2.size;have F2:=FR.refl (Bx+1) 140 w2;have oz:=World.ownsRow_nil w2 0 3 1;clear I0 o0 E0 z0 e2;go_wp2_with fail
 go_loopw [3,5,6] (fun v zr y wr=>∃ k:Nat,k≤16∧y= .int .i64 k∧zr= .int .i64 ((runT zs k).1:Nat)∧wr.ownsRow (Bx+1) 140 2 v (runT zs k).2.length ((flatR (runT zs k).2).map (Value.int .i64))∧FR (Bx+1) 140 w2 wr) (fun _ _ y _=>16-(intOf y).toNat)
 case atStart=>exact⟨0,by omega,rfl,rfl,o2,F2⟩
 case round =>
  obtain⟨k,hk,rfl,rfl,o3,F3⟩:=hrel;clear o2 F2;obtain⟨a3,c3,rfl⟩:=owns_form o3;have hB3:=Nat.le_trans z2 F3.size
  by_cases hlt:k<16
  ·have hd:decide ((k:Int)<16)=true:=by simp;omega
   obtain⟨s0,s1⟩:=scan_rng k hlt;have HST:=Lib.hid (show runT zs (k+1)=if nth zs (nth scanL k).toNat=0 then((runT zs k).1+1,(runT zs k).2)else(0,(runT zs k).2 ++ [(((runT zs k).1:Int),nth zs (nth scanL k).toNat)])from rfl);have hz:=runT_le zs k;have hln:=runT_len zs k;obtain⟨q,hq⟩:∃ q:Nat,nth scanL k=(q:Int):=⟨(nth scanL k).toNat,by omega⟩;rw[hq,Int.toNat_natCast]at HST;rw[hq]at s0 s1;have og3:=Sl.of_owns (F3.owns og (by decide));obtain⟨g1,o1,he,hcg⟩:=og3.int hlt;rw[hq]at hcg;cases he;rw[Nat.zero_add]at hcg;have hcl:=(F3.ib I2 (by decide)).cell (i:=q) (by rw[Hl.out];omega);obtain⟨z,hzz⟩:∃ z,z=(runT zs k).1:=⟨_,rfl⟩;obtain⟨R,hR⟩:∃ R,R=(runT zs k).2:=⟨_,rfl⟩;rw[←hzz,←hR]at HST;rw[←hzz]at hz⊢;rw[←hR]at o3 hln⊢;generalize nth zs q=lv at *;clear hzz hR hq og3;have hq16:(q:Int)<16:=by omega
   by_cases h0:lv=0
   ·subst h0;have HS:=Lib.hid (show runT zs (k+1)=(z+1,R) by rw[HST.out,if_pos rfl]);clear HST;go_wp2;go_roundw
    case rel=>exact⟨k+1,by omega,by go_num,by rw[HS.out];go_num,by rw[HS.out];exact o3,F3⟩
    case measure=>simp[intOf] <;> omega
   ·have hd0:(lv == 0)=false:=by simpa using h0
    have HS:=Lib.hid (show runT zs (k+1)=(0,R ++ [((z:Int),lv)]) by rw[HST.out,if_neg h0]);clear HST;go_wp2_with (at_builtin;refine wpList_appk _ rfl (o3.alloc _) (by simp;omega) _ _ 178 rfl (.agg #[.int .i64 0,.int .i64 0]) 16 Tryz.underlying178 info_Run rfl (by decide) rfl ⟨wr.heap.size,0,none⟩ 1 1 [.int .i64 _,.int .i64 _] rfl rfl ((run_new wr _ _).cellsOf _ (by simp)) (by intro u hu;simp at hu;rcases hu with rfl|rfl <;> rfl) (by omega) (by omega) ?_;intro v2 w2 own2 gr2 _;refine Hid.out ?_)
    refine Lib.hid ?_;obtain⟨a4,c4,rfl⟩:=owns_form own2;have F4:=(F3.trans (FR.of_ext (Ext.alloc wr (.cells #[_,_] 140)) hB3)).trans (FR.of_row (o3.alloc _) gr2 (by simp;omega));go_wp2;go_roundw
    case rel=>exact⟨k+1,by omega,by go_num,by rw[HS.out];rfl,by rw[HS.out,flatR_snoc,List.length_append,List.map_append];exact own2,F4⟩
    case measure=>simp[intOf] <;> omega
  ·have HK:=Lib.hid (show k=16 by omega);have hd:decide ((k:Int)<16)=false:=by simp;omega
   have HR:=Lib.hid (show(runT zs k).2=runsL zs by rw[HK.out];rfl);rw[HR.out]at o3⊢;have hlo:Below (Bx+1) w2 wr:=F3.lo;go_wp2;go_ret
   exact⟨_,_,rfl,owns_mono o3 (by have:=HB.out;omega),Below.trans E2 (hlo.mono (by have:=HB.out;omega))⟩
theorem numN_pos (n:Nat):0<numN n:=by unfold numN;omega
/-- An entry of a row of two numbers each. -/
theorem cell2 {w:World} {b U g n c:Nat} {l:List Int} (h:w.ownsRow b U 2 (.slice (some ⟨g,0,none⟩) n c) n (l.map (Value.int .i64))) {j:Nat} (hj:j<l.length):w.cell? ⟨g,j,none⟩=some (.int .i64 (nth l j)):=by
 have h1:=h.cells (g:=g) rfl j (.int .i64 (nth l j)) (by rw[List.getElem?_map,List.getElem?_eq_getElem hj,nth_eq _ _ hj];rfl);have e:(⟨g,0,none⟩:Addr).add j=⟨g,j,none⟩:=by unfold Addr.add;split <;> simp_all
 rwa [e]at h1
theorem l10Number_at (n b:Nat) (bi:Int) (hbi:bi=(b:Int)) (w:World) (hn:n<32768) (hb:b≤100) :
 Calls Tryz.prog 144 #[.int .i64 n,.int .i64 bi] w fun e w'=>∃ a c,e= .returned (.slice a (numN n) c)∧w'.ownsRow w.heap.size 133 2 (.slice a (numN n) c) (numN n) ((numL n b).map (Value.int .i64))∧Ext w w':=by
 subst hbi;exact l10Number_any n b w hn hb
theorem l10Block_any (zs:List Int) (w:World) (hl:zs.length=16) (hB:bdI 4080 zs) :
 Calls Tryz.prog 146 #[.agg (ic zs)] w fun e w'=>∃ a c,e= .returned (.slice a (blkC zs) c)∧w'.ownsRow w.heap.size 133 2 (.slice a (blkC zs) c) (blkC zs) ((blkB zs).map (Value.int .i64))∧Ext w w':=by
 have Hl:=Lib.hid hl;have HBd:=Lib.hid hB;have hR:=runsL_len zs;obtain⟨Bx,hBx⟩:∃ Bx,Bx=w.heap.size:=⟨_,rfl⟩;have E0:=Ext.alloc w (.cells (ic zs) 29);have I0:=IB.new w 29 zs;have z0:Bx+1≤(w.alloc (.cells (ic zs) 29)).heap.size:=by simp[hBx]
 have HBx:=Lib.hid hBx;clear hl hB;go_enter Tryz.func146,Tryz.ntmps146
 go_wp2_with (refine wpList_iload 29 _ rfl rfl I0 0 16 rfl _ Tryz.underlying29 rfl size_A16s (by rw[Hl.out];omega) _ (by rw[sub_all _ _ Hl.out]) ?_)
 try rw[←hBx]
 generalize w.alloc (.cells (ic zs) 29)=w1 at *;refine(spec_RunsOf_any zs _ Hl.out).mono ?_
 rintro e w2 ⟨ra,rc,rfl,or2,e2⟩
 have E2:=E0.trans e2;have z2:=Nat.le_trans z0 e2.size;obtain⟨R,hRR⟩:∃ R,R=(runsL zs).length:=⟨_,rfl⟩;rw[←hRR]at or2 hR⊢;have HRR:=Lib.hid hRR;have HC0:=Lib.hid (show numN R=bkN zs 0 by rw[hRR];rfl);have HL0:=Lib.hid (show numL R 16=bkL zs 0 by rw[hRR];rfl);clear hRR E0 I0 z0 e2 hBx;go_wp2_with fail
 refine(l10Number_at R 16 16 rfl _ (by omega) (by omega)).mono ?_
 rintro e w3 ⟨na,nc,rfl,on3,e3⟩
 have or3:=owns_ext or2 e3;have E3:=E2.trans e3;have z3:=Nat.le_trans z2 e3.size;have o3:=owns_mono on3 z2;have F3:=FR.refl (Bx+1) 133 w3;rw[HC0.out,HL0.out]at o3;rw[HC0.out];clear or2 E2 z2 e3 on3;go_wp2_with fail
 go_loopw [4,5] (fun v y wr=>∃ k:Nat,k≤R∧y= .int .i64 k∧wr.ownsRow (Bx+1) 133 2 v (bkN zs k) ((bkL zs k).map (Value.int .i64))∧FR (Bx+1) 133 w3 wr) (fun _ y _=>R-(intOf y).toNat)
 case atStart=>exact⟨0,by omega,rfl,o3,F3⟩
 case round =>
  obtain⟨k,hk,rfl,o4,F4⟩:=hrel;clear o3 F3;obtain⟨a4,c4,rfl⟩:=owns_form o4;have hB4:=Nat.le_trans z3 F4.size
  by_cases hlt:k<R
  ·have hd:decide ((k:Int)<R)=true:=by simp;omega
   obtain⟨z,s,e1,h1,e2,h2,h3,h4⟩:=runL_rng Hl.out HBd.out (show k<(runsL zs).length by rw[←HRR.out];exact hlt);have or4:=F4.owns or3 (by decide);obtain⟨g,rfl⟩:=own_ptr or4 (by omega);have hfl:=flatR_len (runsL zs);rw[←HRR.out]at hfl;obtain⟨n1,n2⟩:=nth_flatR (runsL zs) k (by rw[←HRR.out];exact hlt);have cz:=cell2 or4 (j:=k*2) (by omega);rw[n1,e1]at cz;obtain⟨lv,hlv⟩:∃ lv,lv=((runsL zs).getD k (0,0)).2:=⟨_,rfl⟩;have HC:=Lib.hid (show bkN zs (k+1)=bkN zs k+(numN z+numN s) by rw[bkN,e1,e2];simp);have HLs:=Lib.hid (show bkL zs (k+1)=bkL zs k++(numL z 23++numL s 30) by rw[bkL,e1,e2];simp);have hbn:=bkN_le Hl.out HBd.out k (by rw[←HRR.out];omega);have q1:=numN_le (show z<32768 by omega);have q2:=numN_le (show s<32768 by omega);have p1:=numN_pos z;have p2:=numN_pos s;have Hcl:=Lib.hid (fun(wx:World) (f:FR (Bx+1) 133 w3 wx)=>(show wx.cell? ⟨g,k*2+1,none⟩=some (.int .i64 lv) by rw[hlv,←n2];exact cell2 (f.owns or3 (by decide)) (by omega)));have HE2:=Lib.hid (show sidx lv-1=(s:Int) by rw[hlv];exact e2);rw[←hlv]at h3 h4;clear hlv e1 e2 n1 n2 hfl or4;go_wp2_with fail
   refine(l10Number_at z 23 23 rfl _ (by omega) (by omega)).mono ?_
   rintro e w5 ⟨a5,c5,rfl,o5,e5⟩
   obtain⟨g5,rfl⟩:=own_ptr o5 p1;have o4':=owns_ext o4 e5;have F5:=F4.trans (FR.of_ext e5 hB4);have hB5:=Nat.le_trans hB4 e5.size;go_wp2_with (at_builtin;refine wpList_appk _ rfl o4' hB5 _ _ 40 rfl (.agg #[.int .i64 0,.int .i64 0]) 16 Tryz.underlying40 info_Bin rfl (by decide) rfl _ _ _ _ rfl o5.1 (o5.cells rfl) (one_ints _) (by omega) (by omega) ?_;intro v2 w2 own2 gr2 _;refine Hid.out ?_)
   refine Lib.hid ?_;obtain⟨a6,c6,rfl⟩:=owns_form own2;have F6:=F5.trans (FR.of_row o4' gr2 hB5);have hB6:=Nat.le_trans hB5 gr2.size;have o6:=own2;have cl6:=Hcl.out _ F6;clear own2 o5 o4' o4 F5 F4 e5 gr2 cz;go_wp2_with fail
   refine(spec_SignedIndex_in lv _ (by omega) (by omega)).mono ?_
   rintro e w7 ⟨rfl,rfl⟩
   rw[show Value.int IntKind.i64 (sidx lv)=Value.int IntKind.i64 ((s:Int)+1) by rw[←HE2.out];congr 1;omega];go_wp2_with fail
   refine(l10Number_at s 30 30 rfl _ (by omega) (by omega)).mono ?_
   rintro e w7 ⟨a7,c7,rfl,o7,e7⟩
   obtain⟨g7,rfl⟩:=own_ptr o7 p2;have o6':=owns_ext o6 e7;have F7:=F6.trans (FR.of_ext e7 hB6);have hB7:=Nat.le_trans hB6 e7.size;go_wp2_with (at_builtin;refine wpList_appk _ rfl o6' hB7 _ _ 40 rfl (.agg #[.int .i64 0,.int .i64 0]) 16 Tryz.underlying40 info_Bin rfl (by decide) rfl _ _ _ _ rfl o7.1 (o7.cells rfl) (one_ints _) (by omega) (by omega) ?_;intro v2 w2 own2 gr2 _;refine Hid.out ?_)
   refine Lib.hid ?_;obtain⟨a8,c8,rfl⟩:=owns_form own2;have F8:=F7.trans (FR.of_row o6' gr2 hB7);have o8:=ownc own2 (show _=(bkL zs (k+1)).map (Value.int .i64) by rw[HLs.out];simp);have HC3:=Lib.hid (show bkN zs k+numN z+numN s=bkN zs (k+1) by rw[HC.out];omega);rw[HC3.out]at o8⊢;clear own2 o7 o6' o6 F7 F6 e7 gr2 cl6 Hcl;go_wp2;go_roundw
   case rel=>exact⟨k+1,by omega,by go_num,o8,F8⟩
   case measure=>simp[intOf] <;> omega
  ·have HKR:=Lib.hid (show k=R by omega);have hd:decide ((k:Int)<R)=false:=by simp;omega
   have H1:=Lib.hid (show bkN zs k=blkC zs by rw[HKR.out,HRR.out];rfl);have H2:=Lib.hid (show bkL zs k=blkB zs by rw[HKR.out,HRR.out];rfl);rw[H1.out,H2.out]at o4;rw[H1.out];have hlo:=F4.lo;go_wp2;go_ret
   exact⟨_,_,rfl,owns_mono o4 (by have:=HBx.out;omega),Below.trans E3 (hlo.mono (by have:=HBx.out;omega))⟩
theorem bdI_of_inB {Bd:Int} {zs:List Int} (h:inB Bd zs=true):bdI Bd zs:=by
 intro j hj;unfold inB at h;rw[List.all_eq_true]at h;have:=h _ (List.getElem_mem hj);rw[nth_eq zs j hj]
 simpa using this
theorem bdI_subU {Bd:Int} {zs:List Int} (h:bdI Bd zs) (o n:Nat) (hl:o+n≤zs.length):bdI Bd (sub zs o n):=by
 intro j hj;rw[sub_len _ _ _ hl]at hj;rw[nth_sub _ _ _ _ hj];exact h _ (by omega)
/-- The decisions for a macroblock in a picture that is not intra. -/
def hdL (m:Mac):List Int := [0,1,1,m.kind-1]
def mvL (m:Mac):List Int:=numL (sidx m.x).toNat 2++numL (sidx m.y).toNat 2
def mdL (m:Mac):Nat→List Int
 | 0 => []
 | k+1=>mdL m k++numL (nth m.modes k).toNat 9
def mdN (m:Mac):Nat→Nat
 | 0=>0
 | k+1=>mdN m k+numN (nth m.modes k).toNat
def miL (m:Mac):List Int:=hdL m++(if m.kind=1 then mvL m else mdL m 4)
def miN (m:Mac):Nat:=2+(if m.kind=1 then numN (sidx m.x).toNat+numN (sidx m.y).toNat else mdN m 4)
def lvBn (m:Mac):Nat→List Int
 | 0=>miL m
 | k+1=>lvBn m k++blkB (sub m.lv (k*16) 16)
def lvNn (m:Mac):Nat→Nat
 | 0=>miN m
 | k+1=>lvNn m k+blkC (sub m.lv (k*16) 16)
def macL (m:Mac):List Int:=if m.kind=0 then [0,0]else lvBn m 4
def macN (m:Mac):Nat:=if m.kind=0 then 1 else lvNn m 4
theorem md_rng {m:Mac} (hv:m.valid) (h2:m.kind=2) {k:Nat} (hk:k<4):∃ z:Nat,nth m.modes k=z∧z≤4:=by
 have:=hv.2.2.2.2.1 h2 k hk;exact⟨(nth m.modes k).toNat,by omega,by omega⟩
theorem mdN_le {m:Mac} (hv:m.valid) (h2:m.kind=2):∀ k,k≤4→mdN m k≤k*31
 | 0,_=>Nat.le_refl _
 | k+1,hk=>by
  have ih:=mdN_le hv h2 k (by omega);obtain⟨z,e,h⟩:=md_rng hv h2 (show k<4 by omega);have:=numN_le (show(nth m.modes k).toNat<32768 by omega);rw[mdN];omega
theorem mv_rng {m:Mac} (hv:m.valid):∃ a b:Nat,sidx m.x=a∧a≤32∧sidx m.y=b∧b≤32:=by
 obtain⟨h1,h2,h3,h4⟩:=hv.2.1;have q1:=sidx_rng h1 h2;have q2:=sidx_rng h3 h4;exact⟨(sidx m.x).toNat,(sidx m.y).toNat,by omega,by omega,by omega,by omega⟩
theorem miN_le {m:Mac} (hv:m.valid) (h0:m.kind≠0):miN m≤200:=by
 unfold miN
 by_cases h1:m.kind=1
 ·rw[if_pos h1];obtain⟨a,b,e1,l1,e2,l2⟩:=mv_rng hv;have:=numN_le (show(sidx m.x).toNat<32768 by omega);have:=numN_le (show(sidx m.y).toNat<32768 by omega);omega
 ·rw[if_neg h1];have:=mdN_le hv (by have:=hv.1;omega) 4 (Nat.le_refl _);omega
theorem lv_bd {m:Mac} (hm:m.ok) (hv:m.valid) {k:Nat} (hk:k<4):(sub m.lv (k*16) 16).length=16∧bdI 4080 (sub m.lv (k*16) 16):=by
 have hl:=hm.lv;exact⟨sub_len _ _ _ (by omega),bdI_subU (bdI_of_inB hv.2.2.2.2.2.2) _ _ (by omega)⟩
theorem lvNn_le {m:Mac} (hm:m.ok) (hv:m.valid) (h0:m.kind≠0):∀ k,k≤4→lvNn m k≤200+k*1023
 | 0,_=>by have:=miN_le hv h0;rw[lvNn];omega
 | k+1,hk=>by
  have ih:=lvNn_le hm hv h0 k (by omega);obtain⟨h1,h2⟩:=lv_bd hm hv (show k<4 by omega);have:=blkC_le h1 h2;rw[lvNn];omega
theorem macN_le {m:Mac} (hm:m.ok) (hv:m.valid):macN m≤5000:=by
 unfold macN
 split
 ·omega
 ·have:=lvNn_le hm hv (by assumption) 4 (Nat.le_refl _);omega
theorem blkC_pos (zs:List Int):0<blkC zs:=by
 have:∀ k,0<bkN zs k:=fun k=>by
  induction k with
  | zero=>exact numN_pos _
  | succ k ih=>rw[bkN];omega
 exact this _
theorem l10Macro_skip (m:Mac) (w:World) (hm:m.ok) (h0:m.kind=0) :
 Calls Tryz.prog 99 #[.agg (ic m.zs),.bool false] w fun e w'=>∃ a c,e= .returned (.slice a (macN m) c)∧w'.ownsRow w.heap.size 133 2 (.slice a (macN m) c) (macN m) ((macL m).map (Value.int .i64))∧Ext w w':=by
 have I0:=(IB.new w 32 m.zs).alloc (.cells #[] 133);have Hl:=Lib.hid (Mac.zs_len hm);have hk:=I0.cell (i:=0) (by rw[Mac.zs_len hm];omega);rw[Mac.zs_kind,h0]at hk;have E0:=((Ext.alloc w (.cells (ic m.zs) 32)).trans (Ext.alloc _ (.cells #[] 133))).trans (Ext.alloc _ (.cells #[.int .i64 0,.int .i64 0] 133));have HN:=Lib.hid (show macN m=1 by rw[macN,if_pos h0]);have HL:=Lib.hid (show macL m = [0,0] by rw[macL,if_pos h0]);have o9:=World.ownsRow_lit (base:=w.heap.size) (e:=133) (size:=2) ((w.alloc (.cells (ic m.zs) 32)).alloc (.cells #[] 133)) #[.int .i64 0,.int .i64 0] 1 (by simp;omega) (by unfold maxLen;omega) rfl;rw[World.size_alloc,World.size_alloc]at o9;clear h0;go_enter Tryz.func99,Tryz.ntmps99
 go_wp2;go_ret
 rw[HN.out,HL.out];exact⟨_,_,rfl,o9,E0⟩
theorem l10Macro_I (m:Mac) (w:World) (hm:m.ok) (hv:m.valid) (h1:m.kind=1) :
 Calls Tryz.prog 99 #[.agg (ic m.zs),.bool false] w fun e w'=>∃ a c,e= .returned (.slice a (macN m) c)∧w'.ownsRow w.heap.size 133 2 (.slice a (macN m) c) (macN m) ((macL m).map (Value.int .i64))∧Ext w w':=by
 have Hl:=Lib.hid (Mac.zs_len hm);have Hm:=Lib.hid hm;have HV:=Lib.hid hv;have HK0:=Lib.hid (show m.kind≠0 by rw[h1];decide);have HK1:=Lib.hid h1;obtain⟨Bx,hBx⟩:∃ Bx,Bx=w.heap.size:=⟨_,rfl⟩;have E0:=(Ext.alloc w (.cells (ic m.zs) 32)).trans (Ext.alloc _ (.cells #[] 133));have I0:=(IB.new w 32 m.zs).alloc (.cells #[] 133);have o0:=World.ownsRow_made (base:=Bx+1) (e:=133) (size:=2) (w.alloc (.cells (ic m.zs) 32)) #[] 0 (by simp[hBx]) (by simp) rfl;have z0:Bx+1≤((w.alloc (.cells (ic m.zs) 32)).alloc (.cells #[] 133)).heap.size:=by simp[hBx]
 rw[World.size_alloc]at o0;have hk:=I0.cell (i:=0) (by rw[Mac.zs_len hm];omega);have hx:=I0.cell (i:=1) (by rw[Mac.zs_len hm];omega);have hy:=I0.cell (i:=2) (by rw[Mac.zs_len hm];omega);rw[Mac.zs_kind,h1]at hk;rw[Mac.zs_x]at hx;rw[Mac.zs_y]at hy;rw[←hBx]at I0 o0 hk hx hy;have HBx:=Lib.hid hBx;obtain⟨xa,ya,ex,lx,ey,ly⟩:=mv_rng hv;have HX:=Lib.hid ex;have HY:=Lib.hid ey;obtain⟨v1,v2,v3,v4⟩:=hv.2.1;have px:=numN_le (show xa<32768 by omega);have py:=numN_le (show ya<32768 by omega);have ppx:=numN_pos xa;have ppy:=numN_pos ya;have HMI:=Lib.hid (show lvBn m 0 = [0,1,1,0]++(numL xa 2++numL ya 2) by rw[lvBn,miL,if_pos h1,hdL,mvL,ex,ey,h1];simp);have HMN:=Lib.hid (show lvNn m 0=0+2+numN xa+numN ya by rw[lvNn,miN,if_pos h1,ex,ey];simp;omega);clear hm hv h1 ex ey;go_enter Tryz.func99,Tryz.ntmps99
 go_upto_region 2 with fail
 try simp only[World.size_alloc]
 rw[←hBx];clear hBx;generalize (w.alloc (.cells (ic m.zs) 32)).alloc (.cells #[] 133)=w1 at *;go_wp2_with (at_builtin;refine wpList_appk _ rfl (o0.alloc _) (by simp;omega) _ _ 40 rfl (.agg #[.int .i64 0,.int .i64 0]) 16 Tryz.underlying40 info_Bin rfl (by decide) rfl ⟨w1.heap.size,0,none⟩ 2 2 [.int .i64 0,.int .i64 1,.int .i64 1,.int .i64 _] rfl rfl ((Sl_new w1 [.int .i64 0,.int .i64 1,.int .i64 1,.int .i64 _] 133).cellsOf _ (by simp)) (by intro u hu;simp at hu;rcases hu with rfl|rfl|rfl|rfl <;> rfl) (by omega) (by omega) ?_;intro v2 w2 own2 gr2 _;refine Hid.out ?_)
 refine Lib.hid ?_;obtain⟨a2,c2,rfl⟩:=owns_form own2;have F2:=(FR.of_ext (B:=Bx+1) (T:=133) (Ext.alloc w1 (.cells #[.int .i64 0,.int .i64 1,.int .i64 1,.int .i64 _] 133)) z0).trans (FR.of_row (o0.alloc _) gr2 (by simp;omega));have E2:Ext w w2:=Below.trans E0 (F2.lo.mono (by have:=HBx.out;omega));have z2:=Nat.le_trans z0 F2.size;have I2:=F2.ib I0 (by decide);have hx2:=I2.cell (i:=1) (by rw[Hl.out];omega);have hy2:=I2.cell (i:=2) (by rw[Hl.out];omega);have hk2:=I2.cell (i:=0) (by rw[Hl.out];omega);rw[Mac.zs_kind,HK1.out]at hk2;rw[Mac.zs_x]at hx2;rw[Mac.zs_y]at hy2;have o2:=ownc own2 (show _=([0,1,1,0]:List Int).map (Value.int .i64) by simp);clear own2 gr2 F2 E0 I0 o0 z0 hk hx hy;have hke:((1:Int) == 1)=true:=rfl;go_wp2_with fail
 refine(spec_SignedIndex_in m.x _ (by omega) (by omega)).mono ?_
 rintro e w3 ⟨rfl,rfl⟩
 rw[HX.out];go_wp2_with fail
 refine(l10Number_at xa 2 2 rfl _ (by omega) (by omega)).mono ?_
 rintro e w3 ⟨a3,c3,rfl,o3,e3⟩
 obtain⟨g3,rfl⟩:=own_ptr o3 ppx;have o2':=owns_ext o2 e3;have hB3:=Nat.le_trans z2 e3.size;have E3:=E2.trans e3;have I3:=I2.ext e3;clear o2 e3 I2 E2 hx2 hy2 hk2;go_wp2_with (at_builtin;refine wpList_appk _ rfl o2' hB3 _ _ 40 rfl (.agg #[.int .i64 0,.int .i64 0]) 16 Tryz.underlying40 info_Bin rfl (by decide) rfl _ _ _ _ rfl o3.1 (o3.cells rfl) (one_ints _) (by omega) (by omega) ?_;intro v2 w2 own2 gr2 _;refine Hid.out ?_)
 refine Lib.hid ?_;obtain⟨a4,c4,rfl⟩:=owns_form own2;have F4:=FR.of_row o2' gr2 hB3;have E4:Ext w w2:=Below.trans E3 (F4.lo.mono (by have:=HBx.out;omega));have z4:=Nat.le_trans hB3 F4.size;have I4:=F4.ib I3 (by decide);have hy4:=I4.cell (i:=2) (by rw[Hl.out];omega);rw[Mac.zs_y]at hy4;have o4:=own2;clear own2 gr2 F4 E3 I3 o2' o3 hB3;go_wp2_with fail
 refine(spec_SignedIndex_in m.y _ (by omega) (by omega)).mono ?_
 rintro e w5 ⟨rfl,rfl⟩
 rw[HY.out];go_wp2_with fail
 refine(l10Number_at ya 2 2 rfl _ (by omega) (by omega)).mono ?_
 rintro e w5 ⟨a5,c5,rfl,o5,e5⟩
 obtain⟨g5,rfl⟩:=own_ptr o5 ppy;have o4':=owns_ext o4 e5;have hB5:=Nat.le_trans z4 e5.size;have E5:=E4.trans e5;have I5:=I4.ext e5;clear o4 e5 I4 E4 hy4;go_wp2_with (at_builtin;refine wpList_appk _ rfl o4' hB5 _ _ 40 rfl (.agg #[.int .i64 0,.int .i64 0]) 16 Tryz.underlying40 info_Bin rfl (by decide) rfl _ _ _ _ rfl o5.1 (o5.cells rfl) (one_ints _) (by omega) (by omega) ?_;intro v2 w3 own2 gr2 _;refine Hid.out ?_)
 refine Lib.hid ?_;obtain⟨a6,c6,rfl⟩:=owns_form own2;have F6:=FR.of_row o4' gr2 hB5;have E3:Ext w w3:=Below.trans E5 (F6.lo.mono (by have:=HBx.out;omega));have z3:=Nat.le_trans hB5 F6.size;have I3:=F6.ib I5 (by decide);have o3:=ownc own2 (show _=(lvBn m 0).map (Value.int .i64) by rw[HMI.out];simp);rw[←HMN.out]at o3⊢;clear own2 gr2 F6 E5 I5 o4' o5 hB5;have F3:=FR.refl (Bx+1) 133 w3;go_wp2_with fail
 go_loopw [5,7] (fun v y wr=>∃ k:Nat,k≤4∧y= .int .i64 k∧wr.ownsRow (Bx+1) 133 2 v (lvNn m k) ((lvBn m k).map (Value.int .i64))∧FR (Bx+1) 133 w3 wr) (fun _ y _=>4-(intOf y).toNat)
 case atStart=>exact⟨0,by omega,rfl,o3,F3⟩
 case round =>
  obtain⟨k,hk,rfl,o4,F4⟩:=hrel;clear o3 F3;obtain⟨a4,c4,rfl⟩:=owns_form o4;have hB4:=Nat.le_trans z3 F4.size
  by_cases hlt:k<4
  ·have hd:decide ((k:Int)<4)=true:=by simp;omega
   obtain⟨l1,l2⟩:=lv_bd Hm.out HV.out hlt;have hbc:=blkC_le l1 l2;have hln:=lvNn_le Hm.out HV.out HK0.out k (by omega);have I4:=F4.ib I3 (by decide);have HLs:=Lib.hid (show lvBn m (k+1)=lvBn m k++blkB (sub m.lv (k*16) 16)from rfl);have HC:=Lib.hid (show lvNn m k+blkC (sub m.lv (k*16) 16)=lvNn m (k+1)from rfl);have HBK:=Lib.hid (fun w=>l10Block_any (sub m.lv (k*16) 16) w l1 l2);have HZB:=Lib.hid (Mac.zs_blk Hm.out k hlt);generalize sub m.lv (k*16) 16=bz at *;clear l1 l2;go_wp2_with (refine wpList_iload 29 _ rfl rfl I4 (7+k*16) 16 rfl _ Tryz.underlying29 rfl size_A16s (by rw[Hl.out];omega) _ (by rw[HZB.out]) ?_)
   refine(HBK.out _).mono ?_
   rintro e w5 ⟨a5,c5,rfl,o5,e5⟩
   have o4':=owns_ext o4 e5;have F5:=F4.trans (FR.of_ext e5 hB4);have hB5:=Nat.le_trans hB4 e5.size;obtain⟨g5,rfl⟩:=own_ptr o5 (blkC_pos bz);go_wp2_with (at_builtin;refine wpList_appk _ rfl o4' hB5 _ _ 40 rfl (.agg #[.int .i64 0,.int .i64 0]) 16 Tryz.underlying40 info_Bin rfl (by decide) rfl _ _ _ _ rfl o5.1 (o5.cells rfl) (one_ints _) (by omega) (by omega) ?_;intro v2 w2 own2 gr2 _;refine Hid.out ?_)
   refine Lib.hid ?_;obtain⟨a6,c6,rfl⟩:=owns_form own2;have F6:=F5.trans (FR.of_row o4' gr2 hB5);have o6:=ownc own2 (show _=(lvBn m (k+1)).map (Value.int .i64) by rw[HLs.out];simp);rw[HC.out]at o6⊢;clear own2 o5 o4' o4 F5 F4 e5 gr2 I4;go_wp2;go_roundw
   case rel=>exact⟨k+1,by omega,by go_num,o6,F6⟩
   case measure=>simp[intOf] <;> omega
  ·have HKR:=Lib.hid (show k=4 by omega);have hd:decide ((k:Int)<4)=false:=by simp;omega
   have H1:=Lib.hid (show lvNn m k=macN m by rw[HKR.out,macN,if_neg HK0.out]);have H2:=Lib.hid (show lvBn m k=macL m by rw[HKR.out,macL,if_neg HK0.out]);rw[H1.out,H2.out]at o4;rw[H1.out];have hlo:=F4.lo;go_wp2;go_ret
   exact⟨_,_,rfl,owns_mono o4 (by have:=HBx.out;omega),Below.trans E3 (hlo.mono (by have:=HBx.out;omega))⟩
theorem l10Macro_A (m:Mac) (w:World) (hm:m.ok) (hv:m.valid) (h1:m.kind=2) :
 Calls Tryz.prog 99 #[.agg (ic m.zs),.bool false] w fun e w'=>∃ a c,e= .returned (.slice a (macN m) c)∧w'.ownsRow w.heap.size 133 2 (.slice a (macN m) c) (macN m) ((macL m).map (Value.int .i64))∧Ext w w':=by
 have Hl:=Lib.hid (Mac.zs_len hm);have Hm:=Lib.hid hm;have HV:=Lib.hid hv;have HK0:=Lib.hid (show m.kind≠0 by rw[h1];decide);have HK1:=Lib.hid h1;obtain⟨Bx,hBx⟩:∃ Bx,Bx=w.heap.size:=⟨_,rfl⟩;have E0:=(Ext.alloc w (.cells (ic m.zs) 32)).trans (Ext.alloc _ (.cells #[] 133));have I0:=(IB.new w 32 m.zs).alloc (.cells #[] 133);have o0:=World.ownsRow_made (base:=Bx+1) (e:=133) (size:=2) (w.alloc (.cells (ic m.zs) 32)) #[] 0 (by simp[hBx]) (by simp) rfl;have z0:Bx+1≤((w.alloc (.cells (ic m.zs) 32)).alloc (.cells #[] 133)).heap.size:=by simp[hBx]
 rw[World.size_alloc]at o0;have hk:=I0.cell (i:=0) (by rw[Mac.zs_len hm];omega);rw[Mac.zs_kind,h1]at hk;rw[←hBx]at I0 o0 hk;have HBx:=Lib.hid hBx;have HMI:=Lib.hid (show lvBn m 0 = [0,1,1,1]++mdL m 4 by rw[lvBn,miL,if_neg (by rw[h1];decide),hdL,h1];simp);have HMN:=Lib.hid (show lvNn m 0=2+mdN m 4 by rw[lvNn,miN,if_neg (by rw[h1];decide)]);clear hm hv h1;go_enter Tryz.func99,Tryz.ntmps99
 go_upto_region 2 with fail
 try simp only[World.size_alloc]
 rw[←hBx];clear hBx;generalize (w.alloc (.cells (ic m.zs) 32)).alloc (.cells #[] 133)=w1 at *;go_wp2_with (at_builtin;refine wpList_appk _ rfl (o0.alloc _) (by simp;omega) _ _ 40 rfl (.agg #[.int .i64 0,.int .i64 0]) 16 Tryz.underlying40 info_Bin rfl (by decide) rfl ⟨w1.heap.size,0,none⟩ 2 2 [.int .i64 0,.int .i64 1,.int .i64 1,.int .i64 _] rfl rfl ((Sl_new w1 [.int .i64 0,.int .i64 1,.int .i64 1,.int .i64 _] 133).cellsOf _ (by simp)) (by intro u hu;simp at hu;rcases hu with rfl|rfl|rfl|rfl <;> rfl) (by omega) (by omega) ?_;intro v2 w2 own2 gr2 _;refine Hid.out ?_)
 refine Lib.hid ?_;rw[show 0+2=2 from rfl]at own2;try rw[show 0+2=2 from rfl]
 obtain⟨a2,c2,rfl⟩:=owns_form own2;have F2:=(FR.of_ext (B:=Bx+1) (T:=133) (Ext.alloc w1 (.cells #[.int .i64 0,.int .i64 1,.int .i64 1,.int .i64 _] 133)) z0).trans (FR.of_row (o0.alloc _) gr2 (by simp;omega));have E2:Ext w w2:=Below.trans E0 (F2.lo.mono (by have:=HBx.out;omega));have z2:=Nat.le_trans z0 F2.size;have I2:=F2.ib I0 (by decide);have hk2:=I2.cell (i:=0) (by rw[Hl.out];omega);rw[Mac.zs_kind,HK1.out]at hk2;have o2:=ownc own2 (show _=([0,1,1,1]++mdL m 0:List Int).map (Value.int .i64) by simp[mdL]);clear own2 gr2 F2 E0 I0 o0 z0 hk;have hke:((2:Int) == 1)=false:=rfl;have F0:=FR.refl (Bx+1) 133 w2;go_wp2_with fail
 clear hk2 hke;go_loopw [5,6] (fun v y wr=>∃ k:Nat,k≤4∧y= .int .i64 k∧wr.ownsRow (Bx+1) 133 2 v (2+mdN m k) (([0,1,1,1]++mdL m k).map (Value.int .i64))∧FR (Bx+1) 133 w2 wr) (fun _ y _=>4-(intOf y).toNat)
 case atStart=>exact⟨0,by omega,rfl,o2,F0⟩
 case round =>
  obtain⟨k,hk,rfl,o4,F4⟩:=hrel;clear o2 F0;obtain⟨a4,c4,rfl⟩:=owns_form o4;have hB4:=Nat.le_trans z2 F4.size
  by_cases hlt:k<4
  ·have hd:decide ((k:Int)<4)=true:=by simp;omega
   obtain⟨z,ez,lz⟩:=md_rng HV.out HK1.out hlt;have hmn:=mdN_le HV.out HK1.out k (by omega);have q1:=numN_le (show z<32768 by omega);have p1:=numN_pos z;have cz:=(F4.ib I2 (by decide)).cell (i:=3+k) (by rw[Hl.out];omega);rw[Mac.nth_mode Hm.out k hlt,ez]at cz;have HLs:=Lib.hid (show mdL m (k+1)=mdL m k++numL z 9 by rw[mdL,ez];simp);have HC:=Lib.hid (show 2+mdN m k+numN z=2+mdN m (k+1) by rw[mdN,ez];simp;omega);clear ez;go_wp2_with fail
   refine(l10Number_at z 9 9 rfl _ (by omega) (by omega)).mono ?_
   rintro e w5 ⟨a5,c5,rfl,o5,e5⟩
   obtain⟨g5,rfl⟩:=own_ptr o5 p1;have o4':=owns_ext o4 e5;have F5:=F4.trans (FR.of_ext e5 hB4);have hB5:=Nat.le_trans hB4 e5.size;go_wp2_with (at_builtin;refine wpList_appk _ rfl o4' hB5 _ _ 40 rfl (.agg #[.int .i64 0,.int .i64 0]) 16 Tryz.underlying40 info_Bin rfl (by decide) rfl _ _ _ _ rfl o5.1 (o5.cells rfl) (one_ints _) (by omega) (by omega) ?_;intro v2 w6 own2 gr2 _;refine Hid.out ?_)
   refine Lib.hid ?_;obtain⟨a6,c6,rfl⟩:=owns_form own2;have F6:=F5.trans (FR.of_row o4' gr2 hB5);have o6:=ownc own2 (show _=([0,1,1,1]++mdL m (k+1)).map (Value.int .i64) by rw[HLs.out];simp);rw[HC.out]at o6⊢;clear own2 o5 o4' o4 F5 F4 e5 gr2 cz;go_wp2;go_roundw
   case rel=>exact⟨k+1,by omega,by go_num,o6,F6⟩
   case measure=>simp[intOf] <;> omega
  ·have HKR:=Lib.hid (show k=4 by omega);have hd:decide ((k:Int)<4)=false:=by simp;omega
   have H1:=Lib.hid (show 2+mdN m k=lvNn m 0 by rw[HKR.out,HMN.out]);have H2:=Lib.hid (show [0,1,1,1]++mdL m k=lvBn m 0 by rw[HKR.out,HMI.out]);rw[H1.out,H2.out]at o4;rw[H1.out];obtain⟨w3,hw3⟩:∃ w3,w3=wr:=⟨_,rfl⟩;rw[←hw3]at o4 F4 hB4⊢;clear hw3;have E3:Ext w w3:=Below.trans E2 (F4.lo.mono (by have:=HBx.out;omega));have z3:=hB4;have I3:=F4.ib I2 (by decide);have o3:=o4;clear o4 F4 hB4 E2 I2;have F3:=FR.refl (Bx+1) 133 w3;go_wp2_with fail
   go_loopw [5,7] (fun v y wr=>∃ k:Nat,k≤4∧y= .int .i64 k∧wr.ownsRow (Bx+1) 133 2 v (lvNn m k) ((lvBn m k).map (Value.int .i64))∧FR (Bx+1) 133 w3 wr) (fun _ y _=>4-(intOf y).toNat)
   case atStart=>exact⟨0,by omega,rfl,o3,F3⟩
   case round =>
    obtain⟨k,hk,rfl,o4,F4⟩:=hrel;clear o3 F3;obtain⟨a4,c4,rfl⟩:=owns_form o4;have hB4:=Nat.le_trans z3 F4.size
    by_cases hlt:k<4
    ·have hd:decide ((k:Int)<4)=true:=by simp;omega
     obtain⟨l1,l2⟩:=lv_bd Hm.out HV.out hlt;have hbc:=blkC_le l1 l2;have hln:=lvNn_le Hm.out HV.out HK0.out k (by omega);have I4:=F4.ib I3 (by decide);have HLs:=Lib.hid (show lvBn m (k+1)=lvBn m k++blkB (sub m.lv (k*16) 16)from rfl);have HC:=Lib.hid (show lvNn m k+blkC (sub m.lv (k*16) 16)=lvNn m (k+1)from rfl);have HBK:=Lib.hid (fun w=>l10Block_any (sub m.lv (k*16) 16) w l1 l2);have HZB:=Lib.hid (Mac.zs_blk Hm.out k hlt);generalize sub m.lv (k*16) 16=bz at *;clear l1 l2;go_wp2_with (refine wpList_iload 29 _ rfl rfl I4 (7+k*16) 16 rfl _ Tryz.underlying29 rfl size_A16s (by rw[Hl.out];omega) _ (by rw[HZB.out]) ?_)
     refine(HBK.out _).mono ?_
     rintro e w5 ⟨a5,c5,rfl,o5,e5⟩
     have o4':=owns_ext o4 e5;have F5:=F4.trans (FR.of_ext e5 hB4);have hB5:=Nat.le_trans hB4 e5.size;obtain⟨g5,rfl⟩:=own_ptr o5 (blkC_pos bz);go_wp2_with (at_builtin;refine wpList_appk _ rfl o4' hB5 _ _ 40 rfl (.agg #[.int .i64 0,.int .i64 0]) 16 Tryz.underlying40 info_Bin rfl (by decide) rfl _ _ _ _ rfl o5.1 (o5.cells rfl) (one_ints _) (by omega) (by omega) ?_;intro v2 w2 own2 gr2 _;refine Hid.out ?_)
     refine Lib.hid ?_;obtain⟨a6,c6,rfl⟩:=owns_form own2;have F6:=F5.trans (FR.of_row o4' gr2 hB5);have o6:=ownc own2 (show _=(lvBn m (k+1)).map (Value.int .i64) by rw[HLs.out];simp);rw[HC.out]at o6⊢;clear own2 o5 o4' o4 F5 F4 e5 gr2 I4;go_wp2;go_roundw
     case rel=>exact⟨k+1,by omega,by go_num,o6,F6⟩
     case measure=>simp[intOf] <;> omega
    ·have HKR:=Lib.hid (show k=4 by omega);have hd:decide ((k:Int)<4)=false:=by simp;omega
     have H1:=Lib.hid (show lvNn m k=macN m by rw[HKR.out,macN,if_neg HK0.out]);have H2:=Lib.hid (show lvBn m k=macL m by rw[HKR.out,macL,if_neg HK0.out]);rw[H1.out,H2.out]at o4;rw[H1.out];have hlo:=F4.lo;go_wp2;go_ret
     exact⟨_,_,rfl,owns_mono o4 (by have:=HBx.out;omega),Below.trans E3 (hlo.mono (by have:=HBx.out;omega))⟩
/-- The reference's decisions for a macroblock. -/
theorem l10Macro_any (m:Mac) (w:World) (hm:m.ok) (hv:m.valid) :
 Calls Tryz.prog 99 #[.agg (ic m.zs),.bool false] w fun e w'=>∃ a c,e= .returned (.slice a (macN m) c)∧w'.ownsRow w.heap.size 133 2 (.slice a (macN m) c) (macN m) ((macL m).map (Value.int .i64))∧Ext w w':=by
 by_cases h0:m.kind=0
 ·exact l10Macro_skip m w hm h0
 ·by_cases h1:m.kind=1
  ·exact l10Macro_I m w hm hv h1
  ·exact l10Macro_A m w hm hv (by have:=hv.1;omega)
end Go.Proofs.YtbnhaegidfbgbaaGreatDoor
