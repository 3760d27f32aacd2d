/- The runs in a block of levels: a range over a function; how many levels are not zero. | The scan order and the runs: the reference. | The runs of a block and their decisions: the reference. | The decisions for a block: the reference. | The decisions for a macroblock: the reference. | The decisions for a macroblock: the reference, intra. | The decisions for a macroblock of an intra picture: the reference. | The reference's EncodeSlice. | Drawing macroblocks: l20Macros. | Drawn coded pictures: what their slices read as. -/
import Derived.Test.YtmokncpppmchfaaDoorQs5
set_option linter.unusedVariables false
set_option linter.unusedSimpArgs false
set_option maxRecDepth 100000
set_option maxHeartbeats 4000000
namespace Go.Proofs.YtmokncpppmchfaaDoor
open Go.RowKit
attribute [local go_sem] Oper.semAt_some
/-- Behind k levels of the scan order: how many zeros since the last run, the runs so far. -/
def runT (zs:List Int):Nat→Nat×List (Int×Int)
 | 0=>(0,[])
 | k+1=>if nth zs (nth scanL k).toNat=0 then((runT zs k).1+1,(runT zs k).2)else(0,(runT zs k).2 ++ [(((runT zs k).1:Int),nth zs (nth scanL k).toNat)])
/-- The runs of a block. -/
def runsL (zs:List Int):List (Int×Int):=(runT zs 16).2
theorem runT_le (zs:List Int) (k:Nat):(runT zs k).1≤k:=by
 induction k with
 | zero=>exact Nat.le_refl _
 | succ k ih=>unfold runT;split <;> simp <;> omega
theorem runT_len (zs:List Int) (k:Nat):(runT zs k).2.length≤k:=by
 induction k with
 | zero=>exact Nat.le_refl _
 | succ k ih=>unfold runT;split <;> simp <;> omega
theorem runsL_len (zs:List Int):(runsL zs).length≤16:=runT_len zs 16
theorem scan_rng : ∀ k,k<16→0≤nth scanL k∧nth scanL k≤15:=by decide
/-- A run of levels within B. -/
def rOk (B:Int) (x:Int×Int):Prop:=0≤x.1∧x.1≤15∧x.2≠0 ∧ -B≤x.2∧x.2≤B
abbrev Rn (B : Int) := { x : Int × Int // rOk B x }
def encR {B:Int} (x:Rn B):Array Value := #[.agg #[.int .i64 x.1.1,.int .i64 x.1.2]]
end Go.Proofs.YtmokncpppmchfaaDoor
namespace Go.Proofs.YtmokncpppmchfaaDoor
open Go.RowKit
/-- Diagonal d, its first j candidates, behind l. -/
def spY (d j:Nat):Nat:=if d%2=0 then 3-j else j
def spIn (d:Nat) (l:List Int):Nat→List Int
 | 0=>l
 | j+1=>if spY d j≤d∧d-spY d j≤3 then spIn d l j ++ [4*(spY d j:Int)+d-(spY d j:Int)]else spIn d l j
def spOut : Nat→List Int
 | 0 => []
 | d+1=>spIn d (spOut d) 4
theorem spOut_all : spOut 7=scanL:=by decide
theorem sp_len : ∀ d,d<7→∀ j,j≤4→(spIn d (spOut d) j).length≤16:=by decide
theorem info_intU : (Tryd.prog.info? 3).map (fun i=>(i.zero,i.size,i.bytes))=some (some (.int .i64 0),1,8):=by kernel_rfl
theorem info_Run : (Tryd.prog.info? 107).map (fun i=>(i.zero,i.size,i.bytes))=some (some (.agg #[.int .i64 0,.int .i64 0]),2,16):=by kernel_rfl
theorem spec_ScanOrder_any (w:World) :
 Calls Tryd.prog 69 #[] w fun e w'=>∃ a c,e= .returned (.slice a 16 c)∧w'.ownsRow w.heap.size 3 1 (.slice a 16 c) 16 (scanL.map (Value.int .i64))∧Ext w w':=by
 obtain⟨W,hW⟩:∃ W,W=w.heap.size:=⟨_,rfl⟩;have F0:FR w.heap.size 3 w (w.alloc (.cells #[] 3)):=FR.of_ext (Ext.alloc w _) (Nat.le_refl _);have o0:=World.ownsRow_made (base:=w.heap.size) (e:=3) (size:=1) w #[] 0 (Nat.le_refl _) (by simp) rfl;rw[←hW]at F0 o0⊢;have hWw:W≤w.heap.size:=by omega
 have HW:=Lib.hid hW;go_enter Tryd.func69,Tryd.ntmps69
 go_wp2_with fail
 rw[←hW];clear hW;go_loopw [1,2] (fun v y wr=>∃ d:Nat,d≤7∧y= .int .i64 d∧wr.ownsRow W 3 1 v (spOut d).length ((spOut d).map (Value.int .i64))∧FR W 3 w wr) (fun _ y _=>7-(intOf y).toNat)
 case atStart=>exact⟨0,by omega,rfl,by simpa [spOut] using o0,F0⟩
 case round =>
  obtain⟨d,hd,rfl,o1,F1⟩:=hrel;clear o0 F0;obtain⟨a1,c1,rfl⟩:=owns_form o1
  by_cases hlt:d<7
  ·have hd7:decide ((d:Int)<7)=true:=by simp;omega
   go_wp2_with fail
   go_loopw [1,3] (fun v y wr=>∃ j:Nat,j≤4∧y= .int .i64 j∧wr.ownsRow W 3 1 v (spIn d (spOut d) j).length ((spIn d (spOut d) j).map (Value.int .i64))∧FR W 3 w wr) (fun _ y _=>4-(intOf y).toNat)
   case atStart=>exact⟨0,by omega,rfl,o1,F1⟩
   case round =>
    obtain⟨j,hj,rfl,o2,F2⟩:=hrel;clear o1 F1;obtain⟨a2,c2,rfl⟩:=owns_form o2;have hB2:=Nat.le_trans hWw F2.size
    by_cases hlt2:j<4
    ·have hd4:decide ((j:Int)<4)=true:=by simp;omega
     have hln:=sp_len d hlt j (by omega);have HST:=Lib.hid (show spIn d (spOut d) (j+1)=if spY d j≤d∧d-spY d j≤3 then spIn d (spOut d) j ++ [4*(spY d j:Int)+d-(spY d j:Int)]else spIn d (spOut d) j from rfl);obtain⟨L,hL⟩:∃ L,L=spIn d (spOut d) j:=⟨_,rfl⟩;rw[←hL]at HST o2 hln⊢;have hyr:spY d j≤3:=by unfold spY;split <;> omega
     have hyd:(d%2=0∧spY d j=3-j)∨(d%2=1∧spY d j=j):=by
      unfold spY
      by_cases h:d%2=0
      ·rw[if_pos h];exact .inl ⟨h,rfl⟩
      ·rw[if_neg h];exact .inr ⟨by omega,rfl⟩
     generalize spY d j=y at *;clear hL;rcases hyd with⟨he,rfl⟩|⟨he,rfl⟩
     ·have hdm:((d:Int).tmod 2 == 0)=true:=by
       rw[Int.tmod_eq_emod_of_nonneg (by omega)];simp;omega
      go_wp2_with fail
      by_cases hin:3-j≤d∧d-(3-j)≤3
      ·refine(l1In_yes ((d:Int)-(3-(j:Int))) 0 3 _ (by omega) (by omega)).mono ?_
       rintro e w3 ⟨rfl,rfl⟩
       go_wp2_with (at_builtin;refine wpList_app _ o2 hB2 _ rfl _ _ 48 rfl (.int .i64 0) 8 Tryd.underlying48 info_intU rfl rfl rfl rfl (by omega) (by omega) ?_;intro v3 w3 own3 gr3 _;refine Hid.out ?_)
       refine Lib.hid ?_;obtain⟨a3,c3,rfl⟩:=owns_form own3;have F3:=F2.trans (FR.of_row o2 gr3 hB2);have HN:=Lib.hid (show spIn d (spOut d) (j+1)=L ++ [4*(3-(j:Int))+d-(3-(j:Int))] by rw[HST.out,if_pos hin];congr 2;omega);clear HST;go_wp2;go_roundw
       case rel=>exact⟨j+1,by omega,by go_num,by rw[HN.out,List.length_append,List.map_append];exact own3,F3⟩
       case measure=>simp[intOf] <;> omega
      ·refine(l1In_no ((d:Int)-(3-(j:Int))) 0 3 _ (by omega)).mono ?_
       rintro e w3 ⟨rfl,rfl⟩
       have HN:=Lib.hid (show spIn d (spOut d) (j+1)=L by rw[HST.out,if_neg hin]);clear HST;go_wp2;go_roundw
       case rel=>exact⟨j+1,by omega,by go_num,by rw[HN.out];exact o2,F2⟩
       case measure=>simp[intOf] <;> omega
     ·have hdm:((d:Int).tmod 2 == 0)=false:=by
       rw[Int.tmod_eq_emod_of_nonneg (by omega)];simp;omega
      go_wp2_with fail
      by_cases hin:y≤d∧d-y≤3
      ·refine(l1In_yes ((d:Int)-(y:Int)) 0 3 _ (by omega) (by omega)).mono ?_
       rintro e w3 ⟨rfl,rfl⟩
       go_wp2_with (at_builtin;refine wpList_app _ o2 hB2 _ rfl _ _ 48 rfl (.int .i64 0) 8 Tryd.underlying48 info_intU rfl rfl rfl rfl (by omega) (by omega) ?_;intro v3 w3 own3 gr3 _;refine Hid.out ?_)
       refine Lib.hid ?_;obtain⟨a3,c3,rfl⟩:=owns_form own3;have F3:=F2.trans (FR.of_row o2 gr3 hB2);have HN:=Lib.hid (show spIn d (spOut d) (y+1)=L ++ [4*(y:Int)+d-(y:Int)] by rw[HST.out,if_pos hin]);clear HST;go_wp2;go_roundw
       case rel=>exact⟨y+1,by omega,by go_num,by rw[HN.out,List.length_append,List.map_append];exact own3,F3⟩
       case measure=>simp[intOf] <;> omega
      ·refine(l1In_no ((d:Int)-(y:Int)) 0 3 _ (by omega)).mono ?_
       rintro e w3 ⟨rfl,rfl⟩
       have HN:=Lib.hid (show spIn d (spOut d) (y+1)=L by rw[HST.out,if_neg hin]);clear HST;go_wp2;go_roundw
       case rel=>exact⟨y+1,by omega,by go_num,by rw[HN.out];exact o2,F2⟩
       case measure=>simp[intOf] <;> omega
    ·have HJ:=Lib.hid (show j=4 by omega);have hd4:decide ((j:Int)<4)=false:=by simp;omega
     have HO:=Lib.hid (show spIn d (spOut d) j=spOut (d+1) by rw[HJ.out];rfl);rw[HO.out]at o2⊢;go_wp2;go_roundw
     case rel=>exact⟨d+1,by omega,by go_num,o2,F2⟩
     case measure=>simp[intOf] <;> omega
  ·have HD:=Lib.hid (show d=7 by omega);have hd7:decide ((d:Int)<7)=false:=by simp;omega
   have HO:=Lib.hid (show spOut d=scanL by rw[HD.out];exact spOut_all);rw[HO.out,show scanL.length=16 from rfl]at o1⊢;go_wp2;go_ret
   exact⟨_,_,rfl,o1,by show Below w.heap.size w wr;rw[←HW.out];exact F1.lo⟩
theorem FR.owns {b0 T U b s n:Nat} {v:Value} {xs:List Value} {w w':World} (f:FR b0 T w w') (h:w.ownsRow b U s v n xs) (hne:U≠T):w'.ownsRow b U s v n xs:=by
 refine⟨h.1,?_⟩;rcases h.2 with h2|⟨g,cap,cur,hv,hb,hg,rest⟩
 ·exact .inl h2
 ·exact .inr ⟨g,cap,cur,hv,hb,f.blk hg hne,rest⟩
theorem own_ptr {w:World} {b U s n:Nat} {a:Option Addr} {c:Nat} {xs:List Value} (h:w.ownsRow b U s (.slice a n c) n xs) (hn:0<n):∃ g,a=some ⟨g,0,none⟩:=by
 rcases h.2 with⟨-,h0⟩|⟨g,cap,cur,hv,-⟩
 ·omega
 ·simp only[Value.slice.injEq]at hv;exact⟨g,hv.1⟩
theorem one_ints (zs:List Int):∀ u∈zs.map (Value.int .i64),u.oneCell'=true:=by
 intro u hu;obtain⟨z,-,rfl⟩:=List.mem_map.1 hu;rfl
theorem run_new (w:World) (c b:Int):Sl (w.alloc (.cells #[.int .i64 c,.int .i64 b] 107)) (some ⟨w.heap.size,0,none⟩) 2 [.int .i64 c,.int .i64 b]:=Sl_new w [.int .i64 c,.int .i64 b] 107
/-- Runs as numbers. -/
def flatR (l:List (Int×Int)):List Int:=l.flatMap fun r => [r.1,r.2]
theorem flatR_snoc (l:List (Int×Int)) (r:Int×Int):flatR (l ++ [r])=flatR l ++ [r.1,r.2]:=by simp[flatR]
theorem flatR_len : ∀ l:List (Int×Int),(flatR l).length=l.length*2
 | []=>rfl
 | r::l=>by
  have:=flatR_len l;simp only[flatR,List.flatMap_cons,List.length_append,List.length_cons,List.length_nil]at this⊢;omega
theorem nth_flatR : ∀(l:List (Int×Int)) (k:Nat),k<l.length→nth (flatR l) (k*2)=(l.getD k (0,0)).1∧nth (flatR l) (k*2+1)=(l.getD k (0,0)).2
 | [],k,h=>by simp at h
 | r::l,0,_=>⟨rfl,rfl⟩
 | r::l,k+1,h=>by
  have ih:=nth_flatR l k (by simpa using h);have e:flatR (r::l)=r.1::r.2::flatR l:=rfl;rw[e,show(k+1)*2=k*2+1+1 by omega];exact ih
/-- The runs' numbers are in range. -/
theorem runT_rng {zs:List Int} {Bd:Int} (hl:zs.length=16) (hB:bdI Bd zs):∀ k,k≤16→∀ j,j<(runT zs k).2.length→0≤((runT zs k).2.getD j (0,0)).1∧((runT zs k).2.getD j (0,0)).1≤15∧((runT zs k).2.getD j (0,0)).2≠0 ∧ -Bd≤((runT zs k).2.getD j (0,0)).2∧((runT zs k).2.getD j (0,0)).2≤Bd
 | 0,_,j,h=>by simp[runT]at h
 | k+1,hk,j,h=>by
  have ih:=runT_rng hl hB k (by omega);have hz:=runT_le zs k;unfold runT at h⊢
  by_cases h0:nth zs (nth scanL k).toNat=0
  ·rw[if_pos h0]at h⊢;exact ih j h
  ·rw[if_neg h0]at h⊢;simp only[List.length_append,List.length_cons,List.length_nil]at h
   by_cases hj:j<(runT zs k).2.length
   ·have e:((runT zs k).2 ++ [(((runT zs k).1:Int),nth zs (nth scanL k).toNat)]).getD j (0,0)=(runT zs k).2.getD j (0,0):=by
     simp[List.getD,List.getElem?_append_left hj]
    rw[e];exact ih j hj
   ·have hj2:j=(runT zs k).2.length:=by omega
    have e:((runT zs k).2 ++ [(((runT zs k).1:Int),nth zs (nth scanL k).toNat)]).getD j (0,0)=(((runT zs k).1:Int),nth zs (nth scanL k).toNat):=by
     rw[hj2];simp[List.getD]
    obtain⟨s0,s1⟩:=scan_rng k (by omega);have hb:=hB (nth scanL k).toNat (by omega);rw[e];exact⟨by omega,by omega,h0,hb.1,hb.2⟩
/-- The decisions for a block: the first k runs. -/
def bkL (zs:List Int):Nat→List Int
 | 0=>numL (runsL zs).length 16
 | k+1=>bkL zs k++(numL ((runsL zs).getD k (0,0)).1.toNat 23++numL (sidx ((runsL zs).getD k (0,0)).2-1).toNat 30)
def bkN (zs:List Int):Nat→Nat
 | 0=>numN (runsL zs).length
 | k+1=>bkN zs k+(numN ((runsL zs).getD k (0,0)).1.toNat+numN (sidx ((runsL zs).getD k (0,0)).2-1).toNat)
/-- The decisions for a block. -/
def blkB (zs:List Int):List Int:=bkL zs (runsL zs).length
def blkC (zs:List Int):Nat:=bkN zs (runsL zs).length
theorem runL_rng {zs:List Int} (hl:zs.length=16) (hB:bdI 4080 zs) {k:Nat} (hk:k<(runsL zs).length):∃ z s:Nat,((runsL zs).getD k (0,0)).1=z∧z≤15∧sidx ((runsL zs).getD k (0,0)).2-1=s∧s≤8160 ∧ -4080≤((runsL zs).getD k (0,0)).2∧((runsL zs).getD k (0,0)).2≤4080:=by
 obtain⟨h1,h2,h3,h4,h5⟩:=runT_rng hl hB 16 (Nat.le_refl _) k hk;show ∃ z s:Nat,((runT zs 16).2.getD k (0,0)).1=z∧z≤15∧sidx ((runT zs 16).2.getD k (0,0)).2-1=s∧s≤8160 ∧ -4080≤((runT zs 16).2.getD k (0,0)).2∧((runT zs 16).2.getD k (0,0)).2≤4080;generalize (runT zs 16).2.getD k (0,0)=r at *;refine⟨r.1.toNat,(sidx r.2-1).toNat,by omega,by omega,?_,?_,h4,h5⟩
 ·unfold sidx;split <;> omega
 ·unfold sidx;split <;> omega
theorem bkN_le {zs:List Int} (hl:zs.length=16) (hB:bdI 4080 zs):∀ k,k≤(runsL zs).length→bkN zs k≤31+k*62
 | 0,_=>by have:=runsL_len zs;exact numN_le (by omega)
 | k+1,hk=>by
  have ih:=bkN_le hl hB k (by omega);obtain⟨z,s,e1,h1,e2,h2,-,-⟩:=runL_rng hl hB (show k<(runsL zs).length by omega);have q1:numN ((runsL zs).getD k (0,0)).1.toNat≤31:=numN_le (by omega);have q2:numN (sidx ((runsL zs).getD k (0,0)).2-1).toNat≤31:=numN_le (by omega);rw[bkN];omega
theorem blkC_le {zs:List Int} (hl:zs.length=16) (hB:bdI 4080 zs):blkC zs≤1023:=by
 have h1:=bkN_le hl hB _ (Nat.le_refl _);have h2:=runsL_len zs;unfold blkC;omega
theorem spec_RunsOf_any (zs:List Int) (w:World) (hl:zs.length=16) :
 Calls Tryd.prog 67 #[.agg (ic zs)] w fun e w'=>∃ a c,e= .returned (.slice a (runsL zs).length c)∧w'.ownsRow w.heap.size 107 2 (.slice a (runsL zs).length c) (runsL zs).length ((flatR (runsL zs)).map (Value.int .i64))∧Ext w w':=by
 have Hl:=Lib.hid hl;obtain⟨Bx,hBx⟩:∃ Bx,Bx=w.heap.size:=⟨_,rfl⟩;have E0:=(Ext.alloc w (.cells (ic zs) 83)).trans (Ext.alloc _ (.cells #[] 107));have I0:=(IB.new w 83 zs).alloc (.cells #[] 107);have o0:=World.ownsRow_made (base:=Bx+1) (e:=107) (size:=2) (w.alloc (.cells (ic zs) 83)) #[] 0 (by simp[hBx]) (by simp) rfl;have z0:Bx+1≤((w.alloc (.cells (ic zs) 83)).alloc (.cells #[] 107)).heap.size:=by simp[hBx]
 rw[World.size_alloc]at o0;rw[←hBx]at I0 o0;have HB:=Lib.hid hBx;clear hl;go_enter Tryd.func67,Tryd.ntmps67
 go_wp2_with fail
 try simp only[World.size_alloc]
 rw[←hBx];clear hBx;generalize (w.alloc (.cells (ic zs) 83)).alloc (.cells #[] 107)=w1 at *;refine(spec_ScanOrder_any _).mono ?_
 rintro e w2 ⟨ga,gc,rfl,og,e2⟩
 obtain⟨g,rfl⟩:=own_ptr og (by omega);have I2:=I0.ext e2;have o2:=owns_ext o0 e2;have E2:=E0.trans e2;have z2:=Nat.le_trans z0 e2.size;have F2:=FR.refl (Bx+1) 107 w2;have oz:=World.ownsRow_nil w2 0 3 1;clear I0 o0 E0 z0 e2;go_wp2_with fail
 go_loopw [3,5,6] (fun v zr y wr=>∃ k:Nat,k≤16∧y= .int .i64 k∧zr= .int .i64 ((runT zs k).1:Nat)∧wr.ownsRow (Bx+1) 107 2 v (runT zs k).2.length ((flatR (runT zs k).2).map (Value.int .i64))∧FR (Bx+1) 107 w2 wr) (fun _ _ y _=>16-(intOf y).toNat)
 case atStart=>exact⟨0,by omega,rfl,rfl,o2,F2⟩
 case round =>
  obtain⟨k,hk,rfl,rfl,o3,F3⟩:=hrel;clear o2 F2;obtain⟨a3,c3,rfl⟩:=owns_form o3;have hB3:=Nat.le_trans z2 F3.size
  by_cases hlt:k<16
  ·have hd:decide ((k:Int)<16)=true:=by simp;omega
   obtain⟨s0,s1⟩:=scan_rng k hlt;have HST:=Lib.hid (show runT zs (k+1)=if nth zs (nth scanL k).toNat=0 then((runT zs k).1+1,(runT zs k).2)else(0,(runT zs k).2 ++ [(((runT zs k).1:Int),nth zs (nth scanL k).toNat)])from rfl);have hz:=runT_le zs k;have hln:=runT_len zs k;obtain⟨q,hq⟩:∃ q:Nat,nth scanL k=(q:Int):=⟨(nth scanL k).toNat,by omega⟩;rw[hq,Int.toNat_natCast]at HST;rw[hq]at s0 s1;have og3:=Sl.of_owns (F3.owns og (by decide));obtain⟨g1,o1,he,hcg⟩:=og3.int hlt;rw[hq]at hcg;cases he;rw[Nat.zero_add]at hcg;have hcl:=(F3.ib I2 (by decide)).cell (i:=q) (by rw[Hl.out];omega);obtain⟨z,hzz⟩:∃ z,z=(runT zs k).1:=⟨_,rfl⟩;obtain⟨R,hR⟩:∃ R,R=(runT zs k).2:=⟨_,rfl⟩;rw[←hzz,←hR]at HST;rw[←hzz]at hz⊢;rw[←hR]at o3 hln⊢;generalize nth zs q=lv at *;clear hzz hR hq og3;have hq16:(q:Int)<16:=by omega
   by_cases h0:lv=0
   ·subst h0;have HS:=Lib.hid (show runT zs (k+1)=(z+1,R) by rw[HST.out,if_pos rfl]);clear HST;go_wp2;go_roundw
    case rel=>exact⟨k+1,by omega,by go_num,by rw[HS.out];go_num,by rw[HS.out];exact o3,F3⟩
    case measure=>simp[intOf] <;> omega
   ·have hd0:(lv == 0)=false:=by simpa using h0
    have HS:=Lib.hid (show runT zs (k+1)=(0,R ++ [((z:Int),lv)]) by rw[HST.out,if_neg h0]);clear HST;go_wp2_with (at_builtin;refine wpList_appk _ rfl (o3.alloc _) (by simp;omega) _ _ 104 rfl (.agg #[.int .i64 0,.int .i64 0]) 16 Tryd.underlying104 info_Run rfl (by decide) rfl ⟨wr.heap.size,0,none⟩ 1 1 [.int .i64 _,.int .i64 _] rfl rfl ((run_new wr _ _).cellsOf _ (by simp)) (by intro u hu;simp at hu;rcases hu with rfl|rfl <;> rfl) (by omega) (by omega) ?_;intro v2 w2 own2 gr2 _;refine Hid.out ?_)
    refine Lib.hid ?_;obtain⟨a4,c4,rfl⟩:=owns_form own2;have F4:=(F3.trans (FR.of_ext (Ext.alloc wr (.cells #[_,_] 107)) hB3)).trans (FR.of_row (o3.alloc _) gr2 (by simp;omega));go_wp2;go_roundw
    case rel=>exact⟨k+1,by omega,by go_num,by rw[HS.out];rfl,by rw[HS.out,flatR_snoc,List.length_append,List.map_append];exact own2,F4⟩
    case measure=>simp[intOf] <;> omega
  ·have HK:=Lib.hid (show k=16 by omega);have hd:decide ((k:Int)<16)=false:=by simp;omega
   have HR:=Lib.hid (show(runT zs k).2=runsL zs by rw[HK.out];rfl);rw[HR.out]at o3⊢;have hlo:Below (Bx+1) w2 wr:=F3.lo;go_wp2;go_ret
   exact⟨_,_,rfl,owns_mono o3 (by have:=HB.out;omega),Below.trans E2 (hlo.mono (by have:=HB.out;omega))⟩
theorem numN_pos (n:Nat):0<numN n:=by unfold numN;omega
/-- An entry of a row of two numbers each. -/
theorem cell2 {w:World} {b U g n c:Nat} {l:List Int} (h:w.ownsRow b U 2 (.slice (some ⟨g,0,none⟩) n c) n (l.map (Value.int .i64))) {j:Nat} (hj:j<l.length):w.cell? ⟨g,j,none⟩=some (.int .i64 (nth l j)):=by
 have h1:=h.cells (g:=g) rfl j (.int .i64 (nth l j)) (by rw[List.getElem?_map,List.getElem?_eq_getElem hj,nth_eq _ _ hj];rfl);have e:(⟨g,0,none⟩:Addr).add j=⟨g,j,none⟩:=by unfold Addr.add;split <;> simp_all
 rwa [e]at h1
theorem l10Number_at (n b:Nat) (bi:Int) (hbi:bi=(b:Int)) (w:World) (hn:n<32768) (hb:b≤100) :
 Calls Tryd.prog 58 #[.int .i64 n,.int .i64 bi] w fun e w'=>∃ a c,e= .returned (.slice a (numN n) c)∧w'.ownsRow w.heap.size 93 2 (.slice a (numN n) c) (numN n) ((numL n b).map (Value.int .i64))∧Ext w w':=by
 subst hbi;exact l10Number_any n b w hn hb
theorem l10Block_any (zs:List Int) (w:World) (hl:zs.length=16) (hB:bdI 4080 zs) :
 Calls Tryd.prog 60 #[.agg (ic zs)] w fun e w'=>∃ a c,e= .returned (.slice a (blkC zs) c)∧w'.ownsRow w.heap.size 93 2 (.slice a (blkC zs) c) (blkC zs) ((blkB zs).map (Value.int .i64))∧Ext w w':=by
 have Hl:=Lib.hid hl;have HBd:=Lib.hid hB;have hR:=runsL_len zs;obtain⟨Bx,hBx⟩:∃ Bx,Bx=w.heap.size:=⟨_,rfl⟩;have E0:=Ext.alloc w (.cells (ic zs) 83);have I0:=IB.new w 83 zs;have z0:Bx+1≤(w.alloc (.cells (ic zs) 83)).heap.size:=by simp[hBx]
 have HBx:=Lib.hid hBx;clear hl hB;go_enter Tryd.func60,Tryd.ntmps60
 go_wp2_with (refine wpList_iload 83 _ rfl rfl I0 0 16 rfl _ Tryd.underlying83 rfl size_A16s (by rw[Hl.out];omega) _ (by rw[sub_all _ _ Hl.out]) ?_)
 try rw[←hBx]
 generalize w.alloc (.cells (ic zs) 83)=w1 at *;refine(spec_RunsOf_any zs _ Hl.out).mono ?_
 rintro e w2 ⟨ra,rc,rfl,or2,e2⟩
 have E2:=E0.trans e2;have z2:=Nat.le_trans z0 e2.size;obtain⟨R,hRR⟩:∃ R,R=(runsL zs).length:=⟨_,rfl⟩;rw[←hRR]at or2 hR⊢;have HRR:=Lib.hid hRR;have HC0:=Lib.hid (show numN R=bkN zs 0 by rw[hRR];rfl);have HL0:=Lib.hid (show numL R 16=bkL zs 0 by rw[hRR];rfl);clear hRR E0 I0 z0 e2 hBx;go_wp2_with fail
 refine(l10Number_at R 16 16 rfl _ (by omega) (by omega)).mono ?_
 rintro e w3 ⟨na,nc,rfl,on3,e3⟩
 have or3:=owns_ext or2 e3;have E3:=E2.trans e3;have z3:=Nat.le_trans z2 e3.size;have o3:=owns_mono on3 z2;have F3:=FR.refl (Bx+1) 93 w3;rw[HC0.out,HL0.out]at o3;rw[HC0.out];clear or2 E2 z2 e3 on3;go_wp2_with fail
 go_loopw [4,5] (fun v y wr=>∃ k:Nat,k≤R∧y= .int .i64 k∧wr.ownsRow (Bx+1) 93 2 v (bkN zs k) ((bkL zs k).map (Value.int .i64))∧FR (Bx+1) 93 w3 wr) (fun _ y _=>R-(intOf y).toNat)
 case atStart=>exact⟨0,by omega,rfl,o3,F3⟩
 case round =>
  obtain⟨k,hk,rfl,o4,F4⟩:=hrel;clear o3 F3;obtain⟨a4,c4,rfl⟩:=owns_form o4;have hB4:=Nat.le_trans z3 F4.size
  by_cases hlt:k<R
  ·have hd:decide ((k:Int)<R)=true:=by simp;omega
   obtain⟨z,s,e1,h1,e2,h2,h3,h4⟩:=runL_rng Hl.out HBd.out (show k<(runsL zs).length by rw[←HRR.out];exact hlt);have or4:=F4.owns or3 (by decide);obtain⟨g,rfl⟩:=own_ptr or4 (by omega);have hfl:=flatR_len (runsL zs);rw[←HRR.out]at hfl;obtain⟨n1,n2⟩:=nth_flatR (runsL zs) k (by rw[←HRR.out];exact hlt);have cz:=cell2 or4 (j:=k*2) (by omega);rw[n1,e1]at cz;obtain⟨lv,hlv⟩:∃ lv,lv=((runsL zs).getD k (0,0)).2:=⟨_,rfl⟩;have HC:=Lib.hid (show bkN zs (k+1)=bkN zs k+(numN z+numN s) by rw[bkN,e1,e2];simp);have HLs:=Lib.hid (show bkL zs (k+1)=bkL zs k++(numL z 23++numL s 30) by rw[bkL,e1,e2];simp);have hbn:=bkN_le Hl.out HBd.out k (by rw[←HRR.out];omega);have q1:=numN_le (show z<32768 by omega);have q2:=numN_le (show s<32768 by omega);have p1:=numN_pos z;have p2:=numN_pos s;have Hcl:=Lib.hid (fun(wx:World) (f:FR (Bx+1) 93 w3 wx)=>(show wx.cell? ⟨g,k*2+1,none⟩=some (.int .i64 lv) by rw[hlv,←n2];exact cell2 (f.owns or3 (by decide)) (by omega)));have HE2:=Lib.hid (show sidx lv-1=(s:Int) by rw[hlv];exact e2);rw[←hlv]at h3 h4;clear hlv e1 e2 n1 n2 hfl or4;go_wp2_with fail
   refine(l10Number_at z 23 23 rfl _ (by omega) (by omega)).mono ?_
   rintro e w5 ⟨a5,c5,rfl,o5,e5⟩
   obtain⟨g5,rfl⟩:=own_ptr o5 p1;have o4':=owns_ext o4 e5;have F5:=F4.trans (FR.of_ext e5 hB4);have hB5:=Nat.le_trans hB4 e5.size;go_wp2_with (at_builtin;refine wpList_appk _ rfl o4' hB5 _ _ 78 rfl (.agg #[.int .i64 0,.int .i64 0]) 16 Tryd.underlying78 info_Bin rfl (by decide) rfl _ _ _ _ rfl o5.1 (o5.cells rfl) (one_ints _) (by omega) (by omega) ?_;intro v2 w2 own2 gr2 _;refine Hid.out ?_)
   refine Lib.hid ?_;obtain⟨a6,c6,rfl⟩:=owns_form own2;have F6:=F5.trans (FR.of_row o4' gr2 hB5);have hB6:=Nat.le_trans hB5 gr2.size;have o6:=own2;have cl6:=Hcl.out _ F6;clear own2 o5 o4' o4 F5 F4 e5 gr2 cz;go_wp2_with fail
   refine(spec_SignedIndex_in lv _ (by omega) (by omega)).mono ?_
   rintro e w7 ⟨rfl,rfl⟩
   rw[show Value.int IntKind.i64 (sidx lv)=Value.int IntKind.i64 ((s:Int)+1) by rw[←HE2.out];congr 1;omega];go_wp2_with fail
   refine(l10Number_at s 30 30 rfl _ (by omega) (by omega)).mono ?_
   rintro e w7 ⟨a7,c7,rfl,o7,e7⟩
   obtain⟨g7,rfl⟩:=own_ptr o7 p2;have o6':=owns_ext o6 e7;have F7:=F6.trans (FR.of_ext e7 hB6);have hB7:=Nat.le_trans hB6 e7.size;go_wp2_with (at_builtin;refine wpList_appk _ rfl o6' hB7 _ _ 78 rfl (.agg #[.int .i64 0,.int .i64 0]) 16 Tryd.underlying78 info_Bin rfl (by decide) rfl _ _ _ _ rfl o7.1 (o7.cells rfl) (one_ints _) (by omega) (by omega) ?_;intro v2 w2 own2 gr2 _;refine Hid.out ?_)
   refine Lib.hid ?_;obtain⟨a8,c8,rfl⟩:=owns_form own2;have F8:=F7.trans (FR.of_row o6' gr2 hB7);have o8:=ownc own2 (show _=(bkL zs (k+1)).map (Value.int .i64) by rw[HLs.out];simp);have HC3:=Lib.hid (show bkN zs k+numN z+numN s=bkN zs (k+1) by rw[HC.out];omega);rw[HC3.out]at o8⊢;clear own2 o7 o6' o6 F7 F6 e7 gr2 cl6 Hcl;go_wp2;go_roundw
   case rel=>exact⟨k+1,by omega,by go_num,o8,F8⟩
   case measure=>simp[intOf] <;> omega
  ·have HKR:=Lib.hid (show k=R by omega);have hd:decide ((k:Int)<R)=false:=by simp;omega
   have H1:=Lib.hid (show bkN zs k=blkC zs by rw[HKR.out,HRR.out];rfl);have H2:=Lib.hid (show bkL zs k=blkB zs by rw[HKR.out,HRR.out];rfl);rw[H1.out,H2.out]at o4;rw[H1.out];have hlo:=F4.lo;go_wp2;go_ret
   exact⟨_,_,rfl,owns_mono o4 (by have:=HBx.out;omega),Below.trans E3 (hlo.mono (by have:=HBx.out;omega))⟩
theorem bdI_of_inB {Bd:Int} {zs:List Int} (h:inB Bd zs=true):bdI Bd zs:=by
 intro j hj;unfold inB at h;rw[List.all_eq_true]at h;have:=h _ (List.getElem_mem hj);rw[nth_eq zs j hj]
 simpa using this
theorem bdI_subU {Bd:Int} {zs:List Int} (h:bdI Bd zs) (o n:Nat) (hl:o+n≤zs.length):bdI Bd (sub zs o n):=by
 intro j hj;rw[sub_len _ _ _ hl]at hj;rw[nth_sub _ _ _ _ hj];exact h _ (by omega)
/-- The decisions for a macroblock in a picture that is not intra. -/
def hdL (m:Mac):List Int := [0,1,1,m.kind-1]
def mvL (m:Mac):List Int:=numL (sidx m.x).toNat 2++numL (sidx m.y).toNat 2
def mdL (m:Mac):Nat→List Int
 | 0 => []
 | k+1=>mdL m k++numL (nth m.modes k).toNat 9
def mdN (m:Mac):Nat→Nat
 | 0=>0
 | k+1=>mdN m k+numN (nth m.modes k).toNat
def miL (m:Mac):List Int:=hdL m++(if m.kind=1 then mvL m else mdL m 4)
def miN (m:Mac):Nat:=2+(if m.kind=1 then numN (sidx m.x).toNat+numN (sidx m.y).toNat else mdN m 4)
def lvBn (m:Mac):Nat→List Int
 | 0=>miL m
 | k+1=>lvBn m k++blkB (sub m.lv (k*16) 16)
def lvNn (m:Mac):Nat→Nat
 | 0=>miN m
 | k+1=>lvNn m k+blkC (sub m.lv (k*16) 16)
def macL (m:Mac):List Int:=if m.kind=0 then [0,0]else lvBn m 4
def macN (m:Mac):Nat:=if m.kind=0 then 1 else lvNn m 4
theorem md_rng {m:Mac} (hv:m.valid) (h2:m.kind=2) {k:Nat} (hk:k<4):∃ z:Nat,nth m.modes k=z∧z≤4:=by
 have:=hv.2.2.2.2.1 h2 k hk;exact⟨(nth m.modes k).toNat,by omega,by omega⟩
theorem mdN_le {m:Mac} (hv:m.valid) (h2:m.kind=2):∀ k,k≤4→mdN m k≤k*31
 | 0,_=>Nat.le_refl _
 | k+1,hk=>by
  have ih:=mdN_le hv h2 k (by omega);obtain⟨z,e,h⟩:=md_rng hv h2 (show k<4 by omega);have:=numN_le (show(nth m.modes k).toNat<32768 by omega);rw[mdN];omega
theorem mv_rng {m:Mac} (hv:m.valid):∃ a b:Nat,sidx m.x=a∧a≤32∧sidx m.y=b∧b≤32:=by
 obtain⟨h1,h2,h3,h4⟩:=hv.2.1;have q1:=sidx_rng h1 h2;have q2:=sidx_rng h3 h4;exact⟨(sidx m.x).toNat,(sidx m.y).toNat,by omega,by omega,by omega,by omega⟩
theorem miN_le {m:Mac} (hv:m.valid) (h0:m.kind≠0):miN m≤200:=by
 unfold miN
 by_cases h1:m.kind=1
 ·rw[if_pos h1];obtain⟨a,b,e1,l1,e2,l2⟩:=mv_rng hv;have:=numN_le (show(sidx m.x).toNat<32768 by omega);have:=numN_le (show(sidx m.y).toNat<32768 by omega);omega
 ·rw[if_neg h1];have:=mdN_le hv (by have:=hv.1;omega) 4 (Nat.le_refl _);omega
theorem lv_bd {m:Mac} (hm:m.ok) (hv:m.valid) {k:Nat} (hk:k<4):(sub m.lv (k*16) 16).length=16∧bdI 4080 (sub m.lv (k*16) 16):=by
 have hl:=hm.lv;exact⟨sub_len _ _ _ (by omega),bdI_subU (bdI_of_inB hv.2.2.2.2.2.2) _ _ (by omega)⟩
theorem lvNn_le {m:Mac} (hm:m.ok) (hv:m.valid) (h0:m.kind≠0):∀ k,k≤4→lvNn m k≤200+k*1023
 | 0,_=>by have:=miN_le hv h0;rw[lvNn];omega
 | k+1,hk=>by
  have ih:=lvNn_le hm hv h0 k (by omega);obtain⟨h1,h2⟩:=lv_bd hm hv (show k<4 by omega);have:=blkC_le h1 h2;rw[lvNn];omega
theorem macN_pos (m:Mac):1≤macN m:=by
 unfold macN
 split
 ·exact Nat.le_refl _
 ·have:∀ k,1≤lvNn m k:=fun k=>by
   induction k with
   | zero=>rw[lvNn,miN];omega
   | succ k ih=>rw[lvNn];omega
  exact this 4
theorem macN_le {m:Mac} (hm:m.ok) (hv:m.valid):macN m≤5000:=by
 unfold macN
 split
 ·omega
 ·have:=lvNn_le hm hv (by assumption) 4 (Nat.le_refl _);omega
theorem blkC_pos (zs:List Int):0<blkC zs:=by
 have:∀ k,0<bkN zs k:=fun k=>by
  induction k with
  | zero=>exact numN_pos _
  | succ k ih=>rw[bkN];omega
 exact this _
theorem l10Macro_skip (m:Mac) (w:World) (hm:m.ok) (h0:m.kind=0) :
 Calls Tryd.prog 53 #[.agg (ic m.zs),.bool false] w fun e w'=>∃ a c,e= .returned (.slice a (macN m) c)∧w'.ownsRow w.heap.size 93 2 (.slice a (macN m) c) (macN m) ((macL m).map (Value.int .i64))∧Ext w w':=by
 have I0:=(IB.new w 86 m.zs).alloc (.cells #[] 93);have Hl:=Lib.hid (Mac.zs_len hm);have hk:=I0.cell (i:=0) (by rw[Mac.zs_len hm];omega);rw[Mac.zs_kind,h0]at hk;have E0:=((Ext.alloc w (.cells (ic m.zs) 86)).trans (Ext.alloc _ (.cells #[] 93))).trans (Ext.alloc _ (.cells #[.int .i64 0,.int .i64 0] 93));have HN:=Lib.hid (show macN m=1 by rw[macN,if_pos h0]);have HL:=Lib.hid (show macL m = [0,0] by rw[macL,if_pos h0]);have o9:=World.ownsRow_lit (base:=w.heap.size) (e:=93) (size:=2) ((w.alloc (.cells (ic m.zs) 86)).alloc (.cells #[] 93)) #[.int .i64 0,.int .i64 0] 1 (by simp;omega) (by unfold maxLen;omega) rfl;rw[World.size_alloc,World.size_alloc]at o9;clear h0;go_enter Tryd.func53,Tryd.ntmps53
 go_wp2;go_ret
 rw[HN.out,HL.out];exact⟨_,_,rfl,o9,E0⟩
theorem l10Macro_I (m:Mac) (w:World) (hm:m.ok) (hv:m.valid) (h1:m.kind=1) :
 Calls Tryd.prog 53 #[.agg (ic m.zs),.bool false] w fun e w'=>∃ a c,e= .returned (.slice a (macN m) c)∧w'.ownsRow w.heap.size 93 2 (.slice a (macN m) c) (macN m) ((macL m).map (Value.int .i64))∧Ext w w':=by
 have Hl:=Lib.hid (Mac.zs_len hm);have Hm:=Lib.hid hm;have HV:=Lib.hid hv;have HK0:=Lib.hid (show m.kind≠0 by rw[h1];decide);have HK1:=Lib.hid h1;obtain⟨Bx,hBx⟩:∃ Bx,Bx=w.heap.size:=⟨_,rfl⟩;have E0:=(Ext.alloc w (.cells (ic m.zs) 86)).trans (Ext.alloc _ (.cells #[] 93));have I0:=(IB.new w 86 m.zs).alloc (.cells #[] 93);have o0:=World.ownsRow_made (base:=Bx+1) (e:=93) (size:=2) (w.alloc (.cells (ic m.zs) 86)) #[] 0 (by simp[hBx]) (by simp) rfl;have z0:Bx+1≤((w.alloc (.cells (ic m.zs) 86)).alloc (.cells #[] 93)).heap.size:=by simp[hBx]
 rw[World.size_alloc]at o0;have hk:=I0.cell (i:=0) (by rw[Mac.zs_len hm];omega);have hx:=I0.cell (i:=1) (by rw[Mac.zs_len hm];omega);have hy:=I0.cell (i:=2) (by rw[Mac.zs_len hm];omega);rw[Mac.zs_kind,h1]at hk;rw[Mac.zs_x]at hx;rw[Mac.zs_y]at hy;rw[←hBx]at I0 o0 hk hx hy;have HBx:=Lib.hid hBx;obtain⟨xa,ya,ex,lx,ey,ly⟩:=mv_rng hv;have HX:=Lib.hid ex;have HY:=Lib.hid ey;obtain⟨v1,v2,v3,v4⟩:=hv.2.1;have px:=numN_le (show xa<32768 by omega);have py:=numN_le (show ya<32768 by omega);have ppx:=numN_pos xa;have ppy:=numN_pos ya;have HMI:=Lib.hid (show lvBn m 0 = [0,1,1,0]++(numL xa 2++numL ya 2) by rw[lvBn,miL,if_pos h1,hdL,mvL,ex,ey,h1];simp);have HMN:=Lib.hid (show lvNn m 0=0+2+numN xa+numN ya by rw[lvNn,miN,if_pos h1,ex,ey];simp;omega);clear hm hv h1 ex ey;go_enter Tryd.func53,Tryd.ntmps53
 go_upto_region 2 with fail
 try simp only[World.size_alloc]
 rw[←hBx];clear hBx;generalize (w.alloc (.cells (ic m.zs) 86)).alloc (.cells #[] 93)=w1 at *;go_wp2_with (at_builtin;refine wpList_appk _ rfl (o0.alloc _) (by simp;omega) _ _ 78 rfl (.agg #[.int .i64 0,.int .i64 0]) 16 Tryd.underlying78 info_Bin rfl (by decide) rfl ⟨w1.heap.size,0,none⟩ 2 2 [.int .i64 0,.int .i64 1,.int .i64 1,.int .i64 _] rfl rfl ((Sl_new w1 [.int .i64 0,.int .i64 1,.int .i64 1,.int .i64 _] 93).cellsOf _ (by simp)) (by intro u hu;simp at hu;rcases hu with rfl|rfl|rfl|rfl <;> rfl) (by omega) (by omega) ?_;intro v2 w2 own2 gr2 _;refine Hid.out ?_)
 refine Lib.hid ?_;obtain⟨a2,c2,rfl⟩:=owns_form own2;have F2:=(FR.of_ext (B:=Bx+1) (T:=93) (Ext.alloc w1 (.cells #[.int .i64 0,.int .i64 1,.int .i64 1,.int .i64 _] 93)) z0).trans (FR.of_row (o0.alloc _) gr2 (by simp;omega));have E2:Ext w w2:=Below.trans E0 (F2.lo.mono (by have:=HBx.out;omega));have z2:=Nat.le_trans z0 F2.size;have I2:=F2.ib I0 (by decide);have hx2:=I2.cell (i:=1) (by rw[Hl.out];omega);have hy2:=I2.cell (i:=2) (by rw[Hl.out];omega);have hk2:=I2.cell (i:=0) (by rw[Hl.out];omega);rw[Mac.zs_kind,HK1.out]at hk2;rw[Mac.zs_x]at hx2;rw[Mac.zs_y]at hy2;have o2:=ownc own2 (show _=([0,1,1,0]:List Int).map (Value.int .i64) by simp);clear own2 gr2 F2 E0 I0 o0 z0 hk hx hy;have hke:((1:Int) == 1)=true:=rfl;go_wp2_with fail
 refine(spec_SignedIndex_in m.x _ (by omega) (by omega)).mono ?_
 rintro e w3 ⟨rfl,rfl⟩
 rw[HX.out];go_wp2_with fail
 refine(l10Number_at xa 2 2 rfl _ (by omega) (by omega)).mono ?_
 rintro e w3 ⟨a3,c3,rfl,o3,e3⟩
 obtain⟨g3,rfl⟩:=own_ptr o3 ppx;have o2':=owns_ext o2 e3;have hB3:=Nat.le_trans z2 e3.size;have E3:=E2.trans e3;have I3:=I2.ext e3;clear o2 e3 I2 E2 hx2 hy2 hk2;go_wp2_with (at_builtin;refine wpList_appk _ rfl o2' hB3 _ _ 78 rfl (.agg #[.int .i64 0,.int .i64 0]) 16 Tryd.underlying78 info_Bin rfl (by decide) rfl _ _ _ _ rfl o3.1 (o3.cells rfl) (one_ints _) (by omega) (by omega) ?_;intro v2 w2 own2 gr2 _;refine Hid.out ?_)
 refine Lib.hid ?_;obtain⟨a4,c4,rfl⟩:=owns_form own2;have F4:=FR.of_row o2' gr2 hB3;have E4:Ext w w2:=Below.trans E3 (F4.lo.mono (by have:=HBx.out;omega));have z4:=Nat.le_trans hB3 F4.size;have I4:=F4.ib I3 (by decide);have hy4:=I4.cell (i:=2) (by rw[Hl.out];omega);rw[Mac.zs_y]at hy4;have o4:=own2;clear own2 gr2 F4 E3 I3 o2' o3 hB3;go_wp2_with fail
 refine(spec_SignedIndex_in m.y _ (by omega) (by omega)).mono ?_
 rintro e w5 ⟨rfl,rfl⟩
 rw[HY.out];go_wp2_with fail
 refine(l10Number_at ya 2 2 rfl _ (by omega) (by omega)).mono ?_
 rintro e w5 ⟨a5,c5,rfl,o5,e5⟩
 obtain⟨g5,rfl⟩:=own_ptr o5 ppy;have o4':=owns_ext o4 e5;have hB5:=Nat.le_trans z4 e5.size;have E5:=E4.trans e5;have I5:=I4.ext e5;clear o4 e5 I4 E4 hy4;go_wp2_with (at_builtin;refine wpList_appk _ rfl o4' hB5 _ _ 78 rfl (.agg #[.int .i64 0,.int .i64 0]) 16 Tryd.underlying78 info_Bin rfl (by decide) rfl _ _ _ _ rfl o5.1 (o5.cells rfl) (one_ints _) (by omega) (by omega) ?_;intro v2 w3 own2 gr2 _;refine Hid.out ?_)
 refine Lib.hid ?_;obtain⟨a6,c6,rfl⟩:=owns_form own2;have F6:=FR.of_row o4' gr2 hB5;have E3:Ext w w3:=Below.trans E5 (F6.lo.mono (by have:=HBx.out;omega));have z3:=Nat.le_trans hB5 F6.size;have I3:=F6.ib I5 (by decide);have o3:=ownc own2 (show _=(lvBn m 0).map (Value.int .i64) by rw[HMI.out];simp);rw[←HMN.out]at o3⊢;clear own2 gr2 F6 E5 I5 o4' o5 hB5;have F3:=FR.refl (Bx+1) 93 w3;go_wp2_with fail
 go_loopw [5,7] (fun v y wr=>∃ k:Nat,k≤4∧y= .int .i64 k∧wr.ownsRow (Bx+1) 93 2 v (lvNn m k) ((lvBn m k).map (Value.int .i64))∧FR (Bx+1) 93 w3 wr) (fun _ y _=>4-(intOf y).toNat)
 case atStart=>exact⟨0,by omega,rfl,o3,F3⟩
 case round =>
  obtain⟨k,hk,rfl,o4,F4⟩:=hrel;clear o3 F3;obtain⟨a4,c4,rfl⟩:=owns_form o4;have hB4:=Nat.le_trans z3 F4.size
  by_cases hlt:k<4
  ·have hd:decide ((k:Int)<4)=true:=by simp;omega
   obtain⟨l1,l2⟩:=lv_bd Hm.out HV.out hlt;have hbc:=blkC_le l1 l2;have hln:=lvNn_le Hm.out HV.out HK0.out k (by omega);have I4:=F4.ib I3 (by decide);have HLs:=Lib.hid (show lvBn m (k+1)=lvBn m k++blkB (sub m.lv (k*16) 16)from rfl);have HC:=Lib.hid (show lvNn m k+blkC (sub m.lv (k*16) 16)=lvNn m (k+1)from rfl);have HBK:=Lib.hid (fun w=>l10Block_any (sub m.lv (k*16) 16) w l1 l2);have HZB:=Lib.hid (Mac.zs_blk Hm.out k hlt);generalize sub m.lv (k*16) 16=bz at *;clear l1 l2;go_wp2_with (refine wpList_iload 83 _ rfl rfl I4 (7+k*16) 16 rfl _ Tryd.underlying83 rfl size_A16s (by rw[Hl.out];omega) _ (by rw[HZB.out]) ?_)
   refine(HBK.out _).mono ?_
   rintro e w5 ⟨a5,c5,rfl,o5,e5⟩
   have o4':=owns_ext o4 e5;have F5:=F4.trans (FR.of_ext e5 hB4);have hB5:=Nat.le_trans hB4 e5.size;obtain⟨g5,rfl⟩:=own_ptr o5 (blkC_pos bz);go_wp2_with (at_builtin;refine wpList_appk _ rfl o4' hB5 _ _ 78 rfl (.agg #[.int .i64 0,.int .i64 0]) 16 Tryd.underlying78 info_Bin rfl (by decide) rfl _ _ _ _ rfl o5.1 (o5.cells rfl) (one_ints _) (by omega) (by omega) ?_;intro v2 w2 own2 gr2 _;refine Hid.out ?_)
   refine Lib.hid ?_;obtain⟨a6,c6,rfl⟩:=owns_form own2;have F6:=F5.trans (FR.of_row o4' gr2 hB5);have o6:=ownc own2 (show _=(lvBn m (k+1)).map (Value.int .i64) by rw[HLs.out];simp);rw[HC.out]at o6⊢;clear own2 o5 o4' o4 F5 F4 e5 gr2 I4;go_wp2;go_roundw
   case rel=>exact⟨k+1,by omega,by go_num,o6,F6⟩
   case measure=>simp[intOf] <;> omega
  ·have HKR:=Lib.hid (show k=4 by omega);have hd:decide ((k:Int)<4)=false:=by simp;omega
   have H1:=Lib.hid (show lvNn m k=macN m by rw[HKR.out,macN,if_neg HK0.out]);have H2:=Lib.hid (show lvBn m k=macL m by rw[HKR.out,macL,if_neg HK0.out]);rw[H1.out,H2.out]at o4;rw[H1.out];have hlo:=F4.lo;go_wp2;go_ret
   exact⟨_,_,rfl,owns_mono o4 (by have:=HBx.out;omega),Below.trans E3 (hlo.mono (by have:=HBx.out;omega))⟩
theorem l10Macro_A (m:Mac) (w:World) (hm:m.ok) (hv:m.valid) (h1:m.kind=2) :
 Calls Tryd.prog 53 #[.agg (ic m.zs),.bool false] w fun e w'=>∃ a c,e= .returned (.slice a (macN m) c)∧w'.ownsRow w.heap.size 93 2 (.slice a (macN m) c) (macN m) ((macL m).map (Value.int .i64))∧Ext w w':=by
 have Hl:=Lib.hid (Mac.zs_len hm);have Hm:=Lib.hid hm;have HV:=Lib.hid hv;have HK0:=Lib.hid (show m.kind≠0 by rw[h1];decide);have HK1:=Lib.hid h1;obtain⟨Bx,hBx⟩:∃ Bx,Bx=w.heap.size:=⟨_,rfl⟩;have E0:=(Ext.alloc w (.cells (ic m.zs) 86)).trans (Ext.alloc _ (.cells #[] 93));have I0:=(IB.new w 86 m.zs).alloc (.cells #[] 93);have o0:=World.ownsRow_made (base:=Bx+1) (e:=93) (size:=2) (w.alloc (.cells (ic m.zs) 86)) #[] 0 (by simp[hBx]) (by simp) rfl;have z0:Bx+1≤((w.alloc (.cells (ic m.zs) 86)).alloc (.cells #[] 93)).heap.size:=by simp[hBx]
 rw[World.size_alloc]at o0;have hk:=I0.cell (i:=0) (by rw[Mac.zs_len hm];omega);rw[Mac.zs_kind,h1]at hk;rw[←hBx]at I0 o0 hk;have HBx:=Lib.hid hBx;have HMI:=Lib.hid (show lvBn m 0 = [0,1,1,1]++mdL m 4 by rw[lvBn,miL,if_neg (by rw[h1];decide),hdL,h1];simp);have HMN:=Lib.hid (show lvNn m 0=2+mdN m 4 by rw[lvNn,miN,if_neg (by rw[h1];decide)]);clear hm hv h1;go_enter Tryd.func53,Tryd.ntmps53
 go_upto_region 2 with fail
 try simp only[World.size_alloc]
 rw[←hBx];clear hBx;generalize (w.alloc (.cells (ic m.zs) 86)).alloc (.cells #[] 93)=w1 at *;go_wp2_with (at_builtin;refine wpList_appk _ rfl (o0.alloc _) (by simp;omega) _ _ 78 rfl (.agg #[.int .i64 0,.int .i64 0]) 16 Tryd.underlying78 info_Bin rfl (by decide) rfl ⟨w1.heap.size,0,none⟩ 2 2 [.int .i64 0,.int .i64 1,.int .i64 1,.int .i64 _] rfl rfl ((Sl_new w1 [.int .i64 0,.int .i64 1,.int .i64 1,.int .i64 _] 93).cellsOf _ (by simp)) (by intro u hu;simp at hu;rcases hu with rfl|rfl|rfl|rfl <;> rfl) (by omega) (by omega) ?_;intro v2 w2 own2 gr2 _;refine Hid.out ?_)
 refine Lib.hid ?_;rw[show 0+2=2 from rfl]at own2;try rw[show 0+2=2 from rfl]
 obtain⟨a2,c2,rfl⟩:=owns_form own2;have F2:=(FR.of_ext (B:=Bx+1) (T:=93) (Ext.alloc w1 (.cells #[.int .i64 0,.int .i64 1,.int .i64 1,.int .i64 _] 93)) z0).trans (FR.of_row (o0.alloc _) gr2 (by simp;omega));have E2:Ext w w2:=Below.trans E0 (F2.lo.mono (by have:=HBx.out;omega));have z2:=Nat.le_trans z0 F2.size;have I2:=F2.ib I0 (by decide);have hk2:=I2.cell (i:=0) (by rw[Hl.out];omega);rw[Mac.zs_kind,HK1.out]at hk2;have o2:=ownc own2 (show _=([0,1,1,1]++mdL m 0:List Int).map (Value.int .i64) by simp[mdL]);clear own2 gr2 F2 E0 I0 o0 z0 hk;have hke:((2:Int) == 1)=false:=rfl;have F0:=FR.refl (Bx+1) 93 w2;go_wp2_with fail
 clear hk2 hke;go_loopw [5,6] (fun v y wr=>∃ k:Nat,k≤4∧y= .int .i64 k∧wr.ownsRow (Bx+1) 93 2 v (2+mdN m k) (([0,1,1,1]++mdL m k).map (Value.int .i64))∧FR (Bx+1) 93 w2 wr) (fun _ y _=>4-(intOf y).toNat)
 case atStart=>exact⟨0,by omega,rfl,o2,F0⟩
 case round =>
  obtain⟨k,hk,rfl,o4,F4⟩:=hrel;clear o2 F0;obtain⟨a4,c4,rfl⟩:=owns_form o4;have hB4:=Nat.le_trans z2 F4.size
  by_cases hlt:k<4
  ·have hd:decide ((k:Int)<4)=true:=by simp;omega
   obtain⟨z,ez,lz⟩:=md_rng HV.out HK1.out hlt;have hmn:=mdN_le HV.out HK1.out k (by omega);have q1:=numN_le (show z<32768 by omega);have p1:=numN_pos z;have cz:=(F4.ib I2 (by decide)).cell (i:=3+k) (by rw[Hl.out];omega);rw[Mac.nth_mode Hm.out k hlt,ez]at cz;have HLs:=Lib.hid (show mdL m (k+1)=mdL m k++numL z 9 by rw[mdL,ez];simp);have HC:=Lib.hid (show 2+mdN m k+numN z=2+mdN m (k+1) by rw[mdN,ez];simp;omega);clear ez;go_wp2_with fail
   refine(l10Number_at z 9 9 rfl _ (by omega) (by omega)).mono ?_
   rintro e w5 ⟨a5,c5,rfl,o5,e5⟩
   obtain⟨g5,rfl⟩:=own_ptr o5 p1;have o4':=owns_ext o4 e5;have F5:=F4.trans (FR.of_ext e5 hB4);have hB5:=Nat.le_trans hB4 e5.size;go_wp2_with (at_builtin;refine wpList_appk _ rfl o4' hB5 _ _ 78 rfl (.agg #[.int .i64 0,.int .i64 0]) 16 Tryd.underlying78 info_Bin rfl (by decide) rfl _ _ _ _ rfl o5.1 (o5.cells rfl) (one_ints _) (by omega) (by omega) ?_;intro v2 w6 own2 gr2 _;refine Hid.out ?_)
   refine Lib.hid ?_;obtain⟨a6,c6,rfl⟩:=owns_form own2;have F6:=F5.trans (FR.of_row o4' gr2 hB5);have o6:=ownc own2 (show _=([0,1,1,1]++mdL m (k+1)).map (Value.int .i64) by rw[HLs.out];simp);rw[HC.out]at o6⊢;clear own2 o5 o4' o4 F5 F4 e5 gr2 cz;go_wp2;go_roundw
   case rel=>exact⟨k+1,by omega,by go_num,o6,F6⟩
   case measure=>simp[intOf] <;> omega
  ·have HKR:=Lib.hid (show k=4 by omega);have hd:decide ((k:Int)<4)=false:=by simp;omega
   have H1:=Lib.hid (show 2+mdN m k=lvNn m 0 by rw[HKR.out,HMN.out]);have H2:=Lib.hid (show [0,1,1,1]++mdL m k=lvBn m 0 by rw[HKR.out,HMI.out]);rw[H1.out,H2.out]at o4;rw[H1.out];obtain⟨w3,hw3⟩:∃ w3,w3=wr:=⟨_,rfl⟩;rw[←hw3]at o4 F4 hB4⊢;clear hw3;have E3:Ext w w3:=Below.trans E2 (F4.lo.mono (by have:=HBx.out;omega));have z3:=hB4;have I3:=F4.ib I2 (by decide);have o3:=o4;clear o4 F4 hB4 E2 I2;have F3:=FR.refl (Bx+1) 93 w3;go_wp2_with fail
   go_loopw [5,7] (fun v y wr=>∃ k:Nat,k≤4∧y= .int .i64 k∧wr.ownsRow (Bx+1) 93 2 v (lvNn m k) ((lvBn m k).map (Value.int .i64))∧FR (Bx+1) 93 w3 wr) (fun _ y _=>4-(intOf y).toNat)
   case atStart=>exact⟨0,by omega,rfl,o3,F3⟩
   case round =>
    obtain⟨k,hk,rfl,o4,F4⟩:=hrel;clear o3 F3;obtain⟨a4,c4,rfl⟩:=owns_form o4;have hB4:=Nat.le_trans z3 F4.size
    by_cases hlt:k<4
    ·have hd:decide ((k:Int)<4)=true:=by simp;omega
     obtain⟨l1,l2⟩:=lv_bd Hm.out HV.out hlt;have hbc:=blkC_le l1 l2;have hln:=lvNn_le Hm.out HV.out HK0.out k (by omega);have I4:=F4.ib I3 (by decide);have HLs:=Lib.hid (show lvBn m (k+1)=lvBn m k++blkB (sub m.lv (k*16) 16)from rfl);have HC:=Lib.hid (show lvNn m k+blkC (sub m.lv (k*16) 16)=lvNn m (k+1)from rfl);have HBK:=Lib.hid (fun w=>l10Block_any (sub m.lv (k*16) 16) w l1 l2);have HZB:=Lib.hid (Mac.zs_blk Hm.out k hlt);generalize sub m.lv (k*16) 16=bz at *;clear l1 l2;go_wp2_with (refine wpList_iload 83 _ rfl rfl I4 (7+k*16) 16 rfl _ Tryd.underlying83 rfl size_A16s (by rw[Hl.out];omega) _ (by rw[HZB.out]) ?_)
     refine(HBK.out _).mono ?_
     rintro e w5 ⟨a5,c5,rfl,o5,e5⟩
     have o4':=owns_ext o4 e5;have F5:=F4.trans (FR.of_ext e5 hB4);have hB5:=Nat.le_trans hB4 e5.size;obtain⟨g5,rfl⟩:=own_ptr o5 (blkC_pos bz);go_wp2_with (at_builtin;refine wpList_appk _ rfl o4' hB5 _ _ 78 rfl (.agg #[.int .i64 0,.int .i64 0]) 16 Tryd.underlying78 info_Bin rfl (by decide) rfl _ _ _ _ rfl o5.1 (o5.cells rfl) (one_ints _) (by omega) (by omega) ?_;intro v2 w2 own2 gr2 _;refine Hid.out ?_)
     refine Lib.hid ?_;obtain⟨a6,c6,rfl⟩:=owns_form own2;have F6:=F5.trans (FR.of_row o4' gr2 hB5);have o6:=ownc own2 (show _=(lvBn m (k+1)).map (Value.int .i64) by rw[HLs.out];simp);rw[HC.out]at o6⊢;clear own2 o5 o4' o4 F5 F4 e5 gr2 I4;go_wp2;go_roundw
     case rel=>exact⟨k+1,by omega,by go_num,o6,F6⟩
     case measure=>simp[intOf] <;> omega
    ·have HKR:=Lib.hid (show k=4 by omega);have hd:decide ((k:Int)<4)=false:=by simp;omega
     have H1:=Lib.hid (show lvNn m k=macN m by rw[HKR.out,macN,if_neg HK0.out]);have H2:=Lib.hid (show lvBn m k=macL m by rw[HKR.out,macL,if_neg HK0.out]);rw[H1.out,H2.out]at o4;rw[H1.out];have hlo:=F4.lo;go_wp2;go_ret
     exact⟨_,_,rfl,owns_mono o4 (by have:=HBx.out;omega),Below.trans E3 (hlo.mono (by have:=HBx.out;omega))⟩
/-- The reference's decisions for a macroblock. -/
theorem l10Macro_any (m:Mac) (w:World) (hm:m.ok) (hv:m.valid) :
 Calls Tryd.prog 53 #[.agg (ic m.zs),.bool false] w fun e w'=>∃ a c,e= .returned (.slice a (macN m) c)∧w'.ownsRow w.heap.size 93 2 (.slice a (macN m) c) (macN m) ((macL m).map (Value.int .i64))∧Ext w w':=by
 by_cases h0:m.kind=0
 ·exact l10Macro_skip m w hm h0
 ·by_cases h1:m.kind=1
  ·exact l10Macro_I m w hm hv h1
  ·exact l10Macro_A m w hm hv (by have:=hv.1;omega)
def lvBT (m:Mac):Nat→List Int
 | 0=>mdL m 4
 | k+1=>lvBT m k++blkB (sub m.lv (k*16) 16)
def lvNT (m:Mac):Nat→Nat
 | 0=>mdN m 4
 | k+1=>lvNT m k+blkC (sub m.lv (k*16) 16)
def macLT (m:Mac):List Int:=lvBT m 4
def macNT (m:Mac):Nat:=lvNT m 4
theorem lvNT_le {m:Mac} (hm:m.ok) (hv:m.valid) (h2:m.kind=2):∀ k,k≤4→lvNT m k≤200+k*1023
 | 0,_=>by have:=mdN_le hv h2 4 (Nat.le_refl _);rw[lvNT];omega
 | k+1,hk=>by
  have ih:=lvNT_le hm hv h2 k (by omega);obtain⟨h1,h2⟩:=lv_bd hm hv (show k<4 by omega);have:=blkC_le h1 h2;rw[lvNT];omega
theorem macNT_le {m:Mac} (hm:m.ok) (hv:m.valid) (h2:m.kind=2):macNT m≤5000:=by
 have:=lvNT_le hm hv h2 4 (Nat.le_refl _);show lvNT m 4≤_;omega
theorem macNT_pos (m:Mac):1≤macNT m:=by
 have:=blkC_pos (sub m.lv (3*16) 16);show 1≤lvNT m 3+blkC (sub m.lv (3*16) 16);omega
theorem l10Macro_T (m:Mac) (w:World) (hm:m.ok) (hv:m.valid) (h1:m.kind=2) :
 Calls Tryd.prog 53 #[.agg (ic m.zs),.bool true] w fun e w'=>∃ a c,e= .returned (.slice a (macNT m) c)∧w'.ownsRow w.heap.size 93 2 (.slice a (macNT m) c) (macNT m) ((macLT m).map (Value.int .i64))∧Ext w w':=by
 have Hl:=Lib.hid (Mac.zs_len hm);have Hm:=Lib.hid hm;have HV:=Lib.hid hv;have HK0:=Lib.hid (show m.kind≠0 by rw[h1];decide);have HK1:=Lib.hid h1;obtain⟨Bx,hBx⟩:∃ Bx,Bx=w.heap.size:=⟨_,rfl⟩;have E0:=(Ext.alloc w (.cells (ic m.zs) 86)).trans (Ext.alloc _ (.cells #[] 93));have I0:=(IB.new w 86 m.zs).alloc (.cells #[] 93);have o0:=World.ownsRow_made (base:=Bx+1) (e:=93) (size:=2) (w.alloc (.cells (ic m.zs) 86)) #[] 0 (by simp[hBx]) (by simp) rfl;have z0:Bx+1≤((w.alloc (.cells (ic m.zs) 86)).alloc (.cells #[] 93)).heap.size:=by simp[hBx]
 rw[World.size_alloc]at o0;have hk:=I0.cell (i:=0) (by rw[Mac.zs_len hm];omega);rw[Mac.zs_kind,h1]at hk;rw[←hBx]at I0 o0 hk;have HBx:=Lib.hid hBx;have HMI:=Lib.hid (show lvBT m 0=mdL m 4 from rfl);have HMN:=Lib.hid (show lvNT m 0=mdN m 4 from rfl);clear hm hv h1;go_enter Tryd.func53,Tryd.ntmps53
 go_upto_region 6 with fail
 try simp only[World.size_alloc]
 rw[←hBx];clear hBx;generalize (w.alloc (.cells (ic m.zs) 86)).alloc (.cells #[] 93)=w2 at *;have E2:Ext w w2:=E0;have z2:=z0;have I2:=I0;have hk2:=hk;have o2:=ownc o0 (show _=(mdL m 0:List Int).map (Value.int .i64) by simp[mdL]);clear E0 I0 o0 z0 hk;have hke:((2:Int) == 1)=false:=rfl;have F0:=FR.refl (Bx+1) 93 w2;go_wp2_with fail
 clear hk2 hke;go_loopw [5,6] (fun v y wr=>∃ k:Nat,k≤4∧y= .int .i64 k∧wr.ownsRow (Bx+1) 93 2 v (mdN m k) ((mdL m k).map (Value.int .i64))∧FR (Bx+1) 93 w2 wr) (fun _ y _=>4-(intOf y).toNat)
 case atStart=>exact⟨0,by omega,rfl,o2,F0⟩
 case round =>
  obtain⟨k,hk,rfl,o4,F4⟩:=hrel;clear o2 F0;obtain⟨a4,c4,rfl⟩:=owns_form o4;have hB4:=Nat.le_trans z2 F4.size
  by_cases hlt:k<4
  ·have hd:decide ((k:Int)<4)=true:=by simp;omega
   obtain⟨z,ez,lz⟩:=md_rng HV.out HK1.out hlt;have hmn:=mdN_le HV.out HK1.out k (by omega);have q1:=numN_le (show z<32768 by omega);have p1:=numN_pos z;have cz:=(F4.ib I2 (by decide)).cell (i:=3+k) (by rw[Hl.out];omega);rw[Mac.nth_mode Hm.out k hlt,ez]at cz;have HLs:=Lib.hid (show mdL m (k+1)=mdL m k++numL z 9 by rw[mdL,ez];simp);have HC:=Lib.hid (show mdN m k+numN z=mdN m (k+1) by rw[mdN,ez];simp);clear ez;go_wp2_with fail
   refine(l10Number_at z 9 9 rfl _ (by omega) (by omega)).mono ?_
   rintro e w5 ⟨a5,c5,rfl,o5,e5⟩
   obtain⟨g5,rfl⟩:=own_ptr o5 p1;have o4':=owns_ext o4 e5;have F5:=F4.trans (FR.of_ext e5 hB4);have hB5:=Nat.le_trans hB4 e5.size;go_wp2_with (at_builtin;refine wpList_appk _ rfl o4' hB5 _ _ 78 rfl (.agg #[.int .i64 0,.int .i64 0]) 16 Tryd.underlying78 info_Bin rfl (by decide) rfl _ _ _ _ rfl o5.1 (o5.cells rfl) (one_ints _) (by omega) (by omega) ?_;intro v2 w6 own2 gr2 _;refine Hid.out ?_)
   refine Lib.hid ?_;obtain⟨a6,c6,rfl⟩:=owns_form own2;have F6:=F5.trans (FR.of_row o4' gr2 hB5);have o6:=ownc own2 (show _=(mdL m (k+1)).map (Value.int .i64) by rw[HLs.out];simp);rw[HC.out]at o6⊢;clear own2 o5 o4' o4 F5 F4 e5 gr2 cz;go_wp2;go_roundw
   case rel=>exact⟨k+1,by omega,by go_num,o6,F6⟩
   case measure=>simp[intOf] <;> omega
  ·have HKR:=Lib.hid (show k=4 by omega);have hd:decide ((k:Int)<4)=false:=by simp;omega
   have H1:=Lib.hid (show mdN m k=lvNT m 0 by rw[HKR.out,HMN.out]);have H2:=Lib.hid (show mdL m k=lvBT m 0 by rw[HKR.out,HMI.out]);rw[H1.out,H2.out]at o4;rw[H1.out];obtain⟨w3,hw3⟩:∃ w3,w3=wr:=⟨_,rfl⟩;rw[←hw3]at o4 F4 hB4⊢;clear hw3;have E3:Ext w w3:=Below.trans E2 (F4.lo.mono (by have:=HBx.out;omega));have z3:=hB4;have I3:=F4.ib I2 (by decide);have o3:=o4;clear o4 F4 hB4 E2 I2;have F3:=FR.refl (Bx+1) 93 w3;go_wp2_with fail
   go_loopw [5,7] (fun v y wr=>∃ k:Nat,k≤4∧y= .int .i64 k∧wr.ownsRow (Bx+1) 93 2 v (lvNT m k) ((lvBT m k).map (Value.int .i64))∧FR (Bx+1) 93 w3 wr) (fun _ y _=>4-(intOf y).toNat)
   case atStart=>exact⟨0,by omega,rfl,o3,F3⟩
   case round =>
    obtain⟨k,hk,rfl,o4,F4⟩:=hrel;clear o3 F3;obtain⟨a4,c4,rfl⟩:=owns_form o4;have hB4:=Nat.le_trans z3 F4.size
    by_cases hlt:k<4
    ·have hd:decide ((k:Int)<4)=true:=by simp;omega
     obtain⟨l1,l2⟩:=lv_bd Hm.out HV.out hlt;have hbc:=blkC_le l1 l2;have hln:=lvNT_le Hm.out HV.out HK1.out k (by omega);have I4:=F4.ib I3 (by decide);have HLs:=Lib.hid (show lvBT m (k+1)=lvBT m k++blkB (sub m.lv (k*16) 16)from rfl);have HC:=Lib.hid (show lvNT m k+blkC (sub m.lv (k*16) 16)=lvNT m (k+1)from rfl);have HBK:=Lib.hid (fun w=>l10Block_any (sub m.lv (k*16) 16) w l1 l2);have HZB:=Lib.hid (Mac.zs_blk Hm.out k hlt);generalize sub m.lv (k*16) 16=bz at *;clear l1 l2;go_wp2_with (refine wpList_iload 83 _ rfl rfl I4 (7+k*16) 16 rfl _ Tryd.underlying83 rfl size_A16s (by rw[Hl.out];omega) _ (by rw[HZB.out]) ?_)
     refine(HBK.out _).mono ?_
     rintro e w5 ⟨a5,c5,rfl,o5,e5⟩
     have o4':=owns_ext o4 e5;have F5:=F4.trans (FR.of_ext e5 hB4);have hB5:=Nat.le_trans hB4 e5.size;obtain⟨g5,rfl⟩:=own_ptr o5 (blkC_pos bz);go_wp2_with (at_builtin;refine wpList_appk _ rfl o4' hB5 _ _ 78 rfl (.agg #[.int .i64 0,.int .i64 0]) 16 Tryd.underlying78 info_Bin rfl (by decide) rfl _ _ _ _ rfl o5.1 (o5.cells rfl) (one_ints _) (by omega) (by omega) ?_;intro v2 w2 own2 gr2 _;refine Hid.out ?_)
     refine Lib.hid ?_;obtain⟨a6,c6,rfl⟩:=owns_form own2;have F6:=F5.trans (FR.of_row o4' gr2 hB5);have o6:=ownc own2 (show _=(lvBT m (k+1)).map (Value.int .i64) by rw[HLs.out];simp);rw[HC.out]at o6⊢;clear own2 o5 o4' o4 F5 F4 e5 gr2 I4;go_wp2;go_roundw
     case rel=>exact⟨k+1,by omega,by go_num,o6,F6⟩
     case measure=>simp[intOf] <;> omega
    ·have HKR:=Lib.hid (show k=4 by omega);have hd:decide ((k:Int)<4)=false:=by simp;omega
     have H1:=Lib.hid (show lvNT m k=macNT m by rw[HKR.out];rfl);have H2:=Lib.hid (show lvBT m k=macLT m by rw[HKR.out];rfl);rw[H1.out,H2.out]at o4;rw[H1.out];have hlo:=F4.lo;go_wp2;go_ret
     exact⟨_,_,rfl,owns_mono o4 (by have:=HBx.out;omega),Below.trans E3 (hlo.mono (by have:=HBx.out;omega))⟩
section
variable {P : Program}
theorem run_loadVar_cells (w:World) {b off n:Nat} {zs:List Int} (h:∀ j,j<n→w.cell? ⟨b,off+j,none⟩=some (.int .i64 (nth zs j))) (hn:zs.length=n) (ty:TypeId) (d:TypeDesc) (hu:P.underlying ty=some d) (hd:(match d with | .struct _ | .array _ _=>true|_=>false)=true) (hi:(P.info? ty).map (·.size)=some n) :
 (loadVar ty ⟨b,off,none⟩).run P w= .ok (.agg (ic zs)) w:=by
 have hl:(loadCells ⟨b,off,none⟩ (zs.map (Value.int .i64)).length).run P w= .ok (zs.map (Value.int .i64)).toArray w :=
  run_loadCells_list (P:=P) w ⟨b,off,none⟩ _ (fun j v hv=>by
   have hj:j<n:=by
    have:=(List.getElem?_eq_some_iff.1 hv).1
    simpa [hn] using this
   have hadd:(⟨b,off,none⟩:Addr).add j=⟨b,off+j,none⟩:=by rw[Addr.add_lit]
   rw[hadd,h j hj];have e:(zs.map (Value.int .i64))[j]?=some (.int .i64 (nth zs j)):=by
    have:j<zs.length:=by omega
    simp[nth,this]
   rw[e]at hv;exact hv)
 cases hq:P.info? ty with
 | none=>simp[hq]at hi
 | some i =>
  have hs:i.size=n:=by simpa [hq] using hi
  rw[List.length_map,hn]at hl;simp[loadVar,Sem.run_bind,isAgg_of w hu hd,sizeOf,typeInfo,hq,hs,hl,ic]
theorem wpList_cload {ops:Array Oper} {rest:List Oper} {o:Oper} {a:Act} {w:World} {Q:Exit→Act→World→Prop} (ty:TypeId) (x:Operand) (ho:o.op= .load ty x) (hgd:Region.wanted o (yielded ops a.tmps)=true)
 {b off n:Nat} {zs:List Int} (h:∀ j,j<n→w.cell? ⟨b,off+j,none⟩=some (.int .i64 (nth zs j))) (hn:zs.length=n) (hx:a.eval x= .pointer (some ⟨b,off,none⟩)) (d:TypeDesc)
 (hu:P.underlying ty=some d) (hd:(match d with | .struct _ | .array _ _=>true|_=>false)=true) (hi:(P.info? ty).map (·.size)=some n)
 (hK:wpList P ops Q rest (a.put o.dst (.agg (ic zs))) w):wpList P ops Q (o::rest) a w:=by
 refine wpList_wanted hgd fun _ hK' => ?_
 unfold Oper.wp execOp;simp only[ho,hx,Instr.loadAt,Instr.sureAddr,Sem.run_bind,Sem.run_pure,Result.andThen_ok,run_loadVar_cells w h hn ty d hu hd hi];exact hK' _ _ hK
end
/-- The slice at a of n macroblocks reads as ms. -/
def MR (w:World) (a:Option Addr) (n:Nat) (ms:Nat→Mac):Prop :=
 ∀ i,i<n→(ms i).ok∧∃ b off,a=some ⟨b,off,none⟩∧∀ j,j<71→w.cell? ⟨b,off+i*71+j,none⟩=some (.int .i64 (nth (ms i).zs j))
theorem MR.ext {w w':World} {a:Option Addr} {n:Nat} {ms:Nat→Mac} (h:MR w a n ms) (e:Ext w w'):MR w' a n ms:=fun i hi=>by
 obtain⟨h0,b,off,h1,h2⟩:=h i hi;exact⟨h0,b,off,h1,fun j hj=>cell_ext e (h2 j hj)⟩
/-- The decisions of one macroblock, their number. -/
noncomputable def mbL (m : Mac) (intra : Bool) : List Int := if intra then macLT m else macL m
noncomputable def mbN (m : Mac) (intra : Bool) : Nat := if intra then macNT m else macN m
noncomputable def sliL (ms : Nat → Mac) (intra : Bool) : Nat → List Int
 | 0 => []
 | k+1=>sliL ms intra k++mbL (ms k) intra
noncomputable def sliN (ms : Nat → Mac) (intra : Bool) : Nat → Nat
 | 0=>0
 | k+1=>sliN ms intra k+mbN (ms k) intra
/-- What a slice takes. -/
def mbOk (m:Mac) (intra:Bool):Prop:=m.valid∧(intra=true→m.kind=2)
noncomputable instance (m : Mac) (intra : Bool) : Decidable (mbOk m intra) := Classical.propDecidable _
def sliOk (ms:Nat→Mac) (intra:Bool) (n:Nat):Prop:=(1≤n∧n≤4)∧∀ k,k<n→mbOk (ms k) intra
noncomputable instance (ms : Nat → Mac) (intra : Bool) (n : Nat) : Decidable (sliOk ms intra n) := Classical.propDecidable _
/-- What EncodeSlice answers. -/
noncomputable def slcL (ms : Nat → Mac) (intra : Bool) (n : Nat) : List Int := if sliOk ms intra n then encS (sliL ms intra n) (sliN ms intra n) else []
theorem slcL_len (ms:Nat→Mac) (intra:Bool) (n:Nat):(slcL ms intra n).length≤60004:=by
 unfold slcL
 split
 ·exact encS_len _ _
 ·simp
theorem slcL_byt (ms:Nat→Mac) (intra:Bool) (n:Nat):bytL (slcL ms intra n):=by
 unfold slcL
 split
 ·exact encS_byt _ _
 ·intro x hx;cases hx
theorem mbN_le {m:Mac} {intra:Bool} (hm:m.ok) (h:mbOk m intra):1≤mbN m intra∧mbN m intra≤5000:=by
 unfold mbN;cases intra with
 | true=>exact⟨macNT_pos m,macNT_le hm h.1 (h.2 rfl)⟩
 | false=>exact⟨macN_pos m,macN_le hm h.1⟩
theorem spec_l10Macro_mb (m:Mac) (intra:Bool) (w:World) (hm:m.ok) (h:mbOk m intra) :
 Calls Tryd.prog 53 #[.agg (ic m.zs),.bool intra] w fun e w'=>∃ a c,e= .returned (.slice a (mbN m intra) c)∧w'.ownsRow w.heap.size 93 2 (.slice a (mbN m intra) c) (mbN m intra) ((mbL m intra).map (Value.int .i64))∧Ext w w':=by
 cases intra with
 | true=>exact l10Macro_T m w hm h.1 (h.2 rfl)
 | false=>exact l10Macro_any m w hm h.1
theorem spec_EncodeSlice_any (a:Option Addr) (n c:Nat) (ms:Nat→Mac) (intra:Bool) (w:World) (R:MR w a n ms) (hn:n≤2^40) :
 Calls Tryd.prog 49 #[.slice a n c,.bool intra] w fun e w'=>∃ a' c',e= .returned (.slice a' (slcL ms intra n).length c')∧w'.ownsRow w.heap.size 5 1 (.slice a' (slcL ms intra n).length c') (slcL ms intra n).length (u8s (slcL ms intra n))∧Ext w w':=by
 by_cases h0:1≤n∧n≤4
 ·have EA:=Ext.alloc w (.cells #[] 93);have oA:=World.ownsRow_made (base:=w.heap.size) (e:=93) (size:=2) w #[] 0 (Nat.le_refl _) (by simp) rfl;have hsA:=EA.size;go_enter Tryd.func49,Tryd.ntmps49
  go_wp2_with fail
  refine(l1In_yes _ _ _ _ (by omega) (by omega)).mono ?_
  rintro e w' ⟨rfl,rfl⟩
  go_wp2_with fail
  go_loopw [5,6] (fun v i wr=>∃ k:Nat,k≤n∧i= .int .i64 (k:Nat)∧Ext w wr∧w.heap.size≤wr.heap.size∧(∀ j,j<k→mbOk (ms j) intra)∧sliN ms intra k≤k*5000∧wr.ownsRow w.heap.size 93 2 v (sliN ms intra k) ((sliL ms intra k).map (Value.int .i64))) (fun _ i _=>n-(intOf i).toNat)
  case atStart=>exact⟨0,by omega,rfl,EA,hsA,fun j hj=>by omega,Nat.zero_le _,oA⟩
  case round =>
   obtain⟨k,hk,rfl,E2,hs2,hall,hsum,o2⟩:=hrel;clear EA oA hsA;obtain⟨al,cl,rfl⟩:=owns_form o2;have Hall:=Lib.hid hall;clear hall
   by_cases hlt:k<n
   ·obtain⟨hok,b,off,rfl,hcs⟩:=R.ext E2 k hlt;have hzl:=Mac.zs_len hok;have hkd:=hcs 0 (by omega);rw[Mac.zs_kind,Nat.add_zero]at hkd;have Hcs:=Lib.hid hcs;have HR:=Lib.hid R;have Hok:=Lib.hid hok;obtain⟨m,hm⟩:∃ m,m=ms k:=⟨_,rfl⟩;rw[←hm]at hkd hzl Hcs Hok;have HM:=Lib.hid hm;have Hzl:=Lib.hid hzl;clear hm hcs hok hzl R;go_wp2_with (refine wpList_cload 86 _ rfl rfl Hcs.out Hzl.out rfl _ Tryd.underlying86 rfl size_Macro ?_)
    refine(spec_MacroValid_any m _ Hok.out).mono ?_
    rintro e w3 ⟨rfl,e3⟩
    have hkd3:=cell_ext e3 hkd;have E3:=E2.trans e3
    by_cases hmb:mbOk m intra
    ·have hb:=mbN_le Hok.out hmb;have Hmb:=Lib.hid hmb;rw[decide_eq_true hmb.1];have hk2:intra=true→m.kind=2:=hmb.2;have Hcs3:=Lib.hid (fun j (hj:j<71)=>cell_ext e3 (Hcs.out j hj));have o3:=owns_ext o2 e3;have hs3:=Nat.le_trans hs2 e3.size;have HL:=Lib.hid (show sliL ms intra (k+1)=sliL ms intra k++mbL m intra by rw[HM.out];rfl);have HN:=Lib.hid (show sliN ms intra k+mbN m intra=sliN ms intra (k+1) by rw[HM.out];rfl);obtain⟨N2,hN2⟩:∃ N2,N2=sliN ms intra k:=⟨_,rfl⟩;rw[←hN2]at o3 hsum HN⊢;obtain⟨M2,hM2⟩:∃ M2,M2=mbN m intra:=⟨_,rfl⟩;rw[←hM2]at hb HN;have HM2:=Lib.hid hM2;clear hmb o2 hkd e3 hN2 hM2;cases intra
     case' true=>rw[hk2 rfl]at hkd3
     all_goals
      clear hk2;go_wp2_with (refine wpList_cload 86 _ rfl rfl Hcs3.out Hzl.out rfl _ Tryd.underlying86 rfl size_Macro ?_)
      refine(spec_l10Macro_mb m _ _ Hok.out Hmb.out).mono ?_;rw[←HM2.out]
      rintro e w5 ⟨a5,c5,rfl,o5,e5⟩
      obtain⟨g5,rfl⟩:=own_ptr o5 hb.1;have o4':=owns_ext o3 e5;have hB5:=Nat.le_trans hs3 e5.size;go_wp2_with (at_builtin;refine wpList_appk _ rfl o4' hB5 _ _ 78 rfl (.agg #[.int .i64 0,.int .i64 0]) 16 Tryd.underlying78 info_Bin rfl (by decide) rfl _ _ _ _ rfl o5.1 (o5.cells rfl) (one_ints _) (by omega) (by omega) ?_;intro v2 w6 own2 gr2 _;refine Hid.out ?_)
      refine Lib.hid ?_;obtain⟨a6,c6,rfl⟩:=owns_form own2;have E6:Ext w w6:=Ext.grown (E3.trans e5) gr2 (owns_ge o4');have hs6:=E6.size;have o6:=ownc own2 (show _=(sliL ms _ (k+1)).map (Value.int .i64) by rw[HL.out];simp);rw[HN.out]at o6⊢;clear own2 o5 o4' o3 e5 gr2 hkd3;go_wp2;go_roundw
      case rel =>
       refine⟨k+1,by omega,by go_num,E6,hs6,fun j hj => ?_,by have:=HN.out;omega,o6⟩
       by_cases e:j=k
       ·rw[e,←HM.out];exact Hmb.out
       ·exact Hall.out j (by omega)
      case measure=>simp[intOf];omega
    ·have Hno:=Lib.hid (show slcL ms intra n = [] by unfold slcL;rw[if_neg (fun h=>hmb (by rw[HM.out];exact h.2 k hlt))]);have e4:=Ext.alloc w3 (.cells #[] 5);have o0:=World.ownsRow_made (base:=w.heap.size) (e:=5) (size:=1) w3 #[] 0 E3.size (by simp) rfl;have E4:=E3.trans e4;clear e3 e4 E2 E3 o2
     by_cases hv:m.valid
     ·rw[decide_eq_true hv];have hn2:intra=true∧m.kind≠2:=by
       refine Classical.byContradiction fun h=>hmb ⟨hv,fun hi => ?_⟩
       exact Classical.byContradiction fun h2=>h ⟨hi,h2⟩
      obtain⟨rfl,hk2⟩:=hn2;have hdk:(m.kind == 2)=false:=by simpa using hk2
      clear hmb hv;go_wp2;go_ret
      rw[Hno.out];exact⟨_,_,rfl,o0,E4⟩
     ·rw[decide_eq_false hv];clear hmb hv;go_wp2;go_ret
      rw[Hno.out];exact⟨_,_,rfl,o0,E4⟩
   ·obtain rfl:k=n:=by omega
    have Hs:=Lib.hid (show slcL ms intra k=encS (sliL ms intra k) (sliN ms intra k) by unfold slcL;rw[if_pos ⟨h0,Hall.out⟩]);go_wp2_with fail
    refine(spec_EncodeBins_any al _ cl w.heap.size _ _ o2 (by omega)).mono ?_
    rintro e w4 ⟨a4,c4,rfl,o4,e4⟩
    have E4:=E2.trans e4;have o5:=owns_mono o4 hs2;clear o4 e4 E2 o2;go_wp2;go_ret
    rw[Hs.out];exact⟨_,_,rfl,o5,E4⟩
 ·have hs:slcL ms intra n = []:=by unfold slcL;rw[if_neg (fun h=>h0 h.1)]
  rw[hs];clear hs R;have E1:=(Ext.alloc w (.cells #[] 93)).trans (Ext.alloc _ (.cells #[] 5));have o0:=World.ownsRow_made (base:=w.heap.size) (e:=5) (size:=1) (w.alloc (.cells #[] 93)) #[] 0 (by simp) (by simp) rfl;rw[World.size_alloc]at o0;go_enter Tryd.func49,Tryd.ntmps49
  go_wp2_with fail
  refine(l1In_no _ _ _ _ (by omega)).mono ?_
  rintro e w' ⟨rfl,rfl⟩
  go_wp2;go_ret
  exact⟨_,_,rfl,o0,E1⟩
end Go.Proofs.YtmokncpppmchfaaDoor
namespace Go.Proofs.YtmokncpppmchfaaDoor
open Go.RowKit
theorem fill_seg1 (zs ys:List Int) (off:Nat) (h:off+zs.length≤ys.length):(ic zs).zipIdx.foldl (fun cs (x:Value×Nat)=>cs.setIfInBounds (off+x.2) x.1) (ic ys)=ic (spl ys off zs):=by
 have key:∀(zs ys:List Int) (k:Nat),off+k+zs.length≤ys.length→((zs.map (Value.int .i64)).zipIdx k).foldl (fun cs (x:Value×Nat)=>cs.setIfInBounds (off+x.2) x.1) (ic ys)=ic (spl ys (off+k) zs):=by
  intro zs
  induction zs with
  | nil=>intro ys k _;simp[spl_nil]
  | cons z zs ih =>
   intro ys k hk;simp only[List.length_cons]at hk;rw[List.map_cons,List.zipIdx_cons,List.foldl_cons];have e:(ic ys).setIfInBounds (off+k) (.int .i64 z)=ic (ys.set (off+k) z):=by simp[ic,List.map_set]
   rw[e,ih _ _ (by simp;omega),show off+(k+1)=off+k+1 by omega,spl_cons (by omega)]
 have:=key zs ys 0 (by omega);rw[Nat.add_zero]at this;rw[←this,←Array.foldl_toList];simp[ic]
theorem fill_cons1 {place:Nat→Option (Nat×Nat)} {i off size:Nat} {zs ys:List Int} (rest:List (Nat×Value)) (hp:place i=some (off,size)) (hz:zs.length=size) (h:off+size≤ys.length) :
 Instr.fill place (ic ys) ((i,.agg (ic zs))::rest)=Instr.fill place (ic (spl ys off zs)) rest:=by
 have hs:=fill_seg1 zs ys off (by omega);have e:Instr.fill place (ic ys) ((i,.agg (ic zs))::rest)=if(ic zs).size≠size || off+(ic zs).size>(ic ys).size then none else Instr.fill place ((ic zs).zipIdx.foldl (fun cs (x:Value×Nat)=>cs.setIfInBounds (off+x.2) x.1) (ic ys)) rest:=by
  rw[Instr.fill,hp];rfl
 rw[e,if_neg (by simp[ic_size];omega),hs]
theorem zrow1 : (Array.range (1*71)).map (fun i=>Tryd.zeroCells86[i%Tryd.zeroCells86.size]!)=ic (zl 71):=by kernel_rfl
theorem info_M1 : ∃ i,Tryd.prog.info? 86=some i∧i.zero=some (.agg Tryd.zeroCells86)∧i.size=71∧i.bytes=568:=by
 have:(Tryd.prog.info? 86).map (fun i=>(i.zero,i.size,i.bytes))=some (some (.agg Tryd.zeroCells86),71,568):=by kernel_rfl
 cases hq:Tryd.prog.info? 86 with
 | none=>rw[hq]at this;simp at this
 | some i=>rw[hq]at this;simp at this;exact⟨i,rfl,this.1,this.2.1,this.2.2⟩
theorem zeroM_size : (Value.agg Tryd.zeroCells86).cells.size=71:=by kernel_rfl
theorem run_bs1 (w:World) (z0:List Int) (h0:z0.length=71) :
 (Instr.buildSlice 75 1 #[(0,.agg (ic z0))]).run Tryd.prog w= .ok (.slice (some ⟨w.heap.size,0,none⟩) 1 1) (w.alloc (.cells (ic z0) 86)):=by
 obtain⟨i,hi,hz,hs,-⟩:=info_M1;have hspl:spl (zl 71) 0 z0=z0:=by unfold spl;rw[h0];simp[zl]
 have hf:Instr.fill (fun i=>some (i*71,71)) ((Array.range (1*71)).map (fun i=>Tryd.zeroCells86[i%Tryd.zeroCells86.size]!)) [(0,.agg (ic z0))]=some (ic z0):=by
  rw[zrow1,fill_cons1 _ rfl h0 (by rw[zl_len];omega),Nat.zero_mul,hspl];rfl
 have hsz:(sizeOf 86).run Tryd.prog w= .ok 71 w:=by simp[sizeOf,typeInfo,hi,hs]
 have hzv:(zeroValue 86).run Tryd.prog w= .ok (.agg Tryd.zeroCells86) w:=by simp[zeroValue,typeInfo,hi,hz]
 unfold Instr.buildSlice;rw[Sem.run_bind,run_underlying Tryd.underlying75 w,Result.andThen_ok];show Sem.run _ (do let size ←sizeOf 86;_) w=_;rw[Sem.run_bind,hsz,Result.andThen_ok,if_neg (by decide),if_neg (by decide)];simp only[Sem.run_bind,hzv,Result.andThen_ok,Sem.run_pure,Value.cells];rw[hf];rfl
theorem wpList_bs1 {ops:Array Oper} {rest:List Oper} {o:Oper} {a:Act} {w:World} {Q:Exit→Act→World→Prop} (x0:Operand) (ho:o.op= .buildSlice 75 1 #[(0,x0)]) (hgd:Region.wanted o (yielded ops a.tmps)=true)
 (z0:List Int) (e0:a.eval x0= .agg (ic z0)) (h0:z0.length=71)
 (hK:wpList Tryd.prog ops Q rest (a.put o.dst (.slice (some ⟨w.heap.size,0,none⟩) 1 1)) (w.alloc (.cells (ic z0) 86))):wpList Tryd.prog ops Q (o::rest) a w:=by
 refine wpList_wanted hgd fun _ hK' => ?_
 unfold Oper.wp execOp;have h:=run_bs1 w z0 h0;rw[←e0]at h;simp only[ho,List.map_toArray,List.map_cons,List.map_nil,Sem.run_bind,Sem.run_pure,Result.andThen_ok,h];exact hK' _ _ hK
/-- append(s, m), m the macroblock in the block just laid. -/
theorem wpList_app71 (wr:World) {ops:Array Oper} {rest:List Oper} {o:Oper} {a:Act} {Q:Exit→Act→World→Prop} {base:Nat} {v:Value} {n:Nat} {xs:List Value}
 (hown:wr.ownsRow base 86 71 v n xs) (hbase:base≤wr.heap.size) (zs:List Int) (hz:zs.length=71)
 (hg:o.guard=none) (s x:Operand) (ho:o.op= .call { callee := .builtin .append,args := #[s,x],argTypes := #[75,75] })
 (hs:a.eval s=v) (hx:a.eval x= .slice (some ⟨wr.heap.size,0,none⟩) 1 1) (hn:n<2^30)
 (h:∀ v' w',w'.ownsRow base 86 71 v' (n+1) (xs++zs.map (Value.int .i64))→wr.grownBy w' v.ownBlock→wpList Tryd.prog ops Q rest (a.put o.dst v') w'):wpList Tryd.prog ops Q (o::rest) a (wr.alloc (.cells (ic zs) 86)):=by
 obtain⟨i0,hi,hz0,hz1,hz2⟩:=info_M1;refine wpList_append_own _ hg s x 75 ho base 86 i0 _ 71 568 Tryd.underlying75 hi hz0 hz1 hz2 zeroM_size (by decide) v n xs hs (hown.alloc _) ⟨wr.heap.size,0,none⟩ 1 1 (zs.map (Value.int .i64)) hx (by simp[hz]) ?_ (by intro u hu;obtain⟨z,-,rfl⟩:=List.mem_map.1 hu;rfl) (by unfold maxLen;omega) (by omega) (by simp;omega) ?_
 ·intro j q hq;have hj:j<zs.length:=by
   have:=(List.getElem?_eq_some_iff.1 hq).1
   simpa using this
  rw[Addr.add_lit,Nat.zero_add,(IB.new wr 86 zs).cell hj];have e:(zs.map (Value.int .i64))[j]?=some (.int .i64 (nth zs j)):=by simp[nth,hj]
  rw[←e];exact hq
 ·intro v' w' a1 a2 _;exact h v' w' a1 (grownBy_trans (World.grownBy_alloc _ _ _) a2)
theorem Mac.ofz {zs:List Int} (h:zs.length=71):∃ m:Mac,m.ok∧m.zs=zs:=by
 match zs,h with
 | a::b::c::t,h =>
  refine⟨⟨a,b,c,t.take 4,t.drop 4⟩,⟨by simp at h⊢;omega,by simp at h⊢;omega⟩,?_⟩;simp[Mac.zs]
theorem mac_ex (zs:List Int):∃ m:Mac,m.ok∧(zs.length=71→m.zs=zs):=by
 by_cases h:zs.length=71
 ·obtain⟨m,h1,h2⟩:=Mac.ofz h;exact⟨m,h1,fun _=>h2⟩
 ·exact⟨mac0,mac0_ok,fun h2=>absurd h2 h⟩
noncomputable def macOf (zs : List Int) : Mac := Classical.choose (mac_ex zs)
theorem macOf_ok (zs:List Int):(macOf zs).ok:=(Classical.choose_spec (mac_ex zs)).1
theorem macOf_zs {zs:List Int} (h:zs.length=71):(macOf zs).zs=zs:=(Classical.choose_spec (mac_ex zs)).2 h
theorem MR.of_own {w:World} {H n c:Nat} {a:Option Addr} {L:List Int} (h:w.ownsRow H 86 71 (.slice a n c) n (L.map (Value.int .i64))):MR w a n (fun i=>macOf (sub L (i*71) 71)):=by
 have hl:L.length=n*71:=by simpa using h.1
 intro i hi;refine⟨macOf_ok _,?_⟩;have hs:(sub L (i*71) 71).length=71:=sub_len _ _ _ (by omega);rcases id h.2 with⟨hv,h0⟩|⟨g,cap,cur,hv,-⟩
 ·omega
 ·simp only[Value.slice.injEq]at hv;obtain⟨rfl,-,rfl⟩:=hv;refine⟨g,0,rfl,fun j hj => ?_⟩;simp only;rw[macOf_zs hs,nth_sub _ _ _ _ hj,Nat.zero_add,h.cellAt _ (by omega)];have hb:i*71+j<L.length:=by omega
  simp[nth,hb]
theorem l20Macros_c (b P many:Nat) (intra:Bool) (w:World) (h:RdP w b P) (hp:P<2^36) (hm:many≤1000) :
 Calls Tryd.prog 50 #[.pointer (some ⟨b,0,none⟩),.int .i64 (many:Nat),.bool intra] w fun e w'=>∃(a:Option Addr) (c:Nat) (L:List Int),e= .returned (.slice a many c)∧w'.ownsRow w.heap.size 86 71 (.slice a many c) many (L.map (Value.int .i64))∧RdP w' b (P+many*600)∧w.grownBy w' (some b):=by
 have hbw:b<w.heap.size:=h.lt;have oA:=World.ownsRow_made (base:=w.heap.size) (e:=86) (size:=71) w #[] 0 (Nat.le_refl _) (by simp) rfl;have EA:=Ext.alloc w (.cells #[] 86);have D0:DG w b P 0 0 (w.alloc (.cells #[] 86)):=⟨ext_gr EA,by rw[Nat.zero_mul,Nat.add_zero];exact h.ext EA⟩;have hsA:=EA.size;go_enter Tryd.func50,Tryd.ntmps50
 go_wp2_with fail
 go_loopw [7,8] (fun v i wr=>∃(k:Nat) (L:List Int),k≤many∧i= .int .i64 (k:Nat)∧wr.ownsRow w.heap.size 86 71 v k (L.map (Value.int .i64))∧w.grownBy wr (some b)∧RdP wr b (P+k*600)∧w.heap.size≤wr.heap.size) (fun _ i _=>many-(intOf i).toNat)
 case atStart=>exact⟨0,[],by omega,rfl,oA,D0.1,by have:=D0.2;simpa using this,hsA⟩
 case round =>
  obtain⟨k,L,hk,rfl,o2,g2,r2,hs2⟩:=hrel;clear oA EA D0 hsA;obtain⟨al,cl,rfl⟩:=owns_form o2
  by_cases hlt:k<many
  ·go_wp2_with fail
   refine(l20Macro_c b _ intra 0 _ r2 (by omega) (by omega) (by omega)).mono ?_
   rintro e w3 ⟨zs,rfl,hzl,-,r3,g3⟩
   have o3:=own_gr o2 g3 hbw;have gg:=grown_trans g2 g3;have hs3:=Nat.le_trans hs2 g3.size;have Hzl:=Lib.hid hzl;have r3':=r3.mono (P':=P+(k+1)*600) (by omega);clear o2 g2 r2 r3 g3 hzl;go_wp2_with (first|(at_builtin;refine wpList_app71 _ o3 hs3 zs Hzl.out rfl _ _ rfl rfl rfl (by omega) ?_;intro v6 w6 own6 gr6;refine Hid.out ?_)|refine wpList_bs1 _ rfl rfl zs rfl Hzl.out ?_)
   refine Lib.hid ?_;have D6:=(show DG w b (P+(k+1)*600) 0 0 w3 from ⟨gg,r3'⟩).own gr6 (owns_ge o3) hbw;have o6:w6.ownsRow w.heap.size 86 71 v6 (k+1) ((L++zs).map (Value.int .i64)):=by rw[List.map_append];exact own6
   have hs6:=D6.1.size;clear own6 gr6 o3 r3' gg;go_wp2;go_roundw
   case rel=>exact⟨k+1,L++zs,by omega,by go_num,o6,D6.1,D6.2,hs6⟩
   case measure=>simp[intOf];omega
  ·obtain rfl:k=many:=by omega
   go_wp2;go_ret
   exact⟨_,_,_,rfl,o2,r2,g2⟩
/-- One more behind the first k. -/
def fx (f:Nat→List Int) (k:Nat) (xs:List Int) (i:Nat):List Int:=if i<k then f i else xs
theorem fx_lt {f:Nat→List Int} {k i:Nat} {xs:List Int} (h:i<k):fx f k xs i=f i:=if_pos h
theorem fx_eq {f:Nat→List Int} {k:Nat} {xs:List Int} : fx f k xs k=xs:=if_neg (Nat.lt_irrefl k)
/-- The slice at a reads as the bytes xs, in a block of bytes. -/
def BA (w:World) (a:Option Addr) (c:Nat) (xs:List Int):Prop :=
 (xs.length≤c∧c≤maxLen)∧∀ j,j<xs.length→∃ b o arr,a=some ⟨b,o,none⟩∧w.heap[b]?=some (.cells arr 5 (0,0))∧arr[o+j]?=some (.int .u8 (nth xs j))
theorem BA.ext {w w':World} {a:Option Addr} {c:Nat} {xs:List Int} (h:BA w a c xs) (e:Ext w w'):BA w' a c xs:=⟨h.1,fun j hj=>by
 obtain⟨b,o,arr,h1,h2,h3⟩:=h.2 j hj;exact⟨b,o,arr,h1,e.blk h2,h3⟩⟩
theorem BA.gr {w w':World} {a:Option Addr} {c q T:Nat} {xs:List Int} {ar:Array Value} (h:BA w a c xs) (g:w.grownBy w' (some q)) (hq:w.heap[q]?=some (.cells ar T (0,0))) (hT:5≠T):BA w' a c xs:=⟨h.1,fun j hj=>by
 obtain⟨b,o,arr,h1,h2,h3⟩:=h.2 j hj;refine⟨b,o,arr,h1,blk_gr h2 g (fun e => ?_),h3⟩;obtain rfl:q=b:=by simpa using e
 rw[hq]at h2;simp at h2;exact hT h2.2.symm⟩
theorem BA.own {w w':World} {a:Option Addr} {B T s n c:Nat} {v:Value} {xs:List Int} {us:List Value} (h:BA w a c xs) (o:w.ownsRow B T s v n us) (hT:5≠T) (g:w.grownBy w' v.ownBlock):BA w' a c xs:=by
 rcases o.2 with⟨rfl,-⟩|⟨q,cap,cur,rfl,-,p1,-⟩
 ·exact h.ext (ext_noneJ g rfl)
 ·exact h.gr g p1 hT
theorem BA.of_own {w:World} {H n c:Nat} {a:Option Addr} {xs:List Int} (h:w.ownsRow H 5 1 (.slice a n c) n (xs.map (Value.int .u8))):BA w a c xs:=by
 have hl:xs.length=n:=by simpa using h.1
 rcases id h.2 with⟨hv,h0⟩|⟨g,cap,cur,hv,-,p1,p2,p3,p4,p5⟩
 ·simp only[Value.slice.injEq]at hv;obtain⟨-,-,rfl⟩:=hv;exact⟨⟨by omega,by simp[maxLen]⟩,fun j hj=>by omega⟩
 ·simp only[Value.slice.injEq]at hv;obtain⟨rfl,-,rfl⟩:=hv;refine⟨⟨by omega,p3⟩,fun j hj=>⟨g,0,cur,rfl,p1,?_⟩⟩;have h2:(xs.map (Value.int .u8))[j]?=some (.int .u8 (nth xs j)):=by simp[nth,hj]
  rw[←p5,List.getElem?_take_of_lt (by omega),Array.getElem?_toList]at h2;rw[Nat.zero_add];exact h2
theorem BA.sl {w:World} {a:Option Addr} {c:Nat} {xs:List Int} (h:BA w a c xs):Sl w a xs.length (xs.map (Value.int .u8)):=by
 refine⟨by simp,fun j hj => ?_⟩;obtain⟨b,o,arr,rfl,h2,h3⟩:=h.2 j hj;refine⟨b,o,rfl,?_⟩;simp only[World.cell?,h2,h3];simp[nth,hj]
/-- A list of k slices of the call's own, which reads as f. -/
def CRw (w:World) (lo:Nat) (v:Value) (k:Nat) (f:Nat→List Int) (cs:List Value):Prop :=
 w.ownsRow lo 30 1 v k cs∧∀ i,i<k→∃ a c,cs[i]?=some (.slice a (f i).length c)∧BA w a c (f i)
theorem CRw.ext {w w':World} {lo k:Nat} {v:Value} {f:Nat→List Int} {cs:List Value} (h:CRw w lo v k f cs) (e:Ext w w'):CRw w' lo v k f cs:=⟨owns_ext h.1 e,fun i hi=>by
 obtain⟨a,c,h1,h2⟩:=h.2 i hi;exact⟨a,c,h1,h2.ext e⟩⟩
theorem CRw.gr {w w':World} {lo k q T:Nat} {v:Value} {f:Nat→List Int} {cs:List Value} {ar:Array Value} (h:CRw w lo v k f cs) (g:w.grownBy w' (some q)) (hq:w.heap[q]?=some (.cells ar T (0,0))) (h1:5≠T) (h2:30≠T):CRw w' lo v k f cs:=⟨h.1.kept g (own_ne_blk h.1 hq h2),fun i hi=>by
 obtain⟨a,c,k1,k2⟩:=h.2 i hi;exact⟨a,c,k1,k2.gr g hq h1⟩⟩
/-- One slice more is appended. -/
theorem CRw.app {w w':World} {lo k:Nat} {v v':Value} {f:Nat→List Int} {cs:List Value} {a1:Option Addr} {c1:Nat} {xs:List Int} (h:CRw w lo v k f cs) (o:w'.ownsRow lo 30 1 v' (k+1) (cs ++ [.slice a1 xs.length c1])) (g:w.grownBy w' v.ownBlock) (hx:BA w a1 c1 xs):CRw w' lo v' (k+1) (fx f k xs) (cs ++ [.slice a1 xs.length c1]):=by
 have hl:cs.length=k:=by have:=h.1.1;omega
 refine⟨o,fun i hi => ?_⟩
 by_cases e:i=k
 ·subst e;refine⟨a1,c1,?_,?_⟩
  ·rw[fx_eq,List.getElem?_append_right (by omega),hl];simp
  ·rw[fx_eq];exact hx.own h.1 (by decide) g
 ·obtain⟨a,c,k1,k2⟩:=h.2 i (by omega);refine⟨a,c,?_,?_⟩
  ·rw[fx_lt (by omega),List.getElem?_append_left (by omega)];exact k1
  ·rw[fx_lt (by omega)];exact k2.own h.1 (by decide) g
/-- Slices of at most 60004 bytes. -/
def okF (f:Nat→List Int) (k:Nat):Prop:=∀ i,i<k→(f i).length≤60004∧bytL (f i)
theorem okF.fx {f:Nat→List Int} {k:Nat} {xs:List Int} (h:okF f k) (hl:xs.length≤60004) (hb:bytL xs):okF (fx f k xs) (k+1):=fun i hi=>by
 by_cases e:i=k
 ·rw[e,fx_eq];exact⟨hl,hb⟩
 ·rw[fx_lt (by omega)];exact h i (by omega)
/-- The slice at a of n slices reads as f. -/
def SQ (w:World) (a:Option Addr) (n:Nat) (f:Nat→List Int):Prop :=
 ∀ i,i<n→∃ b o arr,a=some ⟨b,o,none⟩∧w.heap[b]?=some (.cells arr 30 (0,0))∧∃ a2 c2,arr[o+i]?=some (.slice a2 (f i).length c2)∧BA w a2 c2 (f i)
theorem SQ.ext {w w':World} {a:Option Addr} {n:Nat} {f:Nat→List Int} (h:SQ w a n f) (e:Ext w w'):SQ w' a n f:=fun i hi=>by
 obtain⟨b,o,arr,h1,h2,a2,c2,h3,h4⟩:=h i hi;exact⟨b,o,arr,h1,e.blk h2,a2,c2,h3,h4.ext e⟩
theorem SQ.gr {w w':World} {a:Option Addr} {n q T:Nat} {f:Nat→List Int} {ar:Array Value} (h:SQ w a n f) (g:w.grownBy w' (some q)) (hq:w.heap[q]?=some (.cells ar T (0,0))) (t1:5≠T) (t2:30≠T):SQ w' a n f:=fun i hi=>by
 obtain⟨b,o,arr,h1,h2,a2,c2,h3,h4⟩:=h i hi;refine⟨b,o,arr,h1,blk_gr h2 g (fun e => ?_),a2,c2,h3,h4.gr g hq t1⟩;obtain rfl:q=b:=by simpa using e
 rw[hq]at h2;simp at h2;exact t2 h2.2.symm
theorem SQ.own {w w':World} {a:Option Addr} {n B T s m:Nat} {v:Value} {f:Nat→List Int} {us:List Value} (h:SQ w a n f) (o:w.ownsRow B T s v m us) (t1:5≠T) (t2:30≠T) (g:w.grownBy w' v.ownBlock):SQ w' a n f:=by
 rcases o.2 with⟨rfl,-⟩|⟨q,cap,cur,rfl,-,p1,-⟩
 ·exact h.ext (ext_noneJ g rfl)
 ·exact h.gr g p1 t1 t2
theorem SQ.ss {w:World} {a:Option Addr} {n:Nat} {f:Nat→List Int} (h:SQ w a n f):SS w a n (lst n f):=SS.of fun i hi=>by
 obtain⟨b,o,arr,h1,h2,a2,c2,h3,h4⟩:=h i hi;exact⟨b,o,h1,a2,c2,by simp[World.cell?,h2,h3],h4.sl,h4.1.1,h4.1.2⟩
theorem CRw.sq {w:World} {lo n c:Nat} {a:Option Addr} {f:Nat→List Int} {cs:List Value} (h:CRw w lo (.slice a n c) n f cs):SQ w a n f∧n≤c∧c≤maxLen:=by
 refine⟨fun i hi => ?_,owns_cap h.1⟩;obtain⟨a2,c2,k1,k2⟩:=h.2 i hi;rcases id h.1.2 with⟨hv,h0⟩|⟨g,cap,cur,hv,-,p1,p2,p3,p4,p5⟩
 ·omega
 ·simp only[Value.slice.injEq]at hv;obtain⟨rfl,-,rfl⟩:=hv;refine⟨g,0,cur,rfl,p1,a2,c2,?_,k2⟩;rw[←p5,List.getElem?_take_of_lt (by omega),Array.getElem?_toList]at k1;rw[Nat.zero_add];exact k1
theorem SQ.tail {w:World} {b o n:Nat} {f:Nat→List Int} (h:SQ w (some ⟨b,o,none⟩) (n+1) f):SQ w (some ⟨b,o+1,none⟩) n (fun i=>f (i+1)):=fun i hi=>by
 obtain⟨b1,o1,arr,h1,h2,a2,c2,h3,h4⟩:=h (i+1) (by omega);simp only[Option.some.injEq,Addr.mk.injEq,and_true]at h1;obtain⟨rfl,rfl⟩:=h1;exact⟨b,o+1,arr,rfl,h2,a2,c2,by rw[show o+1+i=o+(i+1) by omega];exact h3,h4⟩
theorem l20Small_c (b P:Nat) (w:World) (h:RdP w b P) (hp:P<2^38) :
 Calls Tryd.prog 45 #[.pointer (some ⟨b,0,none⟩)] w fun e w'=>∃ x:Nat,e= .returned (.int .i64 (8*x:Nat))∧1≤x∧x≤3∧RdP w' b (P+1)∧w.grownBy w' (some b):=by
 have hbw:b<w.heap.size:=h.lt;have e1:=Ext.alloc w (.cells #[.int .i64 1,.int .i64 1,.int .i64 2,.int .i64 2,.int .i64 3] 3);have S1:=blk_new w (.cells #[.int .i64 1,.int .i64 1,.int .i64 2,.int .i64 2,.int .i64 3] 3);go_enter Tryd.func45,Tryd.ntmps45
 go_wp2_with fail
 refine(pick_c b _ 5 _ (h.ext e1) (by omega) (by omega) (by omega)).mono ?_
 rintro e w2 ⟨x,rfl,xa,xb,r2,g2⟩
 have S2:=gr_blk g2 S1 (by omega);have G2:=grown_trans (ext_gr e1) g2;clear S1 e1 h g2;have hc:∀(i:Nat) (v:Value),(#[Value.int .i64 1,.int .i64 1,.int .i64 2,.int .i64 2,.int .i64 3])[i]?=some v→w2.cell? ⟨w.heap.size,i,none⟩=some v:=fun i v hv=>by simp only[World.cell?,S2];exact hv
 have k0:=hc 0 _ rfl;have k1:=hc 1 _ rfl;have k2:=hc 2 _ rfl;have k3:=hc 3 _ rfl;have k4:=hc 4 _ rfl;clear hc S2;obtain rfl|rfl|rfl|rfl|rfl:x=0∨x=1∨x=2∨x=3∨x=4:=by omega
 ·go_wp2;go_ret
  exact⟨1,rfl,by omega,by omega,r2,G2⟩
 ·go_wp2;go_ret
  exact⟨1,rfl,by omega,by omega,r2,G2⟩
 ·go_wp2;go_ret
  exact⟨2,rfl,by omega,by omega,r2,G2⟩
 ·go_wp2;go_ret
  exact⟨2,rfl,by omega,by omega,r2,G2⟩
 ·go_wp2;go_ret
  exact⟨3,rfl,by omega,by omega,r2,G2⟩
end Go.Proofs.YtmokncpppmchfaaDoor
