/- The runs of a block and their decisions: the reference. | The checksum (plain): bit by bit, by a table, and that one changed byte changes it. | Packets (plain): their bytes, and what can be read back. | Checksum: contracts. | append(dst, x, y, ..) onto a row of the call's own. | Packets: contracts of their validity and bytes. | Packets: contracts of PacketBytes. | string(bytes). | Packets: contracts of ReadPacket's helpers. | The exact laws' helpers over byte strings and lists of them: size, copy, compare, mark, hold. | Packets: the helpers of their exact laws. | Packets: contract of the program's ReadPacket. | The reference's SignedValue and BlockOf: they answer. | A block of levels, read: the reference's l10Levels. | The head of a macroblock, read: the reference's l10Head. | The range coder: the reference's BinsValid and EncodeBins. | The decisions for a block: the reference. -/
import Derived.Test.YtphfacfjhjcllaaQb4
import Derived.Deep.WholeRow
import Derived.Laws.BytesArg
import Derived.Lib.Bytes
import Derived.StillTailTactics
set_option linter.unusedVariables false
set_option linter.unusedSimpArgs false
set_option maxRecDepth 100000
set_option maxHeartbeats 16000000
namespace Go.Proofs.Ytphfacfjhjcllaa
open Go.RowKit
theorem FR.owns {b0 T U b s n:Nat} {v:Value} {xs:List Value} {w w':World} (f:FR b0 T w w') (h:w.ownsRow b U s v n xs) (hne:U≠T):w'.ownsRow b U s v n xs:=by
 refine⟨h.1,?_⟩;rcases h.2 with h2|⟨g,cap,cur,hv,hb,hg,rest⟩
 ·exact .inl h2
 ·exact .inr ⟨g,cap,cur,hv,hb,f.blk hg hne,rest⟩
theorem own_ptr {w:World} {b U s n:Nat} {a:Option Addr} {c:Nat} {xs:List Value} (h:w.ownsRow b U s (.slice a n c) n xs) (hn:0<n):∃ g,a=some ⟨g,0,none⟩:=by
 rcases h.2 with⟨-,h0⟩|⟨g,cap,cur,hv,-⟩
 ·omega
 ·simp only[Value.slice.injEq]at hv;exact⟨g,hv.1⟩
theorem one_ints (zs:List Int):∀ u∈zs.map (Value.int .i64),u.oneCell'=true:=by
 intro u hu;obtain⟨z,-,rfl⟩:=List.mem_map.1 hu;rfl
theorem run_new (w:World) (c b:Int):Sl (w.alloc (.cells #[.int .i64 c,.int .i64 b] 113)) (some ⟨w.heap.size,0,none⟩) 2 [.int .i64 c,.int .i64 b]:=Sl_new w [.int .i64 c,.int .i64 b] 113
/-- Runs as numbers. -/
def flatR (l:List (Int×Int)):List Int:=l.flatMap fun r => [r.1,r.2]
theorem flatR_snoc (l:List (Int×Int)) (r:Int×Int):flatR (l ++ [r])=flatR l ++ [r.1,r.2]:=by simp[flatR]
theorem flatR_len : ∀ l:List (Int×Int),(flatR l).length=l.length*2
 | []=>rfl
 | r::l=>by
  have:=flatR_len l;simp only[flatR,List.flatMap_cons,List.length_append,List.length_cons,List.length_nil]at this⊢;omega
theorem nth_flatR : ∀(l:List (Int×Int)) (k:Nat),k<l.length→nth (flatR l) (k*2)=(l.getD k (0,0)).1∧nth (flatR l) (k*2+1)=(l.getD k (0,0)).2
 | [],k,h=>by simp at h
 | r::l,0,_=>⟨rfl,rfl⟩
 | r::l,k+1,h=>by
  have ih:=nth_flatR l k (by simpa using h);have e:flatR (r::l)=r.1::r.2::flatR l:=rfl;rw[e,show(k+1)*2=k*2+1+1 by omega];exact ih
/-- The runs' numbers are in range. -/
theorem runT_rng {zs:List Int} {Bd:Int} (hl:zs.length=16) (hB:bdI Bd zs):∀ k,k≤16→∀ j,j<(runT zs k).2.length→0≤((runT zs k).2.getD j (0,0)).1∧((runT zs k).2.getD j (0,0)).1≤15∧((runT zs k).2.getD j (0,0)).2≠0 ∧ -Bd≤((runT zs k).2.getD j (0,0)).2∧((runT zs k).2.getD j (0,0)).2≤Bd
 | 0,_,j,h=>by simp[runT]at h
 | k+1,hk,j,h=>by
  have ih:=runT_rng hl hB k (by omega);have hz:=runT_le zs k;unfold runT at h⊢
  by_cases h0:nth zs (nth scanL k).toNat=0
  ·rw[if_pos h0]at h⊢;exact ih j h
  ·rw[if_neg h0]at h⊢;simp only[List.length_append,List.length_cons,List.length_nil]at h
   by_cases hj:j<(runT zs k).2.length
   ·have e:((runT zs k).2 ++ [(((runT zs k).1:Int),nth zs (nth scanL k).toNat)]).getD j (0,0)=(runT zs k).2.getD j (0,0):=by
     simp[List.getD,List.getElem?_append_left hj]
    rw[e];exact ih j hj
   ·have hj2:j=(runT zs k).2.length:=by omega
    have e:((runT zs k).2 ++ [(((runT zs k).1:Int),nth zs (nth scanL k).toNat)]).getD j (0,0)=(((runT zs k).1:Int),nth zs (nth scanL k).toNat):=by
     rw[hj2];simp[List.getD]
    obtain⟨s0,s1⟩:=scan_rng k (by omega);have hb:=hB (nth scanL k).toNat (by omega);rw[e];exact⟨by omega,by omega,h0,hb.1,hb.2⟩
/-- The decisions for a block: the first k runs. -/
def bkL (zs:List Int):Nat→List Int
 | 0=>numL (runsL zs).length 16
 | k+1=>bkL zs k++(numL ((runsL zs).getD k (0,0)).1.toNat 23++numL (sidx ((runsL zs).getD k (0,0)).2-1).toNat 30)
def bkN (zs:List Int):Nat→Nat
 | 0=>numN (runsL zs).length
 | k+1=>bkN zs k+(numN ((runsL zs).getD k (0,0)).1.toNat+numN (sidx ((runsL zs).getD k (0,0)).2-1).toNat)
/-- The decisions for a block. -/
def blkB (zs:List Int):List Int:=bkL zs (runsL zs).length
def blkC (zs:List Int):Nat:=bkN zs (runsL zs).length
theorem runL_rng {zs:List Int} (hl:zs.length=16) (hB:bdI 4080 zs) {k:Nat} (hk:k<(runsL zs).length):∃ z s:Nat,((runsL zs).getD k (0,0)).1=z∧z≤15∧sidx ((runsL zs).getD k (0,0)).2-1=s∧s≤8160 ∧ -4080≤((runsL zs).getD k (0,0)).2∧((runsL zs).getD k (0,0)).2≤4080:=by
 obtain⟨h1,h2,h3,h4,h5⟩:=runT_rng hl hB 16 (Nat.le_refl _) k hk;show ∃ z s:Nat,((runT zs 16).2.getD k (0,0)).1=z∧z≤15∧sidx ((runT zs 16).2.getD k (0,0)).2-1=s∧s≤8160 ∧ -4080≤((runT zs 16).2.getD k (0,0)).2∧((runT zs 16).2.getD k (0,0)).2≤4080;generalize (runT zs 16).2.getD k (0,0)=r at *;refine⟨r.1.toNat,(sidx r.2-1).toNat,by omega,by omega,?_,?_,h4,h5⟩
 ·unfold sidx;split <;> omega
 ·unfold sidx;split <;> omega
theorem bkN_le {zs:List Int} (hl:zs.length=16) (hB:bdI 4080 zs):∀ k,k≤(runsL zs).length→bkN zs k≤31+k*62
 | 0,_=>by have:=runsL_len zs;exact numN_le (by omega)
 | k+1,hk=>by
  have ih:=bkN_le hl hB k (by omega);obtain⟨z,s,e1,h1,e2,h2,-,-⟩:=runL_rng hl hB (show k<(runsL zs).length by omega);have q1:numN ((runsL zs).getD k (0,0)).1.toNat≤31:=numN_le (by omega);have q2:numN (sidx ((runsL zs).getD k (0,0)).2-1).toNat≤31:=numN_le (by omega);rw[bkN];omega
theorem blkC_le {zs:List Int} (hl:zs.length=16) (hB:bdI 4080 zs):blkC zs≤1023:=by
 have h1:=bkN_le hl hB _ (Nat.le_refl _);have h2:=runsL_len zs;unfold blkC;omega
theorem spec_RunsOf_any (zs:List Int) (w:World) (hl:zs.length=16) :
 Calls Try.prog 65 #[.agg (ic zs)] w fun e w'=>∃ a c,e= .returned (.slice a (runsL zs).length c)∧w'.ownsRow w.heap.size 113 2 (.slice a (runsL zs).length c) (runsL zs).length ((flatR (runsL zs)).map (Value.int .i64))∧Ext w w':=by
 have Hl:=Lib.hid hl;obtain⟨Bx,hBx⟩:∃ Bx,Bx=w.heap.size:=⟨_,rfl⟩;have E0:=(Ext.alloc w (.cells (ic zs) 81)).trans (Ext.alloc _ (.cells #[] 113));have I0:=(IB.new w 81 zs).alloc (.cells #[] 113);have o0:=World.ownsRow_made (base:=Bx+1) (e:=113) (size:=2) (w.alloc (.cells (ic zs) 81)) #[] 0 (by simp[hBx]) (by simp) rfl;have z0:Bx+1≤((w.alloc (.cells (ic zs) 81)).alloc (.cells #[] 113)).heap.size:=by simp[hBx]
 rw[World.size_alloc]at o0;rw[←hBx]at I0 o0;have HB:=Lib.hid hBx;clear hl;go_enter Try.func65,Try.ntmps65
 go_wp2_with fail
 try simp only[World.size_alloc]
 rw[←hBx];clear hBx;generalize (w.alloc (.cells (ic zs) 81)).alloc (.cells #[] 113)=w1 at *;refine(spec_ScanOrder_any _).mono ?_
 rintro e w2 ⟨ga,gc,rfl,og,e2⟩
 obtain⟨g,rfl⟩:=own_ptr og (by omega);have I2:=I0.ext e2;have o2:=owns_ext o0 e2;have E2:=E0.trans e2;have z2:=Nat.le_trans z0 e2.size;have F2:=FR.refl (Bx+1) 113 w2;have oz:=World.ownsRow_nil w2 0 3 1;clear I0 o0 E0 z0 e2;go_wp2_with fail
 go_loopw [3,5,6] (fun v zr y wr=>∃ k:Nat,k≤16∧y= .int .i64 k∧zr= .int .i64 ((runT zs k).1:Nat)∧wr.ownsRow (Bx+1) 113 2 v (runT zs k).2.length ((flatR (runT zs k).2).map (Value.int .i64))∧FR (Bx+1) 113 w2 wr) (fun _ _ y _=>16-(intOf y).toNat)
 case atStart=>exact⟨0,by omega,rfl,rfl,o2,F2⟩
 case round =>
  obtain⟨k,hk,rfl,rfl,o3,F3⟩:=hrel;clear o2 F2;obtain⟨a3,c3,rfl⟩:=owns_form o3;have hB3:=Nat.le_trans z2 F3.size
  by_cases hlt:k<16
  ·have hd:decide ((k:Int)<16)=true:=by simp;omega
   obtain⟨s0,s1⟩:=scan_rng k hlt;have HST:=Lib.hid (show runT zs (k+1)=if nth zs (nth scanL k).toNat=0 then((runT zs k).1+1,(runT zs k).2)else(0,(runT zs k).2 ++ [(((runT zs k).1:Int),nth zs (nth scanL k).toNat)])from rfl);have hz:=runT_le zs k;have hln:=runT_len zs k;obtain⟨q,hq⟩:∃ q:Nat,nth scanL k=(q:Int):=⟨(nth scanL k).toNat,by omega⟩;rw[hq,Int.toNat_natCast]at HST;rw[hq]at s0 s1;have og3:=Sl.of_owns (F3.owns og (by decide));obtain⟨g1,o1,he,hcg⟩:=og3.int hlt;rw[hq]at hcg;cases he;rw[Nat.zero_add]at hcg;have hcl:=(F3.ib I2 (by decide)).cell (i:=q) (by rw[Hl.out];omega);obtain⟨z,hzz⟩:∃ z,z=(runT zs k).1:=⟨_,rfl⟩;obtain⟨R,hR⟩:∃ R,R=(runT zs k).2:=⟨_,rfl⟩;rw[←hzz,←hR]at HST;rw[←hzz]at hz⊢;rw[←hR]at o3 hln⊢;generalize nth zs q=lv at *;clear hzz hR hq og3;have hq16:(q:Int)<16:=by omega
   by_cases h0:lv=0
   ·subst h0;have HS:=Lib.hid (show runT zs (k+1)=(z+1,R) by rw[HST.out,if_pos rfl]);clear HST;go_wp2;go_roundw
    case rel=>exact⟨k+1,by omega,by go_num,by rw[HS.out];go_num,by rw[HS.out];exact o3,F3⟩
    case measure=>simp[intOf] <;> omega
   ·have hd0:(lv == 0)=false:=by simpa using h0
    have HS:=Lib.hid (show runT zs (k+1)=(0,R ++ [((z:Int),lv)]) by rw[HST.out,if_neg h0]);clear HST;go_wp2_with (at_builtin;refine wpList_appk _ rfl (o3.alloc _) (by simp;omega) _ _ 111 rfl (.agg #[.int .i64 0,.int .i64 0]) 16 Try.underlying111 info_Run rfl (by decide) rfl ⟨wr.heap.size,0,none⟩ 1 1 [.int .i64 _,.int .i64 _] rfl rfl ((run_new wr _ _).cellsOf _ (by simp)) (by intro u hu;simp at hu;rcases hu with rfl|rfl <;> rfl) (by omega) (by omega) ?_;intro v2 w2 own2 gr2 _;refine Hid.out ?_)
    refine Lib.hid ?_;obtain⟨a4,c4,rfl⟩:=owns_form own2;have F4:=(F3.trans (FR.of_ext (Ext.alloc wr (.cells #[_,_] 113)) hB3)).trans (FR.of_row (o3.alloc _) gr2 (by simp;omega));go_wp2;go_roundw
    case rel=>exact⟨k+1,by omega,by go_num,by rw[HS.out];rfl,by rw[HS.out,flatR_snoc,List.length_append,List.map_append];exact own2,F4⟩
    case measure=>simp[intOf] <;> omega
  ·have HK:=Lib.hid (show k=16 by omega);have hd:decide ((k:Int)<16)=false:=by simp;omega
   have HR:=Lib.hid (show(runT zs k).2=runsL zs by rw[HK.out];rfl);rw[HR.out]at o3⊢;have hlo:Below (Bx+1) w2 wr:=F3.lo;go_wp2;go_ret
   exact⟨_,_,rfl,owns_mono o3 (by have:=HB.out;omega),Below.trans E2 (hlo.mono (by have:=HB.out;omega))⟩
end Go.Proofs.Ytphfacfjhjcllaa
namespace Go.Proofs.Ytphfacfjhjcllaa

/-- One doubling. -/
def cs1 (n:Nat):Nat:=if 32768≤n then(2*n-65536) ^^^ 4129 else 2*n
def csN : Nat→Nat→Nat
 | 0,n=>n
 | k+1,n=>cs1 (csN k n)
/-- One byte. -/
def csB (n b:Nat):Nat:=csN 8 (n ^^^ b*256)
def crcFrom (n:Nat) (l:List Int):Nat:=l.foldl (fun n b=>csB n b.toNat) n
def crc (l:List Int):Nat:=crcFrom 65535 l
def tabv (b:Nat):Nat:=csN 8 (b*256)
attribute [local irreducible] cs1
attribute [local irreducible] csN
attribute [local irreducible] csB
end Go.Proofs.Ytphfacfjhjcllaa
namespace Go.Proofs.Ytphfacfjhjcllaa

structure Pkt where
 num:Int
 fr:Int
 row:Int
 part:Int
 last:Bool
 data:List Int
def pkt0 : Pkt:=⟨0,0,0,0,false,[]⟩
/-- A valid packet of n bytes. -/
def pval (num fr row part:Int) (n:Nat):Prop:=0≤num∧num≤9999∧0≤fr∧fr≤9999∧0≤row∧row<4∧0≤part∧part≤255∧1≤n∧n≤200
instance (num fr row part : Int) (n : Nat) : Decidable (pval num fr row part n) := by unfold pval; infer_instance
def Pkt.ok (p:Pkt):Prop:=pval p.num p.fr p.row p.part p.data.length
instance (p : Pkt) : Decidable p.ok := by unfold Pkt.ok; infer_instance
def flag (b:Bool):Int:=if b then 1 else 0
def pair (n:Int):List Int := [n/256,n%256]
def phead (p:Pkt):List Int := [p.num/256,p.num%256,p.fr/256,p.fr%256,p.row,p.part,flag p.last]
def pbody (p:Pkt):List Int:=phead p++p.data
/-- PacketBytes. -/
def pby (p:Pkt):List Int:=if p.ok then pbody p++pair (crc (pbody p))else []
def parse (l:List Int):Pkt:=⟨nth l 0*256+nth l 1,nth l 2*256+nth l 3,nth l 4,nth l 5,decide (nth l 6=1),(l.drop 7).take (l.length-9)⟩
/-- ReadPacket finds one. -/
def rdOk (l:List Int):Prop:=10≤l.length∧l.length≤209∧nth l 6≤1∧(parse l).ok∧((crc (l.take (l.length-2)):Nat):Int)=nth l (l.length-2)*256+nth l (l.length-1)
instance (l : List Int) : Decidable (rdOk l) := by unfold rdOk; infer_instance
def rdP (l:List Int):Pkt:=if rdOk l then parse l else pkt0
/-- Bytes. -/
def bys (l:List Int):Prop:=∀ z∈l,0≤z∧z≤255
section
variable (a0 a1 a2 a3 a4 a5 a6 c0 c1 : Int) (d : List Int)
def frm : List Int:=a0::a1::a2::a3::a4::a5::a6::(d ++ [c0,c1])
end
end Go.Proofs.Ytphfacfjhjcllaa
namespace Go.Proofs.Ytphfacfjhjcllaa

open Go.RowKit
end Go.Proofs.Ytphfacfjhjcllaa
namespace Go.Proofs.Ytphfacfjhjcllaa

open Go.RowKit
end Go.Proofs.Ytphfacfjhjcllaa
namespace Go.Proofs.Ytphfacfjhjcllaa
open Go.RowKit
theorem numberValid_yes (x:Int) (w:World) (h0:0≤x) (h1:x≤9999) :
 Calls Try.prog 35 #[.int .i64 x] w fun e w'=>e= .returned (.bool true)∧w=w':=by
 go_enter Try.func35,Try.ntmps35
 go_wp2;go_ret
 exact⟨by first|rfl|(simp;done)|(simp;omega),rfl⟩
theorem numberValid_no (x:Int) (w:World) (h:x<0∨9999<x) :
 Calls Try.prog 35 #[.int .i64 x] w fun e w'=>e= .returned (.bool false)∧w=w':=by
 by_cases h0:0≤x
 ·have h1 : ¬ x≤9999:=by omega
  go_enter Try.func35,Try.ntmps35
  go_wp2;go_ret
  exact⟨by first|rfl|(simp;done)|(simp;omega),rfl⟩
 ·go_enter Try.func35,Try.ntmps35
  go_wp2;go_ret
  exact⟨by first|rfl|(simp;done)|(simp;omega),rfl⟩
theorem impl_PacketValid_yes (num fr row part:Int) (last:Bool) (a:Option Addr) (n c:Nat) (w:World) (h:pval num fr row part n) :
 Calls Try.prog 27 #[.agg #[.int .i64 num,.int .i64 fr,.int .i64 row,.int .i64 part,.bool last,.slice a n c]] w fun e w'=>e= .returned (.bool true)∧Ext w w':=by
 obtain⟨h1,h2,h3,h4,h5,h6,h7,h8,h9,h10⟩:=h;go_enter Try.func27,Try.ntmps27
 go_wp2_with fail
 refine(numberValid_yes num _ h1 h2).mono ?_
 rintro e w1 ⟨rfl,rfl⟩
 go_wp2_with fail
 refine(numberValid_yes fr _ h3 h4).mono ?_
 rintro e w1 ⟨rfl,rfl⟩
 go_wp2;go_ret
 refine⟨by first|rfl|(simp;done)|(simp;omega),?_⟩
 (repeat (first|with_reducible exact Below.refl _ _|assumption|with_reducible refine below_drewN ?_ _|with_reducible refine Below.drew ?_|with_reducible refine Below.setCell ?_ (by simp <;> omega) _|with_reducible refine Ext.trans ?_ (Ext.alloc _ _)))
theorem impl_PacketValid_no (num fr row part:Int) (last:Bool) (a:Option Addr) (n c:Nat) (w:World) (h : ¬ pval num fr row part n) :
 Calls Try.prog 27 #[.agg #[.int .i64 num,.int .i64 fr,.int .i64 row,.int .i64 part,.bool last,.slice a n c]] w fun e w'=>e= .returned (.bool false)∧Ext w w':=by
 unfold pval at h
 by_cases h1:0≤num∧num≤9999
 ·by_cases h2:0≤fr∧fr≤9999
  ·have H:=Lib.hid h;clear h;go_enter Try.func27,Try.ntmps27
   go_wp2_with fail
   refine(numberValid_yes num _ h1.1 h1.2).mono ?_
   rintro e w1 ⟨rfl,rfl⟩
   go_wp2_with fail
   refine(numberValid_yes fr _ h2.1 h2.2).mono ?_
   rintro e w1 ⟨rfl,rfl⟩
   by_cases h3:0≤row
   ·by_cases h4:row<4
    ·by_cases h5:0≤part
     ·by_cases h6:part≤255
      ·by_cases h7:1≤n
       ·have h8 : ¬ n≤200:=fun h8=>H.out ⟨h1.1,h1.2,h2.1,h2.2,h3,h4,h5,h6,h7,h8⟩
        go_wp2;go_ret
        refine⟨by first|rfl|(simp;done)|(simp;omega),?_⟩
        (repeat (first|with_reducible exact Below.refl _ _|assumption|with_reducible refine below_drewN ?_ _|with_reducible refine Below.drew ?_|with_reducible refine Below.setCell ?_ (by simp <;> omega) _|with_reducible refine Ext.trans ?_ (Ext.alloc _ _)))
       ·have h8:n=0:=by omega
        subst h8;go_wp2;go_ret
        refine⟨by first|rfl|(simp;done)|(simp;omega),?_⟩
        (repeat (first|with_reducible exact Below.refl _ _|assumption|with_reducible refine below_drewN ?_ _|with_reducible refine Below.drew ?_|with_reducible refine Below.setCell ?_ (by simp <;> omega) _|with_reducible refine Ext.trans ?_ (Ext.alloc _ _)))
      ·go_wp2;go_ret
       refine⟨by first|rfl|(simp;done)|(simp;omega),?_⟩
       (repeat (first|with_reducible exact Below.refl _ _|assumption|with_reducible refine below_drewN ?_ _|with_reducible refine Below.drew ?_|with_reducible refine Below.setCell ?_ (by simp <;> omega) _|with_reducible refine Ext.trans ?_ (Ext.alloc _ _)))
     ·go_wp2;go_ret
      refine⟨by first|rfl|(simp;done)|(simp;omega),?_⟩
      (repeat (first|with_reducible exact Below.refl _ _|assumption|with_reducible refine below_drewN ?_ _|with_reducible refine Below.drew ?_|with_reducible refine Below.setCell ?_ (by simp <;> omega) _|with_reducible refine Ext.trans ?_ (Ext.alloc _ _)))
    ·go_wp2;go_ret
     refine⟨by first|rfl|(simp;done)|(simp;omega),?_⟩
     (repeat (first|with_reducible exact Below.refl _ _|assumption|with_reducible refine below_drewN ?_ _|with_reducible refine Below.drew ?_|with_reducible refine Below.setCell ?_ (by simp <;> omega) _|with_reducible refine Ext.trans ?_ (Ext.alloc _ _)))
   ·go_wp2;go_ret
    refine⟨by first|rfl|(simp;done)|(simp;omega),?_⟩
    (repeat (first|with_reducible exact Below.refl _ _|assumption|with_reducible refine below_drewN ?_ _|with_reducible refine Below.drew ?_|with_reducible refine Below.setCell ?_ (by simp <;> omega) _|with_reducible refine Ext.trans ?_ (Ext.alloc _ _)))
  ·have H2:=Lib.hid (show fr<0∨9999<fr by omega);clear h h2;go_enter Try.func27,Try.ntmps27
   go_wp2_with fail
   refine(numberValid_yes num _ h1.1 h1.2).mono ?_
   rintro e w1 ⟨rfl,rfl⟩
   go_wp2_with fail
   refine(numberValid_no fr _ H2.out).mono ?_
   rintro e w1 ⟨rfl,rfl⟩
   go_wp2;go_ret
   refine⟨by first|rfl|(simp;done)|(simp;omega),?_⟩
   (repeat (first|with_reducible exact Below.refl _ _|assumption|with_reducible refine below_drewN ?_ _|with_reducible refine Below.drew ?_|with_reducible refine Below.setCell ?_ (by simp <;> omega) _|with_reducible refine Ext.trans ?_ (Ext.alloc _ _)))
 ·have H2:=Lib.hid (show num<0∨9999<num by omega);clear h h1;go_enter Try.func27,Try.ntmps27
  go_wp2_with fail
  refine(numberValid_no num _ H2.out).mono ?_
  rintro e w1 ⟨rfl,rfl⟩
  go_wp2;go_ret
  refine⟨by first|rfl|(simp;done)|(simp;omega),?_⟩
  (repeat (first|with_reducible exact Below.refl _ _|assumption|with_reducible refine below_drewN ?_ _|with_reducible refine Below.drew ?_|with_reducible refine Below.setCell ?_ (by simp <;> omega) _|with_reducible refine Ext.trans ?_ (Ext.alloc _ _)))
theorem spec_PacketValid_yes (num fr row part:Int) (last:Bool) (a:Option Addr) (n c:Nat) (w:World) (h:pval num fr row part n) :
 Calls Try.prog 20 #[.agg #[.int .i64 num,.int .i64 fr,.int .i64 row,.int .i64 part,.bool last,.slice a n c]] w fun e w'=>e= .returned (.bool true)∧Ext w w':=by
 obtain⟨h1,h2,h3,h4,h5,h6,h7,h8,h9,h10⟩:=h;go_enter Try.func20,Try.ntmps20
 go_wp2_with fail
 refine(l1In_yes num _ _ _ h1 h2).mono ?_
 rintro e w1 ⟨rfl,rfl⟩
 go_wp2_with fail
 refine(l1In_yes fr _ _ _ h3 h4).mono ?_
 rintro e w1 ⟨rfl,rfl⟩
 go_wp2_with fail
 refine(l1In_yes row _ _ _ h5 (by omega)).mono ?_
 rintro e w1 ⟨rfl,rfl⟩
 go_wp2_with fail
 refine(l1In_yes part _ _ _ h7 h8).mono ?_
 rintro e w1 ⟨rfl,rfl⟩
 go_wp2_with fail
 refine(l1In_yes (n:Int) _ _ _ (by omega) (by omega)).mono ?_
 rintro e w1 ⟨rfl,rfl⟩
 go_wp2;go_ret
 refine⟨by first|rfl|(simp;done)|(simp;omega),?_⟩
 (repeat (first|with_reducible exact Below.refl _ _|assumption|with_reducible refine below_drewN ?_ _|with_reducible refine Below.drew ?_|with_reducible refine Below.setCell ?_ (by simp <;> omega) _|with_reducible refine Ext.trans ?_ (Ext.alloc _ _)))
theorem spec_PacketValid_no (num fr row part:Int) (last:Bool) (a:Option Addr) (n c:Nat) (w:World) (hn:n≤9223372036854775807) (h : ¬ pval num fr row part n) :
 Calls Try.prog 20 #[.agg #[.int .i64 num,.int .i64 fr,.int .i64 row,.int .i64 part,.bool last,.slice a n c]] w fun e w'=>e= .returned (.bool false)∧Ext w w':=by
 unfold pval at h;have H:=Lib.hid h;clear h;go_enter Try.func20,Try.ntmps20
 go_wp2_with fail
 by_cases h1:0≤num∧num≤9999
 ·refine(l1In_yes num _ _ _ h1.1 h1.2).mono ?_
  rintro e w1 ⟨rfl,rfl⟩
  go_wp2_with fail
  by_cases h2:0≤fr∧fr≤9999
  ·refine(l1In_yes fr _ _ _ h2.1 h2.2).mono ?_
   rintro e w1 ⟨rfl,rfl⟩
   go_wp2_with fail
   by_cases h3:0≤row∧row<4
   ·refine(l1In_yes row _ _ _ h3.1 (by omega)).mono ?_
    rintro e w1 ⟨rfl,rfl⟩
    go_wp2_with fail
    by_cases h4:0≤part∧part≤255
    ·refine(l1In_yes part _ _ _ h4.1 h4.2).mono ?_
     rintro e w1 ⟨rfl,rfl⟩
     go_wp2_with fail
     have h5 : ¬ (1≤n∧n≤200):=fun h5=>H.out ⟨h1.1,h1.2,h2.1,h2.2,h3.1,h3.2,h4.1,h4.2,h5.1,h5.2⟩
     refine(l1In_no (n:Int) _ _ _ (by omega)).mono ?_
     rintro e w1 ⟨rfl,rfl⟩
     go_wp2;go_ret
     refine⟨by first|rfl|(simp;done)|(simp;omega),?_⟩
     (repeat (first|with_reducible exact Below.refl _ _|assumption|with_reducible refine below_drewN ?_ _|with_reducible refine Below.drew ?_|with_reducible refine Below.setCell ?_ (by simp <;> omega) _|with_reducible refine Ext.trans ?_ (Ext.alloc _ _)))
    ·refine(l1In_no part _ _ _ (by omega)).mono ?_
     rintro e w1 ⟨rfl,rfl⟩
     go_wp2;go_ret
     refine⟨by first|rfl|(simp;done)|(simp;omega),?_⟩
     (repeat (first|with_reducible exact Below.refl _ _|assumption|with_reducible refine below_drewN ?_ _|with_reducible refine Below.drew ?_|with_reducible refine Below.setCell ?_ (by simp <;> omega) _|with_reducible refine Ext.trans ?_ (Ext.alloc _ _)))
   ·refine(l1In_no row _ _ _ (by omega)).mono ?_
    rintro e w1 ⟨rfl,rfl⟩
    go_wp2;go_ret
    refine⟨by first|rfl|(simp;done)|(simp;omega),?_⟩
    (repeat (first|with_reducible exact Below.refl _ _|assumption|with_reducible refine below_drewN ?_ _|with_reducible refine Below.drew ?_|with_reducible refine Below.setCell ?_ (by simp <;> omega) _|with_reducible refine Ext.trans ?_ (Ext.alloc _ _)))
  ·refine(l1In_no fr _ _ _ (by omega)).mono ?_
   rintro e w1 ⟨rfl,rfl⟩
   go_wp2;go_ret
   refine⟨by first|rfl|(simp;done)|(simp;omega),?_⟩
   (repeat (first|with_reducible exact Below.refl _ _|assumption|with_reducible refine below_drewN ?_ _|with_reducible refine Below.drew ?_|with_reducible refine Below.setCell ?_ (by simp <;> omega) _|with_reducible refine Ext.trans ?_ (Ext.alloc _ _)))
 ·refine(l1In_no num _ _ _ (by omega)).mono ?_
  rintro e w1 ⟨rfl,rfl⟩
  go_wp2;go_ret
  refine⟨by first|rfl|(simp;done)|(simp;omega),?_⟩
  (repeat (first|with_reducible exact Below.refl _ _|assumption|with_reducible refine below_drewN ?_ _|with_reducible refine Below.drew ?_|with_reducible refine Below.setCell ?_ (by simp <;> omega) _|with_reducible refine Ext.trans ?_ (Ext.alloc _ _)))
theorem wrap8 {n:Int} (h0:0≤n) (h1:n≤255):IntKind.u8.wrap n=n:=by
 simp[IntKind.wrap,IntKind.signed,IntKind.bits];omega
theorem bx6 {w:World} {b:Nat} {x0 x1 x2 x3 x4 x5:Value} {T:TypeId} (h:w.heap[b]?=some (.cells #[x0,x1,x2,x3,x4,x5] T (0,0))):b<w.heap.size∧w.cell? ⟨b,0,none⟩=some x0∧w.cell? ⟨b,1,none⟩=some x1∧w.cell? ⟨b,2,none⟩=some x2∧w.cell? ⟨b,3,none⟩=some x3∧w.cell? ⟨b,4,none⟩=some x4∧w.cell? ⟨b,5,none⟩=some x5 :=
 ⟨lt_of_block h,by simp[World.cell?,h],by simp[World.cell?,h],by simp[World.cell?,h],by simp[World.cell?,h],by simp[World.cell?,h],by simp[World.cell?,h]⟩
theorem fz6 {w:World} {b:Nat} {x0 x1 x2 x3 x4 x5:Value} {T:TypeId} (h:w.heap[b]?=some (.cells #[x0,x1,x2,x3,x4,x5] T (0,0))):w.frozen? ⟨b,0,none⟩=false∧w.frozen? ⟨b,1,none⟩=false∧w.frozen? ⟨b,2,none⟩=false∧w.frozen? ⟨b,3,none⟩=false∧w.frozen? ⟨b,4,none⟩=false∧w.frozen? ⟨b,5,none⟩=false :=
 ⟨by simp[World.frozen?,h],by simp[World.frozen?,h],by simp[World.frozen?,h],by simp[World.frozen?,h],by simp[World.frozen?,h],by simp[World.frozen?,h]⟩
theorem ext_none {w w':World} {row:Option Nat} (g:w.grownBy w' row) (h:row=none):Ext w w':=by
 subst h;exact Ext.grown (Below.refl _ _) g (by simp)
abbrev pkV (p : Pkt) (a : Option Addr) (c : Nat) : Value := .agg #[.int .i64 p.num, .int .i64 p.fr, .int .i64 p.row, .int .i64 p.part, .bool p.last, .slice a p.data.length c]
theorem conv_own (w:World) (base:Nat) (a:Option Addr) (n c:Nat) (xs:List Int) (h:w.ownsRow base 5 1 (.slice a n c) n (xs.map (Value.int .u8))):(convert 22 9 (.slice a n c)).run Try.prog w= .ok (.string (strOfNums xs)) w:=by
 have s:=Sl.of_owns h;have hl:=s.int_len;rcases h.2 with⟨hv,h0⟩|⟨g,cap,cur,hv,-⟩
 ·simp only[Value.slice.injEq]at hv;obtain⟨rfl,rfl,rfl⟩:=hv;obtain rfl:xs = []:=List.eq_nil_of_length_eq_zero hl;exact run_convert_bytes_nil (P:=Try.prog) w 22 5 Try.underlying22 Try.underlying5 0 0 9 Try.underlying9
 ·simp only[Value.slice.injEq]at hv;obtain⟨rfl,-,rfl⟩:=hv;exact run_convert_bytes_arg (P:=Try.prog) w 22 5 Try.underlying22 Try.underlying5 g 0 n c xs hl (fun i hi=>by
   obtain⟨b2,o2,h2,h3⟩:=s.int hi;simp only[Option.some.injEq,Addr.mk.injEq,and_true]at h2;obtain⟨rfl,rfl⟩:=h2;exact h3) 9 Try.underlying9
end Go.Proofs.Ytphfacfjhjcllaa
namespace Go.Proofs.Ytphfacfjhjcllaa

open Go.RowKit
end Go.Proofs.Ytphfacfjhjcllaa
namespace Go.Proofs.Ytphfacfjhjcllaa
open Go.RowKit
/-- Between w and w' only blocks of lo..hi-1 have changed. -/
structure Tch (w w' : World) (lo hi : Nat) : Prop where
 os:w'.os=w.os
 tape:w'.tape=w.tape
 output:w'.output=w.output
 size:w.heap.size≤w'.heap.size
 block:∀ k,k<w.heap.size→(k<lo∨hi≤k)→w'.heap[k]?=w.heap[k]?
theorem Tch.refl (w:World) (lo hi:Nat):Tch w w lo hi:=⟨rfl,rfl,rfl,Nat.le_refl _,fun _ _ _=>rfl⟩
theorem Tch.trans {a b c:World} {lo hi:Nat} (h:Tch a b lo hi) (k:Tch b c lo hi):Tch a c lo hi :=
 ⟨k.os.trans h.os,k.tape.trans h.tape,k.output.trans h.output,Nat.le_trans h.size k.size,fun i hi ho=>(k.block i (Nat.lt_of_lt_of_le hi h.size) ho).trans (h.block i hi ho)⟩
theorem Tch.of_grown {w w':World} {lo hi:Nat} {row:Option Nat} (g:w.grownBy w' row) (h:∀ k,row=some k→lo≤k∧k<hi):Tch w w' lo hi :=
 ⟨g.os,g.tape,g.output,g.size,fun k hk ho=>g.block k hk (fun e=>by have:=h k e.symm;omega)⟩
theorem Tch.ext {w w1 w2:World} {lo hi:Nat} (h:Tch w w1 lo hi) (e:Ext w1 w2):Tch w w2 lo hi :=
 ⟨e.os.trans h.os,e.tape.trans h.tape,e.output.trans h.output,Nat.le_trans h.size e.size,fun k hk ho=>(e.block k (Nat.lt_of_lt_of_le hk h.size)).trans (h.block k hk ho)⟩
theorem Ext.tch {a w w':World} {lo hi:Nat} (e:Ext a w) (h:Tch w w' lo hi) (hl:a.heap.size≤lo):Ext a w' :=
 ⟨h.os.trans e.os,h.tape.trans e.tape,h.output.trans e.output,Nat.le_trans e.size h.size,fun k hk=>(h.block k (Nat.lt_of_lt_of_le hk e.size) (by omega)).trans (e.block k hk)⟩
theorem Tch.cell {w w':World} {lo hi:Nat} (t:Tch w w' lo hi) {p:Addr} {v:Value} (h:w.cell? p=some v) (ho:p.block<lo∨hi≤p.block):w'.cell? p=some v:=by
 have hb:=t.block p.block (World.block_lt_of_cell? w _ h) ho;obtain⟨b,o,s⟩:=p;simp only[World.cell?]at h⊢;simp only at hb;rw[hb];exact h
theorem Sl.tch {w w':World} {lo hi n:Nat} {a:Option Addr} {xs:List Value} (h:Sl w a n xs) (t:Tch w w' lo hi) (ho:∀ x,a=some x→x.block<lo∨hi≤x.block):Sl w' a n xs:=by
 refine⟨h.1,fun i hi => ?_⟩;obtain⟨b,off,ha,hc⟩:=h.2 i hi;have h2:=ho _ ha;exact⟨b,off,ha,t.cell hc h2⟩
/-- The bytes from k on. -/
def marksB (k:Int) (n:Nat):List Int:=tab n fun i=>(k+(i:Int))%256
theorem info_ByteS : (Try.prog.info? 22).map (fun i=>(i.zero,i.size,i.bytes))=some (some (.slice none 0 0),1,24):=by kernel_rfl
theorem blk_set6 {w:World} {b:Nat} {x0 x1 x2 x3 x4 x5 y0 y1 y2 y3 y4 y5:Value} {T:TypeId} (h:w.heap[b]?=some (.cells #[x0,x1,x2,x3,x4,x5] T (0,0))):((((((w.setCell ⟨b,0,none⟩ y0).setCell ⟨b,1,none⟩ y1).setCell ⟨b,2,none⟩ y2).setCell ⟨b,3,none⟩ y3).setCell ⟨b,4,none⟩ y4).setCell ⟨b,5,none⟩ y5).heap[b]?=some (.cells #[y0,y1,y2,y3,y4,y5] T (0,0)):=by
 have h1:=heap_setCell_same w b 0 _ _ y0 h;have h2:=heap_setCell_same _ b 1 _ _ y1 h1;have h3:=heap_setCell_same _ b 2 _ _ y2 h2;have h4:=heap_setCell_same _ b 3 _ _ y3 h3;have h5:=heap_setCell_same _ b 4 _ _ y4 h4;have h6:=heap_setCell_same _ b 5 _ _ y5 h5
 simpa using h6
theorem size_Packet : (Try.prog.info? 32).map (·.size)=some 6:=by kernel_rfl
theorem info_Packet : (Try.prog.info? 32).map (fun i=>(i.zero,i.size,i.bytes))=some (some (.agg #[.int .i64 0,.int .i64 0,.int .i64 0,.int .i64 0,.bool false,.slice none 0 0]),6,64):=by kernel_rfl
theorem grown_set1 (w:World) (b j:Nat) (v:Value):w.grownBy (w.setCell ⟨b,j,none⟩ v) (some b) :=
 ⟨rfl,rfl,rfl,by simp,fun k _ hk=>heap_setCell_other w ⟨b,j,none⟩ k v (fun e=>hk (by simp[e]))⟩
theorem grown_set6 (w:World) (b:Nat) (y0 y1 y2 y3 y4 y5:Value):w.grownBy ((((((w.setCell ⟨b,0,none⟩ y0).setCell ⟨b,1,none⟩ y1).setCell ⟨b,2,none⟩ y2).setCell ⟨b,3,none⟩ y3).setCell ⟨b,4,none⟩ y4).setCell ⟨b,5,none⟩ y5) (some b) :=
 grownBy_trans (grownBy_trans (grownBy_trans (grownBy_trans (grownBy_trans (grown_set1 w b 0 y0) (grown_set1 _ b 1 y1)) (grown_set1 _ b 2 y2)) (grown_set1 _ b 3 y3)) (grown_set1 _ b 4 y4)) (grown_set1 _ b 5 y5)
theorem results_ct_row {P:Program} {fn:Func} {p u:Tmp} {ty:TypeId} (h:fn.results = #[.cell p ty,.tmp u]) (tmps:Array Value) (w:World) (g:Nat) (t:TypeId) (cs:Array Value) (fr:Nat×Nat) (d:TypeDesc)
 (hp:tmps.getD p undef= .pointer (some ⟨g,0,none⟩)) (hg:w.heap[g]?=some (.cells cs t fr))
 (hu:P.underlying ty=some d) (hd:(match d with | .struct _ | .array _ _=>true|_=>false)=true) (hi:(P.info? ty).map (·.size)=some cs.size) :
 (results fn tmps).run P w= .ok (.tuple #[.agg cs,tmps.getD u undef]) w:=by
 rw[results_cell_tmp h,hp];simp[asAddr,Result.andThen,run_loadVar_row w g t ty cs fr d hg hu hd hi]
theorem spec_SignedValue_in (z:Int) (w:World) (h0:0≤z) (h1:z≤65534) :
 Calls Try.prog 63 #[.int .i64 z] w fun e w'=>∃ r:Int,e= .returned (.int .i64 r)∧w=w':=by
 go_enter Try.func63,Try.ntmps63
 go_wp2_with fail
 refine(l1In_yes _ _ _ _ (by omega) (by omega)).mono ?_
 rintro e w1 ⟨rfl,rfl⟩
 by_cases h2:z%2=1
 ·have hd:decide (z%2=1)=true:=by simpa using h2
  go_wp2;all_goals (go_ret;exact⟨_,rfl,rfl⟩)
 ·have hd:decide (z%2=1)=false:=by simpa using h2
  go_wp2;all_goals (go_ret;exact⟨_,rfl,rfl⟩)
theorem run_cells {w:World} {H n c:Nat} {a:Option Addr} {L:List Int} (h:w.ownsRow H 113 2 (.slice a n c) n (L.map (Value.int .i64))) {k:Nat} (hk:k<n) :
 ∃ g,a=some ⟨g,0,none⟩∧w.cell? ⟨g,k*2,none⟩=some (.int .i64 (L.getD (k*2) 0))∧w.cell? ⟨g,k*2+1,none⟩=some (.int .i64 (L.getD (k*2+1) 0)):=by
 have hl:L.length=n*2:=by simpa using h.1
 rcases id h.2 with⟨hv,h0⟩|⟨g,cap,cur,hv,-⟩
 ·omega
 ·simp only[Value.slice.injEq]at hv;obtain⟨rfl,-,rfl⟩:=hv;have h1:=h.cells (g:=g) rfl (k*2) (.int .i64 (L.getD (k*2) 0)) (by simp[List.getElem?_eq_getElem (show k*2<L.length by omega)]);have h2:=h.cells (g:=g) rfl (k*2+1) (.int .i64 (L.getD (k*2+1) 0)) (by simp[List.getElem?_eq_getElem (show k*2+1<L.length by omega)]);refine⟨g,rfl,?_,?_⟩
  ·by_cases h0:k*2=0 <;> simpa [Addr.add,h0] using h1
  ·simpa [Addr.add] using h2
/-- What BlockOf answers. -/
def BkR (w:World) (e:Ending) (w':World):Prop:=∃(zs:List Int) (b:Bool),e= .returned (.tuple #[.agg (ic zs),.bool b])∧zs.length=16∧Ext w w'
theorem spec_BlockOf_any (a:Option Addr) (m c H:Nat) (L:List Int) (w:World) (h:w.ownsRow H 113 2 (.slice a m c) m (L.map (Value.int .i64))) (hm:m≤100) :
 Calls Try.prog 64 #[.slice a m c] w (BkR w):=by
 have R1:=(IB.new w 81 (zl 16)).alloc (.cells (ic (zl 16)) 81);have Q1:=IB.new (w.alloc (.cells (ic (zl 16)) 81)) 81 (zl 16);have E1:=(Ext.alloc w (.cells (ic (zl 16)) 81)).trans (Ext.alloc _ (.cells (ic (zl 16)) 81));simp only[World.size_alloc]at Q1;go_enter Try.func64,Try.ntmps64
 go_wp2_with (first|((refine wpList_iallocz 81 rfl rfl 16 zero_A16 ?_);(try simp only[World.size_alloc]))|(refine wpList_izeroz 81 rfl rfl Try.underlying81 size_int 16 zero_A16 ?_)|(refine wpList_istore 81 _ _ rfl rfl Q1 0 16 rfl _ rfl _ rfl size_A16 (zl_len 16) (by simp[zl]) ?_;intro w1 q1 g1;refine Hid.out ?_))
 rw[spl_all (by rw[zl_len])]at q1;have E2:Ext w w1:=Ext.grown E1 g1 (fun q hq=>by cases hq;omega);have R2:=R1.gr g1 (by simp);have Q2:∃ zs:List Int,zs.length=16∧IB w1 (w.heap.size+1) 81 zs:=⟨_,zl_len 16,q1⟩;clear R1 Q1 E1 q1 g1;obtain⟨q,hq⟩:∃ q,q=w.heap.size+1:=⟨_,rfl⟩;refine Lib.hid ?_;rw[←hq]at Q2⊢;have hqw:w.heap.size<q:=by omega
 clear hq;go_wp2_with fail
 refine(spec_ScanOrder_any _).mono ?_
 rintro e w2 ⟨ao,co,rfl,so,e2⟩
 have E3:=E2.trans e2;have R3:=R2.ext e2;have Q3:∃ zs:List Int,zs.length=16∧IB w2 q 81 zs:=by obtain⟨zs,z1,z2⟩:=Q2;exact⟨zs,z1,z2.ext e2⟩
 obtain⟨B1,hB1⟩:∃ B,B=w1.heap.size:=⟨_,rfl⟩;rw[←hB1]at so;clear E2 R2 Q2 e2 hB1;have hfin:∀(wr:World) (zs:List Int) (b:Bool),Ext w wr→IB wr w.heap.size 81 zs→zs.length=16→BkR w (.returned (.tuple #[.agg (ic zs),.bool b])) wr:=fun wr zs b h1 h2 h3=>⟨zs,b,rfl,h3,h1⟩
 have Hfin:=Lib.hid hfin;clear hfin
 by_cases h16:m≤16
 ·go_wp2_with fail
  go_loopw [6,7] (fun t i wr=>∃ k at1:Nat,k≤m∧i= .int .i64 (k:Nat)∧t= .int .i64 (at1:Nat)∧at1≤16∧(at1≤15∨k=m)∧Ext w wr∧IB wr w.heap.size 81 (zl 16)∧(∃ zs:List Int,zs.length=16∧IB wr q 81 zs)∧wr.ownsRow B1 3 1 (.slice ao 16 co) 16 (scanL.map (Value.int .i64))) (fun _ i _=>m-(intOf i).toNat)
  case atStart=>exact⟨0,0,by omega,rfl,rfl,by omega,by omega,E3,R3,Q3,so⟩
  case round =>
   clear E3 R3 Q3 so;obtain⟨k,at1,hk,rfl,rfl,ha,hak,E4,R4,⟨zs,hz,Q4⟩,so⟩:=hrel;have Hz:=Lib.hid hz;clear hz
   by_cases hlt:k<m
   ·have ha15:at1≤15:=by omega
    clear hak;obtain⟨g,rfl,k0,k1⟩:=run_cells (owns_ext h E4) hlt;obtain⟨Z,hZ⟩:∃ z,z=L.getD (k*2) 0:=⟨_,rfl⟩;obtain⟨V,hV⟩:∃ z,z=L.getD (k*2+1) 0:=⟨_,rfl⟩;rw[←hZ]at k0;rw[←hV]at k1;clear hZ hV
    by_cases hzr:0≤Z∧Z≤15-(at1:Int)
    ·obtain⟨z,rfl⟩:=Int.eq_ofNat_of_zero_le hzr.1;have hza:at1+z≤15:=by omega
     clear hzr;have so4:=Sl.of_owns so;obtain⟨s,hs⟩:∃ s,s=at1+z:=⟨_,rfl⟩;have Hs:=Lib.hid (show(at1:Int)+(z:Int)=(s:Int) by omega);have hs15:s≤15:=by omega
     clear hs;obtain⟨go,oo,he,hco⟩:=so4.int (show s<16 by omega);obtain⟨s0,s1⟩:=scan_rng s (by omega);obtain⟨j,hj⟩:∃ j:Nat,nth scanL s=(j:Int):=⟨(nth scanL s).toNat,by omega⟩;rw[hj]at s0 s1 hco;clear hj so4;cases he;have hqc:=Q4.cell (i:=j) (by rw[Hz.out];omega);have hqf:=Q4.frozen j
     by_cases hv0:V=0
     ·subst hv0;go_wp2_with fail
      refine(l1In_yes _ _ _ _ (by omega) (by omega)).mono ?_
      rintro e w5 ⟨rfl,rfl⟩
      go_wp2_with (first|(refine wpList_izeroz 81 rfl rfl Try.underlying81 size_int 16 zero_A16 ?_)|(refine wpList_istore 81 _ _ rfl rfl R4 0 16 rfl _ rfl _ rfl size_A16 (zl_len 16) (by simp[zl]) ?_;intro w8 r8 g8;refine Hid.out ?_))
      rw[spl_all (by rw[zl_len])]at r8;have E8:Ext w w8:=Ext.grown E4 g8 (fun q hq=>by cases hq;omega);refine Lib.hid ?_;go_wp2;refine bodyPost_ret (results_ct_row rfl _ _ w.heap.size 81 (ic (zl 16)) (0,0) _ rfl r8 Try.underlying81 rfl (by rw[ic_size,zl_len];exact size_A16)) rfl ?_;exact Hfin.out _ _ _ E8 r8 (zl_len 16)
     ·have hdv:(V == 0)=false:=by simpa using hv0
      go_wp2_with fail
      refine(l1In_yes _ _ _ _ (by omega) (by omega)).mono ?_
      rintro e w5 ⟨rfl,rfl⟩
      go_upto_region 12 with fail
      rw[Hs.out];have i1:(s:Int)<16:=by omega
      have i2:(k:Int)<m:=by omega
      have i3:(j:Int)<16:=by omega
      go_still_tail 10,(by kernel_rfl)
      change wpList _ _ _ _ _ wr.drew;go_upto_region 13 with fail
      have gS:=gsO wr q j (.int .i64 V);have E5:Ext w (wr.setCell ⟨q,j,none⟩ (.int .i64 V)).drew:=Ext.trans_drewN (Ext.grown E4 gS (fun q' hq=>by cases hq;omega)) 1;have R5:IB (wr.setCell ⟨q,j,none⟩ (.int .i64 V)).drew w.heap.size 81 (zl 16):=IB.drewN (R4.gr gS (by simp;omega)) 1;have Q5:IB (wr.setCell ⟨q,j,none⟩ (.int .i64 V)).drew q 81 (zs.set j V):=IB.drewN (Q4.set j V) 1;have so5:=owns_drewN (so.kept gS (own_ne_blk so Q4 (by decide))) 1;have Hz5:=Lib.hid (show(zs.set j V).length=16 by rw[List.length_set];exact Hz.out)
      replace so5:(wr.setCell ⟨q,j,none⟩ (.int .i64 V)).drew.ownsRow B1 3 1 (.slice (some ⟨go,oo,none⟩) 16 co) 16 (scanL.map (Value.int .i64)):=so5
      generalize (wr.setCell ⟨q,j,none⟩ (.int .i64 V)).drew=w6 at *;generalize zs.set j V=zs5 at *;clear gS E4 R4 Q4 so Hz k0 k1 hco hqc hqf i1 i2 i3
      by_cases hend:s=15∧k+1<m
      ·obtain⟨rfl,hkm⟩:=hend;have hd1:(((15:Nat):Int)+1 == 16)=true:=rfl;have hd2:decide ((k:Int)<(m:Int)-1)=true:=by simp;omega
       go_wp2_with (first|(refine wpList_izeroz 81 rfl rfl Try.underlying81 size_int 16 zero_A16 ?_)|(refine wpList_istore 81 _ _ rfl rfl R5 0 16 rfl _ rfl _ rfl size_A16 (zl_len 16) (by simp[zl]) ?_;intro w8 r8 g8;refine Hid.out ?_))
       rw[spl_all (by rw[zl_len])]at r8;have E8:Ext w w8:=Ext.grown E5 g8 (fun q hq=>by cases hq;omega);refine Lib.hid ?_;go_wp2;refine bodyPost_ret (results_ct_row rfl _ _ w.heap.size 81 (ic (zl 16)) (0,0) _ rfl r8 Try.underlying81 rfl (by rw[ic_size,zl_len];exact size_A16)) rfl ?_;exact Hfin.out _ _ _ E8 r8 (zl_len 16)
      ·have hk1:s+1≤15∨k+1=m:=by omega
       by_cases hs2:s=15
       ·subst hs2;have hd2:decide ((k:Int)<(m:Int)-1)=false:=by simp;omega
        go_wp2;go_roundw
        case rel=>exact⟨k+1,16,by omega,by go_num,by go_num,by omega,by omega,E5,R5,⟨_,Hz5.out,Q5⟩,so5⟩
        case measure=>simp[intOf] <;> omega
       ·have hd1:((s:Int)+1 == 16)=false:=by simp;omega
        go_wp2;go_roundw
        case rel=>exact⟨k+1,s+1,by omega,by go_num,by go_num,by omega,by omega,E5,R5,⟨_,Hz5.out,Q5⟩,so5⟩
        case measure=>simp[intOf] <;> omega
    ·have hzn:Z<0∨15-(at1:Int)<Z:=by omega
     clear hzr;go_wp2_with fail
     refine(l1In_no _ _ _ _ (by omega)).mono ?_
     rintro e w5 ⟨rfl,rfl⟩
     go_wp2_with (first|(refine wpList_izeroz 81 rfl rfl Try.underlying81 size_int 16 zero_A16 ?_)|(refine wpList_istore 81 _ _ rfl rfl R4 0 16 rfl _ rfl _ rfl size_A16 (zl_len 16) (by simp[zl]) ?_;intro w8 r8 g8;refine Hid.out ?_))
     rw[spl_all (by rw[zl_len])]at r8;have E8:Ext w w8:=Ext.grown E4 g8 (fun q hq=>by cases hq;omega);refine Lib.hid ?_;go_wp2;refine bodyPost_ret (results_ct_row rfl _ _ w.heap.size 81 (ic (zl 16)) (0,0) _ rfl r8 Try.underlying81 rfl (by rw[ic_size,zl_len];exact size_A16)) rfl ?_;exact Hfin.out _ _ _ E8 r8 (zl_len 16)
   ·obtain rfl:k=m:=by omega
    have hd:decide ((k:Int)<k)=false:=by simp
    clear hak;go_wp2_with (first|(refine wpList_iload 81 _ rfl rfl Q4 0 16 rfl _ Try.underlying81 rfl size_A16 (by rw[Hz.out];omega) _ (by rw[sub_all _ _ Hz.out]) ?_)|(refine wpList_istore 81 _ _ rfl rfl R4 0 16 rfl _ rfl _ rfl size_A16 Hz.out (by simp[zl]) ?_;intro w8 r8 g8;refine Hid.out ?_))
    rw[spl_all (by rw[zl_len,Hz.out])]at r8;have E8:Ext w w8:=Ext.grown E4 g8 (fun q hq=>by cases hq;omega);refine Lib.hid ?_;go_wp2;refine bodyPost_ret (results_ct_row rfl _ _ w.heap.size 81 (ic zs) (0,0) _ rfl r8 Try.underlying81 rfl (by rw[ic_size,Hz.out];exact size_A16)) rfl ?_;exact Hfin.out _ _ _ E8 r8 Hz.out
 ·have hd:decide (((m:Int)>16))=true:=by simp;omega
  obtain⟨zs,hz,Q4⟩:=Q3;have Hz:=Lib.hid hz;clear hz;go_wp2_with (first|(refine wpList_iload 81 _ rfl rfl Q4 0 16 rfl _ Try.underlying81 rfl size_A16 (by rw[Hz.out];omega) _ (by rw[sub_all _ _ Hz.out]) ?_)|(refine wpList_istore 81 _ _ rfl rfl R3 0 16 rfl _ rfl _ rfl size_A16 Hz.out (by simp[zl]) ?_;intro w8 r8 g8;refine Hid.out ?_))
  rw[spl_all (by rw[zl_len,Hz.out])]at r8;have E8:Ext w w8:=Ext.grown E3 g8 (fun q hq=>by cases hq;omega);refine Lib.hid ?_;go_wp2;refine bodyPost_ret (results_ct_row rfl _ _ w.heap.size 81 (ic zs) (0,0) _ rfl r8 Try.underlying81 rfl (by rw[ic_size,Hz.out];exact size_A16)) rfl ?_;exact Hfin.out _ _ _ E8 r8 Hz.out
theorem DK.gr {w w':World} {H O n c T:Nat} {a:Option Addr} {row:Option Nat} (h:DK w H O a n c T) (g:w.grownBy w' row) (hr:∀ q,row=some q→H≤q∧∃(arr:Array Value) (T2:TypeId),w.heap[q]?=some (.cells arr T2 (0,0))∧T2≠109∧T2≠3):DK w' H O a n c T:=by
 obtain⟨L,S,t,ch,vc,h1,h2,h3⟩:=h;refine⟨L,S,t,ch,vc,h1,⟨blk_gr h2.bk g (fun e => ?_),h2.rc.kept g ?_,fun i hi => ?_,h2.hO,Nat.le_trans h2.hs g.size⟩,h3⟩
 ·obtain⟨-,arr,T2,q1,q2,-⟩:=hr O (by rw[e]);rw[h2.bk]at q1;simp only[Option.some.injEq,Obj.cells.injEq]at q1;exact q2 q1.2.1.symm
 ·cases hrow:row with
  | none =>
   cases hv:vc.ownBlock with
   | none=>exact .inl rfl
   | some k=>exact .inr (by simp)
  | some q =>
   obtain⟨-,arr,T2,q1,-,q2⟩:=hr q hrow;exact own_ne_blk h2.rc q1 (fun e=>q2 e.symm)
 ·obtain⟨b,off,k1,k2,z,z1,z2,k3⟩:=h2.inp i hi;exact⟨b,off,k1,k2,z,z1,z2,g.cell k3 (fun e=>by have:=(hr b e.symm).1;omega)⟩
theorem FD.gr {H:Nat} {w w1 w2:World} {row:Option Nat} (f:FD H w w1) (g:w1.grownBy w2 row) (hr:∀ q,row=some q→w.heap.size≤q) (hH:H≤w.heap.size):FD H w w2 :=
 ⟨Below.grown f.1 g (Nat.le_trans hH f.1.size) (fun q hq=>Nat.le_trans hH (hr q hq)),fun q arr T fr h1 h2 h3=>by
  have h4:=f.2 q arr T fr h1 h2 h3;have hlt:=lt_of_block h1;rw[g.block q (lt_of_block h4) (fun e=>by have:=hr q e.symm;omega)];exact h4⟩
theorem own_q {w:World} {base e size n:Nat} {v:Value} {xs:List Value} (o:w.ownsRow base e size v n xs) (H:Nat) (hH:H≤base) (h1:e≠109) (h2:e≠3):∀ q,v.ownBlock=some q→H≤q∧∃(arr:Array Value) (T2:TypeId),w.heap[q]?=some (.cells arr T2 (0,0))∧T2≠109∧T2≠3:=by
 intro q hq;rcases o.2 with⟨rfl,-⟩|⟨g,cap,cur,rfl,p0,p1,-⟩
 ·cases hq
 ·cases hq;exact⟨Nat.le_trans hH p0,_,_,p1,h1,h2⟩
/-- What l10Levels answers. -/
def LvR (w:World) (H O:Nat) (a:Option Addr) (n c T:Nat) (e:Ending) (w':World):Prop :=
 ∃(zs:List Int) (b:Bool),e= .returned (.tuple #[.agg (ic zs),.bool b])∧zs.length=16∧DK w' H O a n c T∧FD H w w'
theorem spec_l10Levels_any (w:World) (H O T:Nat) (a:Option Addr) (n c:Nat) (h0:DK w H O a n c T) (hT:T≤2^37) :
 Calls Try.prog 48 #[.pointer (some ⟨O,0,none⟩)] w (LvR w H O a n c (T+7000)):=by
 have hHs:=h0.hO.2.1;have R1:=IB.new w 81 (zl 16);have E1:=Ext.alloc w (.cells (ic (zl 16)) 81);have D1:=h0.ext E1;have F1:=FD.ext E1 hHs;have hfin:∀(wr:World) (zs:List Int) (b:Bool),DK wr H O a n c (T+7000)→FD H w wr→zs.length=16→LvR w H O a n c (T+7000) (.returned (.tuple #[.agg (ic zs),.bool b])) wr:=fun wr zs b h1 h2 h3=>⟨zs,b,rfl,h3,h1,h2⟩
 have Hfin:=Lib.hid hfin;have hRO:w.heap.size≠O:=by have:=h0.hO.2.2;omega
 clear hfin h0;go_enter Try.func48,Try.ntmps48
 go_wp2_with (refine wpList_iallocz 81 rfl rfl 16 zero_A16 ?_)
 refine(spec_l10Get_any _ H O T 16 a n c D1 (by omega) (by omega)).mono ?_
 rintro e w2 ⟨my,rfl,m0,m1,D2,F2'⟩
 have F2:=F1.trans F2';have R2:=F2'.ib R1 (by decide) (by decide);clear D1 F1 F2' R1 E1
 by_cases hmy:0≤my∧my≤16
 ·go_wp2_with fail
  refine(l1In_yes _ _ _ _ (by omega) (by omega)).mono ?_
  rintro e w3 ⟨rfl,rfl⟩
  obtain⟨N,rfl⟩:=Int.eq_ofNat_of_zero_le hmy.1;have hN:N≤16:=by omega
  clear hmy m0 m1;have hs2:w.heap.size≤w2.heap.size:=by have:=R2.lt;omega
  have o0:=World.ownsRow_made (base:=w.heap.size) (e:=113) (size:=2) w2 #[] 0 hs2 (by simp) rfl;have e3:=Ext.alloc w2 (.cells #[] 113);have D3:=D2.ext e3;have F3:=F2.trans (FD.ext e3 (by omega));have R3:=R2.ext e3;clear D2 F2 R2 e3;go_wp2_with fail
  go_loopw [5,6] (fun v i wr=>∃(k:Nat) (L:List Int),k≤N∧i= .int .i64 (k:Nat)∧wr.ownsRow w.heap.size 113 2 v k (L.map (Value.int .i64))∧DK wr H O a n c (T+200+400*k)∧FD H w wr∧IB wr w.heap.size 81 (zl 16)) (fun _ i _=>N-(intOf i).toNat)
  case atStart=>exact⟨0,[],by omega,rfl,o0,D3.mono (by omega),F3,R3⟩
  case round =>
   clear o0 D3 F3 R3;obtain⟨k,L,hk,rfl,o4,D4,F4,R4⟩:=hrel
   by_cases hlt:k<N
   ·obtain⟨a4,c4,rfl⟩:=owns_form o4;have hs4:=F4.1.size;go_wp2_with fail
    refine(spec_l10Get_any _ H O _ 23 a n c D4 (by omega) (by omega)).mono ?_
    rintro e w5 ⟨zy,rfl,z0,z1,D5,F5'⟩
    have F5:=F4.trans F5';have R5:=F5'.ib R4 (by decide) (by decide);have o5:=F5'.owns o4 (by decide) (by decide);clear D4 F4 F5' R4 o4;go_wp2_with fail
    refine(spec_l10Get_any _ H O _ 30 a n c D5 (by omega) (by omega)).mono ?_
    rintro e w6 ⟨ly,rfl,l0,l1,D6,F6'⟩
    have F6:=F5.trans F6';have R6:=F6'.ib R5 (by decide) (by decide);have o6:=F6'.owns o5 (by decide) (by decide);clear D5 F5 F6' R5 o5
    by_cases hz:zy<0
    ·have hd:decide (zy<0)=true:=by simpa using hz
     go_wp2_with (first|(refine wpList_izeroz 81 rfl rfl Try.underlying81 size_int 16 zero_A16 ?_)|(refine wpList_istore 81 _ _ rfl rfl R6 0 16 rfl _ rfl _ rfl size_A16 (zl_len 16) (by simp[zl]) ?_;intro w8 r8 g8;refine Hid.out ?_))
     rw[spl_all (by rw[zl_len])]at r8;have F8:=FD.gr F6 g8 (fun q hq=>by cases hq;exact Nat.le_refl _) hHs;have D8:=DK.gr D6 g8 (fun q hq=>by cases hq;exact⟨hHs,_,_,R6,by decide,by decide⟩);refine Lib.hid ?_;go_wp2;refine bodyPost_ret (results_ct_row rfl _ _ w.heap.size 81 (ic (zl 16)) (0,0) _ rfl r8 Try.underlying81 rfl (by rw[ic_size,zl_len];exact size_A16)) rfl ?_;exact Hfin.out _ _ _ (D8.mono (by omega)) F8 (zl_len 16)
    ·have hd:decide (zy<0)=false:=by simpa using hz
     by_cases hl:0≤ly∧ly≤8159
     ·go_wp2_with fail
      refine(l1In_yes _ _ _ _ (by omega) (by omega)).mono ?_
      rintro e w7 ⟨rfl,rfl⟩
      go_wp2_with fail
      refine(spec_SignedValue_in _ _ (by omega) (by omega)).mono ?_
      rintro e w7 ⟨sv,rfl,rfl⟩
      have hs6:=F6.1.size;have hsw:w.heap.size≤w6.heap.size:=by have:=R6.lt;omega
      go_wp2_with (at_builtin;refine wpList_appk _ rfl (o6.alloc _) (by simp;omega) _ _ 111 rfl (.agg #[.int .i64 0,.int .i64 0]) 16 Try.underlying111 info_Run rfl (by decide) rfl ⟨w6.heap.size,0,none⟩ 1 1 [.int .i64 _,.int .i64 _] rfl rfl ((run_new w6 _ _).cellsOf _ (by simp)) (by intro u hu;simp at hu;rcases hu with rfl|rfl <;> rfl) (by omega) (by omega) ?_;intro v2 w8 own2 gr2 _;refine Hid.out ?_)
      refine Lib.hid ?_;obtain⟨a8,c8,rfl⟩:=owns_form own2;have eA:=Ext.alloc w6 (.cells #[.int .i64 zy,.int .i64 sv] 113);have F7:=F6.trans (FD.ext eA (by omega));have D7:=D6.ext eA;have R7:=R6.ext eA;have F8:=FD.gr F7 gr2 (owns_ge o6) hHs;have D8:=DK.gr D7 gr2 (own_q (owns_ext o6 eA) H hHs (by decide) (by decide));have R8:=R7.gr gr2 (by have:=own_ne_blk (owns_ext o6 eA) R7 (by decide);rcases this with h|h;(rw[h];simp);exact fun e=>h e);clear F6 D6 R6 o6 F7 D7 R7 gr2 eA;go_wp2;go_roundw
      case rel=>exact⟨k+1,L ++ [zy,sv],by omega,by go_num,by rw[List.map_append];exact own2,D8.mono (by omega),F8,R8⟩
      case measure=>simp[intOf] <;> omega
     ·go_wp2_with fail
      refine(l1In_no _ _ _ _ (by omega)).mono ?_
      rintro e w7 ⟨rfl,rfl⟩
      go_wp2_with (first|(refine wpList_izeroz 81 rfl rfl Try.underlying81 size_int 16 zero_A16 ?_)|(refine wpList_istore 81 _ _ rfl rfl R6 0 16 rfl _ rfl _ rfl size_A16 (zl_len 16) (by simp[zl]) ?_;intro w8 r8 g8;refine Hid.out ?_))
      rw[spl_all (by rw[zl_len])]at r8;have F8:=FD.gr F6 g8 (fun q hq=>by cases hq;exact Nat.le_refl _) hHs;have D8:=DK.gr D6 g8 (fun q hq=>by cases hq;exact⟨hHs,_,_,R6,by decide,by decide⟩);refine Lib.hid ?_;go_wp2;refine bodyPost_ret (results_ct_row rfl _ _ w.heap.size 81 (ic (zl 16)) (0,0) _ rfl r8 Try.underlying81 rfl (by rw[ic_size,zl_len];exact size_A16)) rfl ?_;exact Hfin.out _ _ _ (D8.mono (by omega)) F8 (zl_len 16)
   ·obtain rfl:k=N:=by omega
    have hd:decide ((k:Int)<k)=false:=by simp
    obtain⟨a4,c4,rfl⟩:=owns_form o4;go_wp2_with fail
    refine(spec_BlockOf_any _ _ _ w.heap.size L _ o4 (by omega)).mono ?_
    rintro e w5 ⟨zs,b,rfl,hz,e5⟩
    have Hz:=Lib.hid hz;have hs4:=F4.1.size;have hsw:w.heap.size≤wr.heap.size:=by have:=R4.lt;omega
    have D5:=D4.ext e5;have F5:=F4.trans (FD.ext e5 (by omega));have R5:=R4.ext e5;clear D4 F4 R4 o4 e5 hz;go_wp2_with (refine wpList_istore 81 _ _ rfl rfl R5 0 16 rfl _ rfl _ rfl size_A16 Hz.out (by simp[zl]) ?_;intro w8 r8 g8;refine Hid.out ?_)
    rw[spl_all (by rw[zl_len,Hz.out])]at r8;have F8:=FD.gr F5 g8 (fun q hq=>by cases hq;exact Nat.le_refl _) hHs;have D8:=DK.gr D5 g8 (fun q hq=>by cases hq;exact⟨hHs,_,_,R5,by decide,by decide⟩);refine Lib.hid ?_;go_wp2;refine bodyPost_ret (results_ct_row rfl _ _ w.heap.size 81 (ic zs) (0,0) _ rfl r8 Try.underlying81 rfl (by rw[ic_size,Hz.out];exact size_A16)) rfl ?_;exact Hfin.out _ _ _ (D8.mono (by omega)) F8 Hz.out
 ·go_wp2_with fail
  refine(l1In_no _ _ _ _ (by omega)).mono ?_
  rintro e w3 ⟨rfl,rfl⟩
  go_wp2_with (first|(refine wpList_izeroz 81 rfl rfl Try.underlying81 size_int 16 zero_A16 ?_)|(refine wpList_istore 81 _ _ rfl rfl R2 0 16 rfl _ rfl _ rfl size_A16 (zl_len 16) (by simp[zl]) ?_;intro w8 r8 g8;refine Hid.out ?_))
  rw[spl_all (by rw[zl_len])]at r8;have F8:=FD.gr F2 g8 (fun q hq=>by cases hq;exact Nat.le_refl _) hHs;have D8:=DK.gr D2 g8 (fun q hq=>by cases hq;exact⟨hHs,_,_,R2,by decide,by decide⟩);refine Lib.hid ?_;go_wp2;refine bodyPost_ret (results_ct_row rfl _ _ w.heap.size 81 (ic (zl 16)) (0,0) _ rfl r8 Try.underlying81 rfl (by rw[ic_size,zl_len];exact size_A16)) rfl ?_;exact Hfin.out _ _ _ (D8.mono (by omega)) F8 (zl_len 16)
theorem zeroc_h : Try.zeroCells84=ic (zl 71):=by kernel_rfl
theorem nth_set_eq {zs:List Int} {i:Nat} {x:Int} (h:i<zs.length):nth (zs.set i x) i=x:=by simp[nth,h]
/-- The decoder, a macroblock at q that is being read, and where the answer lies. -/
structure HQ (w wr : World) (H O : Nat) (a : Option Addr) (n c T q : Nat) (zs : List Int) : Prop where
 dk:DK wr H O a n c T
 fd:FD H w wr
 rb:IB wr w.heap.size 84 (zl 71)
 qb:IB wr q 84 zs
 ln:zs.length=71
 hq:w.heap.size<q
 hH:H≤w.heap.size
theorem HQ.set {w wr:World} {H O n c T q:Nat} {a:Option Addr} {zs:List Int} (h:HQ w wr H O a n c T q zs) (i:Nat) (v:Int):HQ w (wr.setCell ⟨q,i,none⟩ (.int .i64 v)) H O a n c T q (zs.set i v):=by
 have hq:=h.hq;have hH:=h.hH;exact⟨h.dk.gr (gsO wr q i _) (fun q' e=>by cases e;exact⟨by omega,_,_,h.qb,by decide,by decide⟩),h.fd.gr (gsO wr q i _) (fun q' e=>by cases e;omega) hH,h.rb.gr (gsO wr q i _) (by simp;omega),h.qb.set i v,by rw[List.length_set];exact h.ln,hq,hH⟩
theorem HQ.spl {w wr w2:World} {H O n c T q off:Nat} {a:Option Addr} {zs ys:List Int} (h:HQ w wr H O a n c T q zs) (p:IB w2 q 84 (spl zs off ys)) (g:wr.grownBy w2 (some q)) (hl:(spl zs off ys).length=71):HQ w w2 H O a n c T q (spl zs off ys):=by
 have hq:=h.hq;have hH:=h.hH;exact⟨h.dk.gr g (fun q' e=>by cases e;exact⟨by omega,_,_,h.qb,by decide,by decide⟩),h.fd.gr g (fun q' e=>by cases e;omega) hH,h.rb.gr g (by simp;omega),p,hl,hq,hH⟩
theorem HQ.call {w wr w2:World} {H O n c T T' q:Nat} {a:Option Addr} {zs:List Int} (h:HQ w wr H O a n c T q zs) (d:DK w2 H O a n c T') (f:FD H wr w2):HQ w w2 H O a n c T' q zs :=
 ⟨d,h.fd.trans f,f.ib h.rb (by decide) (by decide),f.ib h.qb (by decide) (by decide),h.ln,h.hq,h.hH⟩
theorem HQ.mono {w wr:World} {H O n c T T' q:Nat} {a:Option Addr} {zs:List Int} (h:HQ w wr H O a n c T q zs) (e:T≤T'):HQ w wr H O a n c T' q zs:=⟨h.dk.mono e,h.fd,h.rb,h.qb,h.ln,h.hq,h.hH⟩
/-- What l10Head answers. -/
def HdR (w:World) (H O:Nat) (a:Option Addr) (n c T:Nat) (e:Ending) (w':World):Prop :=
 ∃(zs:List Int) (b:Bool),e= .returned (.tuple #[.agg (ic zs),.bool b])∧zs.length=71∧DK w' H O a n c T∧FD H w w'
theorem HQ.fin {w wr w2:World} {H O n c T T' q:Nat} {a:Option Addr} {zs ys:List Int} (h:HQ w wr H O a n c T q zs) (g:wr.grownBy w2 (some w.heap.size)) (hT:T≤T') (b:Bool) (hl:ys.length=71):HdR w H O a n c T' (.returned (.tuple #[.agg (ic ys),.bool b])) w2 :=
 ⟨ys,b,rfl,hl,(h.dk.gr g (fun q' e=>by cases e;exact⟨h.hH,_,_,h.rb,by decide,by decide⟩)).mono hT,h.fd.gr g (fun q' e=>by cases e;exact Nat.le_refl _) h.hH⟩
theorem spec_l10Head_any (w:World) (H O T:Nat) (intra:Bool) (a:Option Addr) (n c:Nat) (h0:DK w H O a n c T) (hT:T≤2^37) :
 Calls Try.prog 47 #[.pointer (some ⟨O,0,none⟩),.bool intra] w (HdR w H O a n c (T+2000)):=by
 have hHs:=h0.hO.2.1;have R1:=(IB.new w 84 (zl 71)).alloc (.cells (ic (zl 71)) 84);have Q1:=IB.new (w.alloc (.cells (ic (zl 71)) 84)) 84 (zl 71);have E1:=(Ext.alloc w (.cells (ic (zl 71)) 84)).trans (Ext.alloc _ (.cells (ic (zl 71)) 84));have S1:HQ w ((w.alloc (.cells (ic (zl 71)) 84)).alloc (.cells (ic (zl 71)) 84)) H O a n c T (w.heap.size+1) (zl 71):=⟨h0.ext E1,FD.ext E1 hHs,R1,by rw[World.size_alloc]at Q1;exact Q1,zl_len 71,by omega,hHs⟩;simp only[World.size_alloc]at Q1;clear R1 E1 h0;go_enter Try.func47,Try.ntmps47
 go_wp2_with (first|(refine wpList_iallocz 84 rfl rfl 71 zero_Macz ?_;(try simp only[World.size_alloc]))|(refine wpList_ibuild 84 _ rfl rfl (2::zl 70) (built_Macz _) ?_)|(refine wpList_istore 84 _ _ rfl rfl Q1 0 71 rfl _ rfl (2::zl 70) rfl size_Macro (by simp[zl]) (by simp[zl]) ?_;intro w1 q1 g1;refine Hid.out ?_))
 have S2:=S1.spl q1 g1 (by rw[spl_all (by simp[zl])];simp[zl]);rw[spl_all (by simp[zl])]at S2;clear S1 Q1 q1 g1;obtain⟨q,hq⟩:∃ q,q=w.heap.size+1:=⟨_,rfl⟩;rw[←hq]at S2⊢;clear hq;refine Lib.hid ?_;cases intra
 case' true =>
  have S4:=S2.mono (T':=T+100) (by omega);obtain⟨zs4,hz4⟩:∃ z,z=(2::zl 70:List Int):=⟨_,rfl⟩;have k0:=S4.qb.cell (i:=0) (by rw[S4.ln];omega);rw[show nth (2::zl 70) 0=2 from rfl]at k0;rw[←hz4]at S4;have d1:decide ((2:Int)=1)=false:=rfl;clear hz4 S2;go_wp2_with fail
  go_loopw [9] (fun i wr=>∃(k:Nat) (zs:List Int),k≤4∧i= .int .i64 (k:Nat)∧HQ w wr H O a n c (T+100+300*k) q zs) (fun i _=>4-(intOf i).toNat)
  case atStart=>exact⟨0,_,by omega,rfl,S4⟩
  case round =>
   clear S4;obtain⟨k,zs,hk,rfl,S5⟩:=hrel
   by_cases hlt:k<4
   ·go_wp2_with fail
    refine(spec_l10Get_any _ H O _ 9 a n c S5.dk (by omega) (by omega)).mono ?_
    rintro e w6 ⟨x,rfl,x0,x1,D6,F6⟩
    have S6:=S5.call D6 F6;clear S5 D6 F6;have k6:=S6.qb.cell (i:=3+k) (by rw[S6.ln];omega);have f6:=S6.qb.frozen (3+k);have S7:=(S6.set (3+k) x).mono (T':=T+100+300*(k+1)) (by omega);have k7:=S7.qb.cell (i:=3+k) (by rw[S7.ln];omega);rw[nth_set_eq (by rw[S6.ln];omega)]at k7;obtain⟨zs7,hz7⟩:∃ z,z=zs.set (3+k) x:=⟨_,rfl⟩;rw[←hz7]at S7;clear hz7 S6;go_upto_region 17 with fail
    generalize World.setCell _ _ _=w7 at *
    by_cases hx:0≤x∧x≤4
    ·go_wp2_with fail
     refine(l1In_yes _ _ _ _ (by omega) (by omega)).mono ?_
     rintro e w8 ⟨rfl,rfl⟩
     go_wp2;go_roundw
     case rel=>exact⟨k+1,_,by omega,by go_num,S7⟩
     case measure=>simp[intOf] <;> omega
    ·go_wp2_with fail
     refine(l1In_no _ _ _ _ (by omega)).mono ?_
     rintro e w8 ⟨rfl,rfl⟩
     have R8:=S7.rb;go_wp2_with (refine wpList_istore 84 _ _ rfl rfl R8 0 71 rfl _ rfl (zl 71) zeroc_h size_Macro (zl_len 71) (by simp[zl]) ?_;intro w8 r8 g8;refine Hid.out ?_)
     rw[spl_all (by rw[zl_len])]at r8;refine Lib.hid ?_;go_wp2;refine bodyPost_ret (results_ct_row rfl _ _ w.heap.size 84 (ic (zl 71)) (0,0) _ rfl r8 Try.underlying84 rfl (by rw[ic_size,zl_len];exact size_Macro)) rfl ?_;exact S7.fin g8 (by omega) _ (zl_len 71)
   ·obtain rfl:k=4:=by omega
    have hd:decide (((4:Nat):Int)<4)=false:=by simp
    have R8:=S5.rb;have Q8:=S5.qb;have L8:=S5.ln;go_wp2_with (first|(refine wpList_iload 84 _ rfl rfl Q8 0 71 rfl _ Try.underlying84 rfl size_Macro (by rw[L8];omega) _ (by rw[sub_all _ _ L8]) ?_)|(refine wpList_istore 84 _ _ rfl rfl R8 0 71 rfl _ rfl _ rfl size_Macro L8 (by simp[zl]) ?_;intro w8 r8 g8;refine Hid.out ?_))
    rw[spl_all (by rw[zl_len,L8])]at r8;refine Lib.hid ?_;go_wp2;refine bodyPost_ret (results_ct_row rfl _ _ w.heap.size 84 (ic zs) (0,0) _ rfl r8 Try.underlying84 rfl (by rw[ic_size,L8];exact size_Macro)) rfl ?_;exact S5.fin g8 (by omega) _ L8
 case' false =>
  go_wp2_with fail
  refine(spec_get_any _ H O T 0 a n c S2.dk (by omega) (by omega)).mono ?_
  rintro e w3 ⟨bit,hbit,rfl,D3,F3⟩
  have S3:=S2.call D3 F3;clear S2 D3 F3
  by_cases hb0:bit=0
  ·subst hb0;have R8:=S3.rb;go_wp2_with (refine wpList_istore 84 _ _ rfl rfl R8 0 71 rfl _ rfl (zl 71) zeroc_h size_Macro (zl_len 71) (by simp[zl]) ?_;intro w8 r8 g8;refine Hid.out ?_)
   rw[spl_all (by rw[zl_len])]at r8;refine Lib.hid ?_;go_wp2;refine bodyPost_ret (results_ct_row rfl _ _ w.heap.size 84 (ic (zl 71)) (0,0) _ rfl r8 Try.underlying84 rfl (by rw[ic_size,zl_len];exact size_Macro)) rfl ?_;exact S3.fin g8 (by omega) _ (zl_len 71)
  ·obtain rfl:bit=1:=by omega
   go_wp2_with fail
   refine(spec_get_any _ H O _ 1 a n c S3.dk (by omega) (by omega)).mono ?_
   rintro e w4 ⟨bit,hbit2,rfl,D4,F4⟩
   have S3':=S3.call D4 F4;clear S3 D4 F4 hb0 hbit;have k4:=S3'.qb.cell (i:=0) (by rw[S3'.ln];omega);have f4:=S3'.qb.frozen 0;have S4:=(S3'.set 0 (1+(bit:Int))).mono (T':=T+100) (by omega);have k0:=S4.qb.cell (i:=0) (by rw[S4.ln];omega);have f0:=S4.qb.frozen 0;rw[show nth ((2::zl 70:List Int).set 0 (1+(bit:Int))) 0=1+(bit:Int)from rfl]at k0;obtain⟨zs4,hz4⟩:∃ z,z=((2::zl 70:List Int).set 0 (1+(bit:Int))):=⟨_,rfl⟩;rw[←hz4]at S4;clear hz4 S3';go_upto_region 6 with fail
   generalize World.setCell _ _ _=w4' at *;clear k4 f4;obtain⟨bi,hbi⟩:∃ bi:Int,bi=(bit:Int):=⟨_,rfl⟩;rw[←hbi]at k0⊢;have hb2:bi=0∨bi=1:=by omega
   clear hbi;obtain rfl|rfl:=hb2
   ·rw[show(1:Int)+0=1 from rfl]at k0⊢;have d1:decide ((1:Int)=1)=true:=rfl;go_wp2_with fail
    refine(spec_l10Get_any _ H O _ 2 a n c S4.dk (by omega) (by omega)).mono ?_
    rintro e w5 ⟨x,rfl,x0,x1,D5,F5⟩
    have S5:=S4.call D5 F5;clear S4 D5 F5 k0 f0;go_wp2_with fail
    refine(spec_l10Get_any _ H O _ 2 a n c S5.dk (by omega) (by omega)).mono ?_
    rintro e w6 ⟨y,rfl,y0,y1,D6,F6⟩
    have S6:=S5.call D6 F6;clear S5 D6 F6
    by_cases hx:0≤x∧x≤32
    ·by_cases hy:0≤y∧y≤32
     ·go_wp2_with fail
      refine(l1In_yes _ _ _ _ (by omega) (by omega)).mono ?_
      rintro e w7 ⟨rfl,rfl⟩
      go_wp2_with fail
      refine(l1In_yes _ _ _ _ (by omega) (by omega)).mono ?_
      rintro e w7 ⟨rfl,rfl⟩
      go_wp2_with fail
      refine(spec_SignedValue_in _ _ (by omega) (by omega)).mono ?_
      rintro e w7 ⟨sx,rfl,rfl⟩
      go_wp2_with fail
      refine(spec_SignedValue_in _ _ (by omega) (by omega)).mono ?_
      rintro e w7 ⟨sy,rfl,rfl⟩
      have Q6:=S6.qb;have L6:=S6.ln;go_wp2_with (refine wpList_istore 79 _ _ rfl rfl Q6 1 2 rfl _ rfl [sx,sy] rfl size_Vector rfl (by rw[L6];omega) ?_;intro w7 q7 g7;refine Hid.out ?_)
      have S7:=S6.spl q7 g7 (by simp[spl,L6]);clear S6 Q6 L6 q7 g7;refine Lib.hid ?_;obtain⟨zs7,hz7⟩:∃ z,z=spl zs4 1 [sx,sy]:=⟨_,rfl⟩;rw[←hz7]at S7;clear hz7;have R8:=S7.rb;have Q8:=S7.qb;have L8:=S7.ln;go_wp2_with (first|(refine wpList_iload 84 _ rfl rfl Q8 0 71 rfl _ Try.underlying84 rfl size_Macro (by rw[L8];omega) _ (by rw[sub_all _ _ L8]) ?_)|(refine wpList_istore 84 _ _ rfl rfl R8 0 71 rfl _ rfl _ rfl size_Macro L8 (by simp[zl]) ?_;intro w8 r8 g8;refine Hid.out ?_))
      rw[spl_all (by rw[zl_len,L8])]at r8;refine Lib.hid ?_;go_wp2;refine bodyPost_ret (results_ct_row rfl _ _ w.heap.size 84 (ic zs7) (0,0) _ rfl r8 Try.underlying84 rfl (by rw[ic_size,L8];exact size_Macro)) rfl ?_;exact S7.fin g8 (by omega) _ L8
     ·go_wp2_with fail
      refine(l1In_yes _ _ _ _ (by omega) (by omega)).mono ?_
      rintro e w7 ⟨rfl,rfl⟩
      go_wp2_with fail
      refine(l1In_no _ _ _ _ (by omega)).mono ?_
      rintro e w7 ⟨rfl,rfl⟩
      have R8:=S6.rb;go_wp2_with (refine wpList_istore 84 _ _ rfl rfl R8 0 71 rfl _ rfl (zl 71) zeroc_h size_Macro (zl_len 71) (by simp[zl]) ?_;intro w8 r8 g8;refine Hid.out ?_)
      rw[spl_all (by rw[zl_len])]at r8;refine Lib.hid ?_;go_wp2;refine bodyPost_ret (results_ct_row rfl _ _ w.heap.size 84 (ic (zl 71)) (0,0) _ rfl r8 Try.underlying84 rfl (by rw[ic_size,zl_len];exact size_Macro)) rfl ?_;exact S6.fin g8 (by omega) _ (zl_len 71)
    ·go_wp2_with fail
     refine(l1In_no _ _ _ _ (by omega)).mono ?_
     rintro e w7 ⟨rfl,rfl⟩
     have R8:=S6.rb;go_wp2_with (refine wpList_istore 84 _ _ rfl rfl R8 0 71 rfl _ rfl (zl 71) zeroc_h size_Macro (zl_len 71) (by simp[zl]) ?_;intro w8 r8 g8;refine Hid.out ?_)
     rw[spl_all (by rw[zl_len])]at r8;refine Lib.hid ?_;go_wp2;refine bodyPost_ret (results_ct_row rfl _ _ w.heap.size 84 (ic (zl 71)) (0,0) _ rfl r8 Try.underlying84 rfl (by rw[ic_size,zl_len];exact size_Macro)) rfl ?_;exact S6.fin g8 (by omega) _ (zl_len 71)
   ·rw[show(1:Int)+1=2 from rfl]at k0⊢;have d1:decide ((2:Int)=1)=false:=rfl;go_wp2_with fail
    go_loopw [9] (fun i wr=>∃(k:Nat) (zs:List Int),k≤4∧i= .int .i64 (k:Nat)∧HQ w wr H O a n c (T+100+300*k) q zs) (fun i _=>4-(intOf i).toNat)
    case atStart=>exact⟨0,_,by omega,rfl,S4⟩
    case round =>
     clear S4;obtain⟨k,zs,hk,rfl,S5⟩:=hrel
     by_cases hlt:k<4
     ·go_wp2_with fail
      refine(spec_l10Get_any _ H O _ 9 a n c S5.dk (by omega) (by omega)).mono ?_
      rintro e w6 ⟨x,rfl,x0,x1,D6,F6⟩
      have S6:=S5.call D6 F6;clear S5 D6 F6;have k6:=S6.qb.cell (i:=3+k) (by rw[S6.ln];omega);have f6:=S6.qb.frozen (3+k);have S7:=(S6.set (3+k) x).mono (T':=T+100+300*(k+1)) (by omega);have k7:=S7.qb.cell (i:=3+k) (by rw[S7.ln];omega);rw[nth_set_eq (by rw[S6.ln];omega)]at k7;obtain⟨zs7,hz7⟩:∃ z,z=zs.set (3+k) x:=⟨_,rfl⟩;rw[←hz7]at S7;clear hz7 S6;go_upto_region 17 with fail
      generalize World.setCell _ _ _=w7 at *
      by_cases hx:0≤x∧x≤4
      ·go_wp2_with fail
       refine(l1In_yes _ _ _ _ (by omega) (by omega)).mono ?_
       rintro e w8 ⟨rfl,rfl⟩
       go_wp2;go_roundw
       case rel=>exact⟨k+1,_,by omega,by go_num,S7⟩
       case measure=>simp[intOf] <;> omega
      ·go_wp2_with fail
       refine(l1In_no _ _ _ _ (by omega)).mono ?_
       rintro e w8 ⟨rfl,rfl⟩
       have R8:=S7.rb;go_wp2_with (refine wpList_istore 84 _ _ rfl rfl R8 0 71 rfl _ rfl (zl 71) zeroc_h size_Macro (zl_len 71) (by simp[zl]) ?_;intro w8 r8 g8;refine Hid.out ?_)
       rw[spl_all (by rw[zl_len])]at r8;refine Lib.hid ?_;go_wp2;refine bodyPost_ret (results_ct_row rfl _ _ w.heap.size 84 (ic (zl 71)) (0,0) _ rfl r8 Try.underlying84 rfl (by rw[ic_size,zl_len];exact size_Macro)) rfl ?_;exact S7.fin g8 (by omega) _ (zl_len 71)
     ·obtain rfl:k=4:=by omega
      have hd:decide (((4:Nat):Int)<4)=false:=by simp
      have R8:=S5.rb;have Q8:=S5.qb;have L8:=S5.ln;go_wp2_with (first|(refine wpList_iload 84 _ rfl rfl Q8 0 71 rfl _ Try.underlying84 rfl size_Macro (by rw[L8];omega) _ (by rw[sub_all _ _ L8]) ?_)|(refine wpList_istore 84 _ _ rfl rfl R8 0 71 rfl _ rfl _ rfl size_Macro L8 (by simp[zl]) ?_;intro w8 r8 g8;refine Hid.out ?_))
      rw[spl_all (by rw[zl_len,L8])]at r8;refine Lib.hid ?_;go_wp2;refine bodyPost_ret (results_ct_row rfl _ _ w.heap.size 84 (ic zs) (0,0) _ rfl r8 Try.underlying84 rfl (by rw[ic_size,L8];exact size_Macro)) rfl ?_;exact S5.fin g8 (by omega) _ L8
def binOk (L:List Int) (k:Nat):Bool:=decide ((0≤L.getD (k*2) 0∧L.getD (k*2) 0≤39)∧0≤L.getD (k*2+1) 0∧L.getD (k*2+1) 0≤1)
/-- What BinsValid answers for n decisions. -/
def binsOk (L:List Int) (n:Nat):Bool:=(List.range n).all (binOk L) && decide (n≤20000)
def pairs (L:List Int) (n:Nat):List (Nat×Nat):=(List.range n).map fun k=>((L.getD (k*2) 0).toNat,(L.getD (k*2+1) 0).toNat)
/-- What EncodeBins answers for n decisions. -/
def encS (L:List Int) (n:Nat):List Int:=if binsOk L n=true then encL (pairs L n)else []
theorem binsOk_no {L:List Int} {n k:Nat} (hk:k<n) (h:binOk L k=false):binsOk L n=false:=by
 unfold binsOk;rw[show(List.range n).all (binOk L)=false from ?_]
 ·rfl
 ·rw[List.all_eq_false];exact⟨k,by simpa using hk,by simp[h]⟩
theorem binsOk_yes {L:List Int} {n:Nat} (h:∀ k,k<n→binOk L k=true):binsOk L n=decide (n≤20000):=by
 unfold binsOk;rw[show(List.range n).all (binOk L)=true from ?_]
 ·rfl
 ·rw[List.all_eq_true];intro k hk;exact h k (by simpa using hk)
theorem binsOk_at {L:List Int} {n:Nat} (h:binsOk L n=true):n≤20000∧∀ k,k<n→binOk L k=true:=by
 unfold binsOk at h;rw[Bool.and_eq_true,List.all_eq_true]at h;exact⟨by simpa using h.2,fun k hk=>h.1 k (by simpa using hk)⟩
theorem bin_cells {w:World} {H n c:Nat} {a:Option Addr} {L:List Int} (h:w.ownsRow H 97 2 (.slice a n c) n (L.map (Value.int .i64))) {k:Nat} (hk:k<n) :
 ∃ g,a=some ⟨g,0,none⟩∧w.cell? ⟨g,k*2,none⟩=some (.int .i64 (L.getD (k*2) 0))∧w.cell? ⟨g,k*2+1,none⟩=some (.int .i64 (L.getD (k*2+1) 0)):=by
 have hl:L.length=n*2:=by simpa using h.1
 rcases id h.2 with⟨hv,h0⟩|⟨g,cap,cur,hv,-⟩
 ·omega
 ·simp only[Value.slice.injEq]at hv;obtain⟨rfl,-,rfl⟩:=hv;have h1:=h.cells (g:=g) rfl (k*2) (.int .i64 (L.getD (k*2) 0)) (by simp[List.getElem?_eq_getElem (show k*2<L.length by omega)]);have h2:=h.cells (g:=g) rfl (k*2+1) (.int .i64 (L.getD (k*2+1) 0)) (by simp[List.getElem?_eq_getElem (show k*2+1<L.length by omega)]);refine⟨g,rfl,?_,?_⟩
  ·by_cases h0:k*2=0 <;> simpa [Addr.add,h0] using h1
  ·simpa [Addr.add] using h2
theorem Ac.inv_mono {c:Ac} {s t:Nat} (h:c.inv s) (hst:t≤s):c.inv t:=⟨h.1,by have:=h.2.1;omega,by have:=h.2.2;omega⟩
theorem pairs_succ (L:List Int) (k:Nat):encC (pairs L (k+1))=(encC (pairs L k)).put ((L.getD (k*2) 0).toNat,(L.getD (k*2+1) 0).toNat):=by
 unfold pairs encC;rw[List.range_succ,List.map_append,List.foldl_append];rfl
theorem pairs_ok {L:List Int} {n:Nat} (h:∀ k,k<n→binOk L k=true):∀ b∈pairs L n,b.1<40:=by
 intro b hb;obtain⟨k,hk,rfl⟩:=List.mem_map.1 hb;have:=h k (by simpa using hk);simp only[binOk,decide_eq_true_eq]at this;show(L.getD (k*2) 0).toNat<40;omega
theorem pairs_len (L:List Int) (n:Nat):(pairs L n).length=n:=by simp[pairs]
/-- Shifted k times. -/
def Ac.sh : Nat→Ac→Ac
 | 0,c=>c
 | k+1,c=>(Ac.sh k c).shift
theorem Ac.sh_inv {c:Ac} {s:Nat} (h:c.inv s) (hs:0<s):∀ k,(Ac.sh k c).inv 1∧(Ac.sh k c).out.length=c.out.length+k
 | 0=>⟨Ac.inv_mono h hs,rfl⟩
 | k+1=>by
  obtain⟨h1,h2⟩:=Ac.sh_inv h hs k;refine⟨Ac.inv_mono (Ac.shift_inv h1 (by omega) (by omega)) (by omega),?_⟩;show((Ac.sh k c).car ++ [_]).length=_;rw[List.length_append,Ac.car_len,h2];rfl
theorem encS_len (L:List Int) (n:Nat):(encS L n).length≤60004:=by
 unfold encS
 split
 ·rename_i h
  obtain⟨h1,h2⟩:=binsOk_at h;have h3:=encC_ok (pairs L n) (pairs_ok h2);have h4:=(Ac.sh_inv h3.1.1 (by have:=h3.1.2.1;omega) 4).2;have h5:=h3.2;rw[pairs_len]at h5;show(Ac.sh 4 (encC (pairs L n))).out.length≤_;omega
 ·simp
theorem encS_byt (L:List Int) (n:Nat):bytL (encS L n):=by
 unfold encS
 split
 ·rename_i h
  obtain⟨h1,h2⟩:=binsOk_at h;have h3:=encC_ok (pairs L n) (pairs_ok h2);exact(Ac.sh_inv h3.1.1 (by have:=h3.1.2.1;omega) 4).1.1
 ·intro x hx;cases hx
theorem spec_BinsValid_any (a:Option Addr) (n c H:Nat) (L:List Int) (w:World) (h:w.ownsRow H 97 2 (.slice a n c) n (L.map (Value.int .i64))) (hn:n≤2^40) :
 Calls Try.prog 54 #[.slice a n c] w fun e w'=>e= .returned (.bool (binsOk L n))∧w=w':=by
 go_enter Try.func54,Try.ntmps54
 go_wp2_with fail
 go_loopw [3] (fun i wr=>∃ k,k≤n∧i= .int .i64 (k:Nat)∧wr=w∧∀ j,j<k→binOk L j=true) (fun i _=>n-(intOf i).toNat)
 case atStart=>exact⟨0,by omega,rfl,rfl,fun j hj=>by omega⟩
 case round =>
  obtain⟨k,hk,rfl,rfl,hall⟩:=hrel;have Hall:=Lib.hid hall;clear hall
  by_cases hlt:k<n
  ·obtain⟨g,rfl,k0,k1⟩:=bin_cells h hlt;obtain⟨A,hA⟩:∃ A,A=L.getD (k*2) 0:=⟨_,rfl⟩;obtain⟨B,hB⟩:∃ B,B=L.getD (k*2+1) 0:=⟨_,rfl⟩;have hbo:binOk L k=decide ((0≤A∧A≤39)∧0≤B∧B≤1):=by rw[hA,hB];rfl
   rw[←hA]at k0;rw[←hB]at k1;have Hbo:=Lib.hid hbo;clear hbo hA hB
   by_cases h1:0≤A∧A≤39
   ·by_cases h2:0≤B∧B≤1
    ·go_wp2_with fail
     refine(l1In_yes _ _ _ _ (by omega) (by omega)).mono ?_
     rintro e w' ⟨rfl,rfl⟩
     go_wp2_with fail
     refine(l1In_yes _ _ _ _ (by omega) (by omega)).mono ?_
     rintro e w' ⟨rfl,rfl⟩
     go_wp2;go_roundw
     case rel =>
      refine⟨k+1,by omega,by go_num,by first|rfl|trivial,fun j hj => ?_⟩
      by_cases e:j=k
      ·rw[e,Hbo.out];simp;omega
      ·exact Hall.out j (by omega)
     case measure=>simp[intOf];omega
    ·have hno:=Lib.hid (binsOk_no hlt (by rw[Hbo.out];simp;omega));go_wp2_with fail
     refine(l1In_yes _ _ _ _ (by omega) (by omega)).mono ?_
     rintro e w' ⟨rfl,rfl⟩
     go_wp2_with fail
     refine(l1In_no _ _ _ _ (by omega)).mono ?_
     rintro e w' ⟨rfl,rfl⟩
     go_wp2;go_ret
     exact⟨by rw[hno.out];rfl,rfl⟩
   ·have hno:=Lib.hid (binsOk_no hlt (by rw[Hbo.out];simp;omega));go_wp2_with fail
    refine(l1In_no _ _ _ _ (by omega)).mono ?_
    rintro e w' ⟨rfl,rfl⟩
    go_wp2;go_ret
    exact⟨by rw[hno.out];rfl,rfl⟩
  ·obtain rfl:k=n:=by omega
   have Hy:=Lib.hid (binsOk_yes Hall.out)
   by_cases h20:k≤20000
   ·have hd:decide ((k:Int)≤20000)=true:=by simp;omega
    go_wp2;go_ret
    exact⟨by rw[Hy.out,decide_eq_true h20];rfl,rfl⟩
   ·have hd:decide ((k:Int)≤20000)=false:=by simp;omega
    go_wp2;go_ret
    exact⟨by rw[Hy.out,decide_eq_false h20];rfl,rfl⟩
theorem spec_EncodeBins_any (a:Option Addr) (n c H0:Nat) (L:List Int) (w:World) (h:w.ownsRow H0 97 2 (.slice a n c) n (L.map (Value.int .i64))) (hn:n≤2^40) :
 Calls Try.prog 44 #[.slice a n c] w fun e w'=>∃ a' c',e= .returned (.slice a' (encS L n).length c')∧w'.ownsRow w.heap.size 5 1 (.slice a' (encS L n).length c') (encS L n).length (u8s (encS L n))∧Ext w w':=by
 by_cases hb:binsOk L n=true
 ·have hs:encS L n=(Ac.sh 4 (encC (pairs L n))).out:=by unfold encS;rw[if_pos hb];rfl
  rw[hs];have Hat:=Lib.hid (binsOk_at hb);have hn2:=Hat.out.1;have Hb:=Lib.hid hb;have Hh:=Lib.hid h;clear hb hs;go_enter Try.func44,Try.ntmps44
  go_wp2_with fail
  refine(spec_BinsValid_any a n c H0 L _ Hh.out (by omega)).mono ?_
  rintro e w' ⟨rfl,rfl⟩
  rw[Hb.out];go_wp2_with fail
  refine(spec_l9Chances_any _).mono ?_
  rintro e w1 ⟨vch,rfl,och,E1⟩
  obtain⟨ach,cch,rfl⟩:=owns_form och;go_wp2_with fail
  have hO:w.heap.size≤w1.heap.size:=E1.size;have hC0:CM (w1.alloc (.cells #[.int .i64 0,.int .i64 4294967295,.slice none 0 0,.slice ach 40 cch] 104)) w.heap.size w1.heap.size Ac.init (.slice none 0 0) (.slice ach 40 cch) :=
   ⟨blk_new w1 _,World.ownsRow_nil _ _ _ _,by have:=owns_ext och (Ext.alloc w1 (.cells #[.int .i64 0,.int .i64 4294967295,.slice none 0 0,.slice ach 40 cch] 104));simpa [ch64,Ac.init] using this,hO,by simp;omega⟩
  have E2:=E1.trans (Ext.alloc w1 (.cells #[.int .i64 0,.int .i64 4294967295,.slice none 0 0,.slice ach 40 cch] 104));clear och E1;generalize w1.alloc (.cells #[.int .i64 0,.int .i64 4294967295,.slice none 0 0,.slice ach 40 cch] 104)=w2 at *;obtain⟨O,hOe⟩:∃ O,O=w1.heap.size:=⟨_,rfl⟩;rw[←hOe]at hC0 hO⊢;clear hOe;go_loopw [4] (fun i wr=>∃(k:Nat) (vo:Value),k≤n∧i= .int .i64 (k:Nat)∧Ext w wr∧CM wr w.heap.size O (encC (pairs L k)) vo (.slice ach 40 cch)) (fun i _=>n-(intOf i).toNat)
  case atStart=>exact⟨0,_,by omega,rfl,E2,hC0⟩
  case round =>
   clear hC0 E2;obtain⟨k,vo,hk,rfl,E2,hC⟩:=hrel
   by_cases hlt:k<n
   ·have hr:=owns_ext Hh.out E2;obtain⟨g,rfl,k0,k1⟩:=bin_cells hr hlt;have hok:=(Hat.out.2 k hlt);simp only[binOk,decide_eq_true_eq]at hok;obtain⟨X,hX⟩:=Int.eq_ofNat_of_zero_le hok.1.1;obtain⟨B,hB⟩:=Int.eq_ofNat_of_zero_le hok.2.1;have hps:=pairs_succ L k;rw[hX,hB]at hok hps;rw[hX]at k0;rw[hB]at k1;have hgd:=encC_ok (pairs L k) (pairs_ok (fun j hj=>Hat.out.2 j (by omega)));rw[pairs_len]at hgd;have hput:=spec_put_any wr w.heap.size O X B _ vo _ hC hgd.1 (by omega) (by omega) (by omega);have Hput:=Lib.hid hput;have Hps:=Lib.hid hps;clear hput hgd hps hok hX hB hr hC;go_wp2_with fail
    refine Hput.out.mono ?_
    rintro e w4 ⟨rfl,⟨vo2,hC4⟩,hB4⟩
    have E4:=Below.trans E2 hB4;have HC4:=Lib.hid hC4;clear hC4 hB4 E2;go_wp2;go_roundw
    case rel =>
     refine⟨k+1,vo2,by omega,rfl,E4,?_⟩;rw[Hps.out];exact HC4.out
    case measure=>simp[intOf];omega
   ·obtain rfl:k=n:=by omega
    have hgd:=encC_ok (pairs L k) (pairs_ok Hat.out.2);rw[pairs_len]at hgd;have hsi:=fun j=>Ac.sh_inv hgd.1.1 (show 0<(encC (pairs L k)).span by have:=hgd.1.2.1;omega) j
    have hlen:(encC (pairs L k)).out.length≤60000:=by have:=hgd.2;omega
    obtain⟨cE,hcE⟩:∃ q,q=encC (pairs L k):=⟨_,rfl⟩;rw[←hcE]at hgd hlen hC;simp only[←hcE]at hsi;have HcE:=Lib.hid hcE;clear hcE;have Hsi:=Lib.hid hsi;clear hgd hsi Hat Hb Hh h;go_wp2_with fail
    go_loopw [5] (fun i wr=>∃(j:Nat) (vo:Value),j≤4∧i= .int .i64 (j:Nat)∧Ext w wr∧CM wr w.heap.size O (Ac.sh j cE) vo (.slice ach 40 cch)) (fun i _=>4-(intOf i).toNat)
    case atStart=>exact⟨0,_,by omega,rfl,E2,hC⟩
    case round =>
     clear hC E2;obtain⟨j,vo,hj,rfl,E2,hC⟩:=hrel
     by_cases hlt:j<4
     ·have hsh:=spec_shift_any _ w.heap.size O 1 _ vo _ hC (Hsi.out j).1 (by omega) (by have:=(Hsi.out j).2;omega);have Hsh:=Lib.hid hsh;clear hsh hC;go_wp2_with fail
      refine Hsh.out.mono ?_
      rintro e w4 ⟨rfl,⟨vo2,hC4⟩,hB4⟩
      have E4:=Below.trans E2 hB4;have HC4:=Lib.hid hC4;clear hC4 hB4 E2;go_wp2;go_roundw
      case rel=>exact⟨j+1,vo2,by omega,rfl,E4,HC4.out⟩
      case measure=>simp[intOf];omega
     ·obtain rfl:j=4:=by omega
      have hd:decide (((4:Nat):Int)<4)=false:=by simp
      have hl4:=(Hsi.out 4).2;obtain⟨c6,hc6⟩:∃ q,q=Ac.sh 4 cE:=⟨_,rfl⟩;rw[←hc6]at hC hl4;have Hc6:=Lib.hid hc6;obtain⟨bl,⟨k0,k1,k2,k3⟩,f0,f1,f2,f3⟩:=bx4 hC.bk;obtain⟨m6,hm6⟩:∃ q,q=c6.out.length:=⟨_,rfl⟩;have hro:=hC.ro;rw[←hm6]at hro;obtain⟨a5,c5,rfl⟩:=owns_form hro;have hm60:m6≤60004:=by omega
      have Hm6:=Lib.hid hm6;have Hsl:=Lib.hid (Sl.of_owns (owns_ext hro (Ext.alloc wr (.cells #[] 5))));have hE5:=E2.trans (Ext.alloc wr (.cells #[] 5));have o0:=World.ownsRow_made (base:=w.heap.size) (e:=5) (size:=1) wr #[] 0 E2.size (by simp) rfl;have k2':=cell_ext (Ext.alloc wr (.cells #[] 5)) k2;have hs5:=hE5.size;clear hC hro hl4 hm6 hc6 k0 k1 k3 f0 f1 f2 f3 E2;go_wp2_with (at_builtin;refine wpList_apps _ o0 hs5 rfl _ _ 22 rfl (.int .u8 0) 1 Try.underlying22 info_uint8 rfl rfl a5 m6 c5 _ rfl Hsl.out (by intro u hu;unfold u8s at hu;obtain⟨z,-,rfl⟩:=List.mem_map.1 hu;rfl) (by omega) (by omega) ?_;intro v8 w8 own8 gr8;refine Hid.out ?_)
      rw[Nat.zero_add,List.nil_append]at own8;obtain⟨a8,c8,rfl⟩:=owns_form own8;have E8:Ext w w8:=Ext.grown hE5 gr8 (owns_ge o0);clear o0 gr8 hE5 Hsl k2 k2';refine Lib.hid ?_;go_wp2;go_ret
      rw[←HcE.out,←Hc6.out,←Hm6.out];exact⟨a8,c8,rfl,own8,E8⟩
 ·have hs:encS L n = []:=by unfold encS;rw[if_neg hb]
  rw[hs];have Hb:=Lib.hid (show binsOk L n=false by simpa using hb);clear hb hs;go_enter Try.func44,Try.ntmps44
  go_wp2_with fail
  refine(spec_BinsValid_any a n c H0 L _ h hn).mono ?_
  rintro e w' ⟨rfl,rfl⟩
  rw[Hb.out];have o0:=World.ownsRow_made (base:=w.heap.size) (e:=5) (size:=1) w #[] 0 (Nat.le_refl _) (by simp) rfl;have E0:=Ext.alloc w (.cells #[] 5);go_wp2;go_ret
  exact⟨_,_,rfl,o0,E0⟩
theorem numN_pos (n:Nat):0<numN n:=by unfold numN;omega
/-- An entry of a row of two numbers each. -/
theorem cell2 {w:World} {b U g n c:Nat} {l:List Int} (h:w.ownsRow b U 2 (.slice (some ⟨g,0,none⟩) n c) n (l.map (Value.int .i64))) {j:Nat} (hj:j<l.length):w.cell? ⟨g,j,none⟩=some (.int .i64 (nth l j)):=by
 have h1:=h.cells (g:=g) rfl j (.int .i64 (nth l j)) (by rw[List.getElem?_map,List.getElem?_eq_getElem hj,nth_eq _ _ hj];rfl);have e:(⟨g,0,none⟩:Addr).add j=⟨g,j,none⟩:=by unfold Addr.add;split <;> simp_all
 rwa [e]at h1
theorem l10Number_at (n b:Nat) (bi:Int) (hbi:bi=(b:Int)) (w:World) (hn:n<32768) (hb:b≤100) :
 Calls Try.prog 51 #[.int .i64 n,.int .i64 bi] w fun e w'=>∃ a c,e= .returned (.slice a (numN n) c)∧w'.ownsRow w.heap.size 97 2 (.slice a (numN n) c) (numN n) ((numL n b).map (Value.int .i64))∧Ext w w':=by
 subst hbi;exact l10Number_any n b w hn hb
theorem l10Block_any (zs:List Int) (w:World) (hl:zs.length=16) (hB:bdI 4080 zs) :
 Calls Try.prog 53 #[.agg (ic zs)] w fun e w'=>∃ a c,e= .returned (.slice a (blkC zs) c)∧w'.ownsRow w.heap.size 97 2 (.slice a (blkC zs) c) (blkC zs) ((blkB zs).map (Value.int .i64))∧Ext w w':=by
 have Hl:=Lib.hid hl;have HBd:=Lib.hid hB;have hR:=runsL_len zs;obtain⟨Bx,hBx⟩:∃ Bx,Bx=w.heap.size:=⟨_,rfl⟩;have E0:=Ext.alloc w (.cells (ic zs) 81);have I0:=IB.new w 81 zs;have z0:Bx+1≤(w.alloc (.cells (ic zs) 81)).heap.size:=by simp[hBx]
 have HBx:=Lib.hid hBx;clear hl hB;go_enter Try.func53,Try.ntmps53
 go_wp2_with (refine wpList_iload 81 _ rfl rfl I0 0 16 rfl _ Try.underlying81 rfl size_A16s (by rw[Hl.out];omega) _ (by rw[sub_all _ _ Hl.out]) ?_)
 try rw[←hBx]
 generalize w.alloc (.cells (ic zs) 81)=w1 at *;refine(spec_RunsOf_any zs _ Hl.out).mono ?_
 rintro e w2 ⟨ra,rc,rfl,or2,e2⟩
 have E2:=E0.trans e2;have z2:=Nat.le_trans z0 e2.size;obtain⟨R,hRR⟩:∃ R,R=(runsL zs).length:=⟨_,rfl⟩;rw[←hRR]at or2 hR⊢;have HRR:=Lib.hid hRR;have HC0:=Lib.hid (show numN R=bkN zs 0 by rw[hRR];rfl);have HL0:=Lib.hid (show numL R 16=bkL zs 0 by rw[hRR];rfl);clear hRR E0 I0 z0 e2 hBx;go_wp2_with fail
 refine(l10Number_at R 16 16 rfl _ (by omega) (by omega)).mono ?_
 rintro e w3 ⟨na,nc,rfl,on3,e3⟩
 have or3:=owns_ext or2 e3;have E3:=E2.trans e3;have z3:=Nat.le_trans z2 e3.size;have o3:=owns_mono on3 z2;have F3:=FR.refl (Bx+1) 97 w3;rw[HC0.out,HL0.out]at o3;rw[HC0.out];clear or2 E2 z2 e3 on3;go_wp2_with fail
 go_loopw [4,5] (fun v y wr=>∃ k:Nat,k≤R∧y= .int .i64 k∧wr.ownsRow (Bx+1) 97 2 v (bkN zs k) ((bkL zs k).map (Value.int .i64))∧FR (Bx+1) 97 w3 wr) (fun _ y _=>R-(intOf y).toNat)
 case atStart=>exact⟨0,by omega,rfl,o3,F3⟩
 case round =>
  obtain⟨k,hk,rfl,o4,F4⟩:=hrel;clear o3 F3;obtain⟨a4,c4,rfl⟩:=owns_form o4;have hB4:=Nat.le_trans z3 F4.size
  by_cases hlt:k<R
  ·have hd:decide ((k:Int)<R)=true:=by simp;omega
   obtain⟨z,s,e1,h1,e2,h2,h3,h4⟩:=runL_rng Hl.out HBd.out (show k<(runsL zs).length by rw[←HRR.out];exact hlt);have or4:=F4.owns or3 (by decide);obtain⟨g,rfl⟩:=own_ptr or4 (by omega);have hfl:=flatR_len (runsL zs);rw[←HRR.out]at hfl;obtain⟨n1,n2⟩:=nth_flatR (runsL zs) k (by rw[←HRR.out];exact hlt);have cz:=cell2 or4 (j:=k*2) (by omega);rw[n1,e1]at cz;obtain⟨lv,hlv⟩:∃ lv,lv=((runsL zs).getD k (0,0)).2:=⟨_,rfl⟩;have HC:=Lib.hid (show bkN zs (k+1)=bkN zs k+(numN z+numN s) by rw[bkN,e1,e2];simp);have HLs:=Lib.hid (show bkL zs (k+1)=bkL zs k++(numL z 23++numL s 30) by rw[bkL,e1,e2];simp);have hbn:=bkN_le Hl.out HBd.out k (by rw[←HRR.out];omega);have q1:=numN_le (show z<32768 by omega);have q2:=numN_le (show s<32768 by omega);have p1:=numN_pos z;have p2:=numN_pos s;have Hcl:=Lib.hid (fun(wx:World) (f:FR (Bx+1) 97 w3 wx)=>(show wx.cell? ⟨g,k*2+1,none⟩=some (.int .i64 lv) by rw[hlv,←n2];exact cell2 (f.owns or3 (by decide)) (by omega)));have HE2:=Lib.hid (show sidx lv-1=(s:Int) by rw[hlv];exact e2);rw[←hlv]at h3 h4;clear hlv e1 e2 n1 n2 hfl or4;go_wp2_with fail
   refine(l10Number_at z 23 23 rfl _ (by omega) (by omega)).mono ?_
   rintro e w5 ⟨a5,c5,rfl,o5,e5⟩
   obtain⟨g5,rfl⟩:=own_ptr o5 p1;have o4':=owns_ext o4 e5;have F5:=F4.trans (FR.of_ext e5 hB4);have hB5:=Nat.le_trans hB4 e5.size;go_wp2_with (at_builtin;refine wpList_appk _ rfl o4' hB5 _ _ 76 rfl (.agg #[.int .i64 0,.int .i64 0]) 16 Try.underlying76 info_Bin rfl (by decide) rfl _ _ _ _ rfl o5.1 (o5.cells rfl) (one_ints _) (by omega) (by omega) ?_;intro v2 w2 own2 gr2 _;refine Hid.out ?_)
   refine Lib.hid ?_;obtain⟨a6,c6,rfl⟩:=owns_form own2;have F6:=F5.trans (FR.of_row o4' gr2 hB5);have hB6:=Nat.le_trans hB5 gr2.size;have o6:=own2;have cl6:=Hcl.out _ F6;clear own2 o5 o4' o4 F5 F4 e5 gr2 cz;go_wp2_with fail
   refine(spec_SignedIndex_in lv _ (by omega) (by omega)).mono ?_
   rintro e w7 ⟨rfl,rfl⟩
   rw[show Value.int IntKind.i64 (sidx lv)=Value.int IntKind.i64 ((s:Int)+1) by rw[←HE2.out];congr 1;omega];go_wp2_with fail
   refine(l10Number_at s 30 30 rfl _ (by omega) (by omega)).mono ?_
   rintro e w7 ⟨a7,c7,rfl,o7,e7⟩
   obtain⟨g7,rfl⟩:=own_ptr o7 p2;have o6':=owns_ext o6 e7;have F7:=F6.trans (FR.of_ext e7 hB6);have hB7:=Nat.le_trans hB6 e7.size;go_wp2_with (at_builtin;refine wpList_appk _ rfl o6' hB7 _ _ 76 rfl (.agg #[.int .i64 0,.int .i64 0]) 16 Try.underlying76 info_Bin rfl (by decide) rfl _ _ _ _ rfl o7.1 (o7.cells rfl) (one_ints _) (by omega) (by omega) ?_;intro v2 w2 own2 gr2 _;refine Hid.out ?_)
   refine Lib.hid ?_;obtain⟨a8,c8,rfl⟩:=owns_form own2;have F8:=F7.trans (FR.of_row o6' gr2 hB7);have o8:=ownc own2 (show _=(bkL zs (k+1)).map (Value.int .i64) by rw[HLs.out];simp);have HC3:=Lib.hid (show bkN zs k+numN z+numN s=bkN zs (k+1) by rw[HC.out];omega);rw[HC3.out]at o8⊢;clear own2 o7 o6' o6 F7 F6 e7 gr2 cl6 Hcl;go_wp2;go_roundw
   case rel=>exact⟨k+1,by omega,by go_num,o8,F8⟩
   case measure=>simp[intOf] <;> omega
  ·have HKR:=Lib.hid (show k=R by omega);have hd:decide ((k:Int)<R)=false:=by simp;omega
   have H1:=Lib.hid (show bkN zs k=blkC zs by rw[HKR.out,HRR.out];rfl);have H2:=Lib.hid (show bkL zs k=blkB zs by rw[HKR.out,HRR.out];rfl);rw[H1.out,H2.out]at o4;rw[H1.out];have hlo:=F4.lo;go_wp2;go_ret
   exact⟨_,_,rfl,owns_mono o4 (by have:=HBx.out;omega),Below.trans E3 (hlo.mono (by have:=HBx.out;omega))⟩
end Go.Proofs.Ytphfacfjhjcllaa
