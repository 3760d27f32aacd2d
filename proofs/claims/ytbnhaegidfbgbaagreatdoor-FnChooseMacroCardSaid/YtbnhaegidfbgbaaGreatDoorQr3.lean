/- Drawing: pictures. | Drawing: the arguments of RowsRead. | Drawing: indices; the arguments of RequantizeMacro. | Drawing: the arguments of Deblock. | Small helpers: clip, floor, sides. | The transform of a block of 4 by 4 numbers, plain. | Quantization: both sides, for arguments in range. | Pictures: samples, half samples, blocks, edges, predictions: plain. | A sample of a picture, a half sample, the samples that predict a macroblock: both sides. | Ranges over functions: entering and leaving a function that holds one. -/
import Derived.Test.YtbnhaegidfbgbaaGreatDoorQr2
import Derived.Deep.CutRange
import Derived.Deep.Cut
import Derived.RangeFuncNested
import Derived.RangeFuncBound
import Derived.RangeFuncCalls
import Derived.RangeFuncLeaves
import Derived.Shelf.Abstract
import Derived.Shelf.RegionOpen
import Derived.WalkKit
import Derived.OwnWalkIn
import Derived.TacticsInMore
import Derived.LoopNIn
import Derived.LoopIn
set_option linter.unusedVariables false
set_option linter.unusedSimpArgs false
set_option maxRecDepth 100000
set_option maxHeartbeats 4000000
namespace Go.Proofs.YtbnhaegidfbgbaaGreatDoor
open Go.RowKit
theorem l20Size_c (b P:Nat) (w:World) (h:RdP w b P) (hp:P<2^38) :
 Calls Tryz.prog 134 #[.pointer (some ⟨b,0,none⟩)] w fun e w'=>∃ x:Nat,e= .returned (.int .i64 x)∧side x∧RdP w' b (P+1)∧w.grownBy w' (some b):=by
 have hbw:b<w.heap.size:=h.lt;have e1:=Ext.alloc w (.cells #[.int .i64 1,.int .i64 1,.int .i64 1,.int .i64 2,.int .i64 2,.int .i64 3,.int .i64 4] 3);have S1:=blk_new w (.cells #[.int .i64 1,.int .i64 1,.int .i64 1,.int .i64 2,.int .i64 2,.int .i64 3,.int .i64 4] 3);go_enter Tryz.func134,Tryz.ntmps134
 go_wp2_with fail
 refine(pick_c b _ 7 _ (h.ext e1) (by omega) (by omega) (by omega)).mono ?_
 rintro e w2 ⟨x,rfl,xa,xb,r2,g2⟩
 have S2:=gr_blk g2 S1 (by omega);have G2:=grown_trans (ext_gr e1) g2;clear S1 e1 h g2;have hc:∀(i:Nat) (v:Value),(#[Value.int .i64 1,.int .i64 1,.int .i64 1,.int .i64 2,.int .i64 2,.int .i64 3,.int .i64 4])[i]?=some v→w2.cell? ⟨w.heap.size,i,none⟩=some v:=fun i v hv=>by simp only[World.cell?,S2];exact hv
 have k0:=hc 0 _ rfl;have k1:=hc 1 _ rfl;have k2:=hc 2 _ rfl;have k3:=hc 3 _ rfl;have k4:=hc 4 _ rfl;have k5:=hc 5 _ rfl;have k6:=hc 6 _ rfl;clear hc S2;obtain rfl|rfl|rfl|rfl|rfl|rfl|rfl:x=0∨x=1∨x=2∨x=3∨x=4∨x=5∨x=6:=by omega
 ·go_wp2;go_ret
  exact⟨8,rfl,⟨by decide,by decide,by decide⟩,r2,G2⟩
 ·go_wp2;go_ret
  exact⟨8,rfl,⟨by decide,by decide,by decide⟩,r2,G2⟩
 ·go_wp2;go_ret
  exact⟨8,rfl,⟨by decide,by decide,by decide⟩,r2,G2⟩
 ·go_wp2;go_ret
  exact⟨16,rfl,⟨by decide,by decide,by decide⟩,r2,G2⟩
 ·go_wp2;go_ret
  exact⟨16,rfl,⟨by decide,by decide,by decide⟩,r2,G2⟩
 ·go_wp2;go_ret
  exact⟨24,rfl,⟨by decide,by decide,by decide⟩,r2,G2⟩
 ·go_wp2;go_ret
  exact⟨32,rfl,⟨by decide,by decide,by decide⟩,r2,G2⟩
/-- What holds while a picture is drawn: its box O, the result's box R = w.heap.size, the reader b below both. -/
structure PGd (w : World) (b O P : Nat) (W H : Int) (v : Value) (zs : List Int) (wx : World) : Prop where
 gr:w.grownBy wx (some b)
 rd:RdP wx b P
 box:wx.heap[O]?=some (.cells #[.int .i64 W,.int .i64 H,v] 25 (0,0))
 res:wx.heap[w.heap.size]?=some (.cells #[.int .i64 0,.int .i64 0,.slice none 0 0] 25 (0,0))
 own:wx.ownsRow (w.heap.size+2) 3 1 v zs.length (zs.map (Value.int .i64))
 lo:b<w.heap.size
 hO:O=w.heap.size+1
 ok:smp zs
theorem PGd.more {w wx wy:World} {b O P P':Nat} {W H:Int} {v:Value} {zs:List Int} (h:PGd w b O P W H v zs wx) (g:wx.grownBy wy (some b)) (r:RdP wy b P'):PGd w b O P' W H v zs wy:=by
 have h1:=h.lo;have h2:=h.hO;exact⟨grown_trans h.gr g,r,blk_gr h.box g (by simp;omega),blk_gr h.res g (by simp;omega),own_gr h.own g (by omega),h1,h2,h.ok⟩
theorem PGd.mono {w wx:World} {b O P P':Nat} {W H:Int} {v:Value} {zs:List Int} (h:PGd w b O P W H v zs wx) (hp:P≤P'):PGd w b O P' W H v zs wx :=
 ⟨h.gr,h.rd.mono hp,h.box,h.res,h.own,h.lo,h.hO,h.ok⟩
theorem PGd.ex {w wx wy:World} {b O P:Nat} {W H:Int} {v:Value} {zs:List Int} (h:PGd w b O P W H v zs wx) (e:Ext wx wy):PGd w b O P W H v zs wy :=
 ⟨grown_ext h.gr e,h.rd.ext e,e.blk h.box,e.blk h.res,owns_ext h.own e,h.lo,h.hO,h.ok⟩
theorem PGd.app {w wx w3:World} {b O P:Nat} {W H:Int} {v v3:Value} {zs:List Int} {z:Int} (h:PGd w b O P W H v zs wx) (own3:w3.ownsRow (w.heap.size+2) 3 1 v3 (zs.length+1) (zs.map (Value.int .i64) ++ [.int .i64 z])) (gr3:wx.grownBy w3 v.ownBlock) (hz:0≤z∧z≤255) :
 PGd w b O P W H v3 (zs ++ [z]) (w3.setCell ⟨O,2,none⟩ v3):=by
 have h1:=h.lo;have h2:=h.hO;have hge:=owns_ge h.own;have hb3:=blk_gr h.box gr3 (fun e=>by have:=hge _ e;omega);have hr3:=blk_gr h.res gr3 (fun e=>by have:=hge _ e;omega);have hb4:=heap_setCell_same w3 O 2 _ _ v3 hb3;obtain⟨q,hq1,hq2⟩:=h.rd;refine⟨grown_any (grown_any h.gr gr3 (fun k hk=>by have:=hge k hk;omega)) (gr_set _ _ _ _) (fun k hk=>by cases hk;omega),⟨q,hq1,(hq2.gr gr3 (fun k hk=>by have:=hge k hk;omega)).set (by omega)⟩,by simpa using hb4,blk_set_other hr3 (by omega),?_,h1,h2,?_⟩
 ·rw[List.length_append,List.map_append];exact own_gr own3 (gr_set _ _ _ _) (by omega)
 ·intro y hy;rcases List.mem_append.1 hy with h3|h3
  ·exact h.ok y h3
  ·simp at h3;subst h3;exact hz
theorem l20Pic_c (b P W H:Nat) (w:World) (h:RdP w b P) (hp:P<2^37) (hw:side W) (hh:side H) :
 Calls Tryz.prog 87 #[.pointer (some ⟨b,0,none⟩),.int .i64 W,.int .i64 H] w fun e w'=>∃(a:Option Addr) (c n:Nat) (zs:List Int),e= .returned (.agg #[.int .i64 W,.int .i64 H,.slice a n c])∧n=W*H∧smp zs∧w'.ownsRow w.heap.size 3 1 (.slice a n c) n (zs.map (Value.int .i64))∧RdP w' b (P+2000)∧w.grownBy w' (some b):=by
 have hbw:b<w.heap.size:=h.lt;obtain⟨w1,w2,-⟩:=hw;obtain⟨h1,h2,-⟩:=hh;have D0:PGd w b (w.heap.size+1) P W H (.slice none 0 0) [] ((w.alloc (.cells #[.int .i64 0,.int .i64 0,.slice none 0 0] 25)).alloc (.cells #[.int .i64 W,.int .i64 H,.slice none 0 0] 25)):=by
  have e1:=Ext.alloc w (.cells #[.int .i64 0,.int .i64 0,.slice none 0 0] 25);have e2:=Ext.alloc (w.alloc (.cells #[.int .i64 0,.int .i64 0,.slice none 0 0] 25)) (.cells #[.int .i64 W,.int .i64 H,.slice none 0 0] 25);refine⟨ext_gr (e1.trans e2),h.ext (e1.trans e2),?_,e2.blk (blk_new _ _),World.ownsRow_nil _ _ _ _,hbw,rfl,fun z hz=>by cases hz⟩;have:=blk_new (w.alloc (.cells #[.int .i64 0,.int .i64 0,.slice none 0 0] 25)) (.cells #[.int .i64 W,.int .i64 H,.slice none 0 0] 25)
  rwa [World.size_alloc]at this
 go_enter Tryz.func87,Tryz.ntmps87
 go_upto_region 2 with fail
 try simp only[World.size_alloc]
 generalize (w.alloc (.cells #[.int .i64 0,.int .i64 0,.slice none 0 0] 25)).alloc (.cells #[.int .i64 W,.int .i64 H,.slice none 0 0] 25)=w0 at *;clear h;go_wp2_with fail
 refine(pick_c b _ 256 _ D0.rd (by omega) (by omega) (by omega)).mono ?_
 rintro e wa ⟨va,rfl,vaa,vab,ra,ga⟩
 have D1:=D0.more ga ra;clear D0 ga ra;go_wp2_with fail
 refine(pick_c b _ 9 _ D1.rd (by omega) (by omega) (by omega)).mono ?_
 rintro e wa2 ⟨dx,rfl,dxa,dxb,ra,ga⟩
 have D2:=D1.more ga ra;clear D1 ga ra;go_wp2_with fail
 refine(pick_c b _ 9 _ D2.rd (by omega) (by omega) (by omega)).mono ?_
 rintro e wa3 ⟨dy,rfl,dya,dyb,ra,ga⟩
 have D3:=(D2.more ga ra).ex (Ext.alloc wa3 (.cells #[.int .i64 0,.int .i64 1,.int .i64 4,.int .i64 30,.int .i64 256] 3));have S3:=blk_new wa3 (.cells #[.int .i64 0,.int .i64 1,.int .i64 4,.int .i64 30,.int .i64 256] 3);have hsz3:=lt_of_block (D2.more ga ra).box;have hb3:=(D2.more ga ra).lo;have hO3:=(D2.more ga ra).hO;clear D2 ga ra;go_wp2_with fail
 refine(pick_c b _ 5 _ D3.rd (by omega) (by omega) (by omega)).mono ?_
 rintro e wa4 ⟨ni,rfl,nia,nib,ra,ga⟩
 have S4:=gr_blk ga S3 (by omega);have D4:=D3.more ga ra;have hc:∃ nz:Int,wa4.cell? ⟨wa3.heap.size,ni.toNat,none⟩=some (.int .i64 nz)∧0≤nz∧nz≤256:=by
  obtain rfl|rfl|rfl|rfl|rfl:ni=0∨ni=1∨ni=2∨ni=3∨ni=4:=by omega
  ·exact⟨0,by simp[World.cell?,S4],by omega,by omega⟩
  ·exact⟨1,by simp[World.cell?,S4],by omega,by omega⟩
  ·exact⟨4,by simp[World.cell?,S4],by omega,by omega⟩
  ·exact⟨30,by simp[World.cell?,S4],by omega,by omega⟩
  ·exact⟨256,by simp[World.cell?,S4],by omega,by omega⟩
 obtain⟨nz,hc4,nza,nzb⟩:=hc;clear D3 ga ra S3 S4 hsz3 hb3 hO3;go_wp2_with fail
 refine(pick_c b _ (W+8) _ D4.rd (by omega) (by omega) (by omega)).mono ?_
 rintro e wa5 ⟨ed,rfl,eda,edb,ra,ga⟩
 have D5:=D4.more ga ra;clear D4 ga ra hc4;go_wp2_with fail
 have D6:PGd w b (w.heap.size+1) (P+10+([]:List Int).length) W H (.slice none 0 0) [] wa5:=D5.mono (by simp);clear D5;go_loopw [13] (fun y wr=>∃(u:Nat) (v:Value) (zs:List Int),u≤H∧y= .int .i64 u∧zs.length=u*W∧PGd w b (w.heap.size+1) (P+10+zs.length) W H v zs wr) (fun y _=>H-(intOf y).toNat)
 case atStart=>exact⟨0,_,[],by omega,rfl,by simp,D6⟩
 case round =>
  obtain⟨u,v,zs,hu,rfl,hl,D7⟩:=hrel;clear D6;have HL:=Lib.hid hl;clear hl
  by_cases hlt:u<H
  ·have hdu:decide (u<H)=true:=by simpa using hlt
   go_wp2_with fail
   go_loopw [14] (fun x wr2=>∃(j:Nat) (v:Value) (zs:List Int),j≤W∧x= .int .i64 j∧zs.length=u*W+j∧PGd w b (w.heap.size+1) (P+10+zs.length) W H v zs wr2) (fun x _=>W-(intOf x).toNat)
   case atStart=>exact⟨0,v,zs,by omega,rfl,by rw[HL.out];simp,D7⟩
   case round =>
    obtain⟨j,v2,ys,hj,rfl,hl2,D8⟩:=hrel;clear D7;have hyl:ys.length≤1023+1:=by
     have:=Nat.mul_le_mul (show u≤31 by omega) (show W≤32 by omega);omega
    have HL2:=Lib.hid hl2;clear hl2
    by_cases hlj:j<W
    ·have hdj:decide (j<W)=true:=by simpa using hlj
     have hpx : -128≤(dx-4)*(j:Int)∧(dx-4)*(j:Int)≤128:=by
      have a1:=Int.mul_le_mul_of_nonneg_right (show dx-4≤4 by omega) (show(0:Int)≤j by omega);have a2:=Int.mul_le_mul_of_nonneg_right (show -4≤dx-4 by omega) (show(0:Int)≤j by omega);omega
     have hpy : -128≤(dy-4)*(u:Int)∧(dy-4)*(u:Int)≤128:=by
      have a1:=Int.mul_le_mul_of_nonneg_right (show dy-4≤4 by omega) (show(0:Int)≤u by omega);have a2:=Int.mul_le_mul_of_nonneg_right (show -4≤dy-4 by omega) (show(0:Int)≤u by omega);omega
     obtain⟨N,hN⟩:∃ N,N=va+(dx-4)*(j:Int)+(dy-4)*(u:Int):=⟨_,rfl⟩;have hNr : -300≤N∧N≤600:=by omega
     go_upto_region 14 with fail
     rw[←hN];clear hN hpx hpy;go_upto_if 56 with fail
     go_cut [15]from 41 to 78 (fun s wx=>∃ N:Int,s= .int .i64 N ∧ -300≤N∧N≤900∧PGd w b (w.heap.size+1) (P+11+ys.length) W H v2 ys wx)
     case first =>
      by_cases hnz:0<nz
      ·have hd0:decide (0<nz)=true:=by simpa using hnz
       go_wp2_with fail
       refine(pick_c b _ nz _ D8.rd (by omega) (by omega) (by omega)).mono ?_
       rintro e wb ⟨pk,rfl,pka,pkb,rb,gb⟩
       have D9:=D8.more gb rb;go_wp2;go_meet
       case rel=>exact⟨_,rfl,by omega,by omega,D9.mono (by omega)⟩
      ·have hd0:decide (0<nz)=false:=by simpa using hnz
       go_wp2;go_meet
       case rel=>exact⟨_,rfl,by omega,by omega,D8.mono (by omega)⟩
     case rest =>
      obtain⟨M,rfl,hM1,hM2,D9⟩:=hcut;clear D8 hNr;go_upto_if 67 with fail
      go_cut [15]from 41 to 78 (fun s wx=>∃ N:Int,s= .int .i64 N ∧ -300≤N∧N≤1000∧PGd w b (w.heap.size+1) (P+11+ys.length) W H v2 ys wx)
      case first =>
       go_wp2;all_goals
        go_meet
        case rel=>exact⟨_,rfl,by omega,by omega,D9⟩
      case rest =>
       obtain⟨M,rfl,hM1,hM2,D10⟩:=hcut;clear D9;have D9:=D10;clear D10;obtain⟨a2,c2,rfl⟩:=owns_form D9.own;obtain⟨-,k0,k1,k2,f0,f1,f2⟩:=bx3 D9.box;have hsz:w.heap.size+2≤wc.heap.size:=by
        have:=lt_of_block D9.box;have:=D9.hO;omega
       go_wp2_with (at_builtin;refine wpList_app _ D9.own hsz _ rfl _ _ 23 rfl (.int .i64 0) 8 Tryz.underlying23 info_int rfl rfl rfl rfl (by omega) (by omega) ?_;intro v3 w3 own3 gr3 _;obtain⟨a3,c3,rfl⟩:=owns_form own3;have q3:=blk_gr D9.box gr3 (fun e=>by have:=owns_ge D9.own _ e;omega);obtain⟨-,z0,z1,z2,g0,g1,g2⟩:=bx3 q3)
       all_goals
        go_roundw
        case rel=>exact⟨j+1,_,ys ++ [_],by omega,by go_num,by rw[List.length_append,HL2.out];simp;omega,(D9.app own3 gr3 (by omega)).mono (by simp;omega)⟩
        case measure=>simp[intOf];omega
    ·obtain rfl:W=j:=by omega
     have hdj:decide (W<W)=false:=by simp
     go_wp2;go_roundw
     case rel=>exact⟨u+1,v2,ys,by omega,by go_num,by rw[HL2.out,Nat.succ_mul],D8⟩
     case measure=>simp[intOf];omega
  ·obtain rfl:H=u:=by omega
   have hdu:decide (H<H)=false:=by simp
   obtain⟨a2,c2,rfl⟩:=owns_form D7.own;obtain⟨-,k0,k1,k2,-⟩:=bx3 D7.box;obtain⟨-,r0,r1,r2,f0,f1,f2⟩:=bx3 D7.res;have hzl:zs.length≤1024:=by
    have:=Nat.mul_le_mul (show H≤32 by omega) (show W≤32 by omega);have:=HL.out;omega
   have hres:=blk_set3 (x' := .int .i64 W) (y' := .int .i64 H) (z' := .slice a2 zs.length c2) D7.res;have hlo:=D7.lo;have hown:=own_gr (own_gr (own_gr D7.own (gr_set _ w.heap.size 0 (.int .i64 W)) (by omega)) (gr_set _ w.heap.size 1 (.int .i64 H)) (by omega)) (gr_set _ w.heap.size 2 (.slice a2 zs.length c2)) (by omega);have hgr:=grown_any (grown_any (grown_any D7.gr (gr_set _ w.heap.size 0 (.int .i64 W)) (fun k e=>by cases e;omega)) (gr_set _ w.heap.size 1 (.int .i64 H)) (fun k e=>by cases e;omega)) (gr_set _ w.heap.size 2 (.slice a2 zs.length c2)) (fun k e=>by cases e;omega);have hrd:=((D7.rd.set (q:=w.heap.size) (j:=0) (v := .int .i64 W) (by omega)).set (q:=w.heap.size) (j:=1) (v := .int .i64 H) (by omega)).set (q:=w.heap.size) (j:=2) (v := .slice a2 zs.length c2) (by omega);have hok:=Lib.hid D7.ok;have HL3:=Lib.hid (show zs.length=W*H by rw[HL.out,Nat.mul_comm]);go_wp2;exact bodyPost_ret (v := .agg #[.int .i64 W,.int .i64 H,.slice a2 zs.length c2]) (results_cell_row rfl _ _ w.heap.size 25 #[.int .i64 W,.int .i64 H,.slice a2 zs.length c2] (0,0) _ rfl hres Tryz.underlying25 rfl size_Picture) rfl ⟨a2,c2,zs.length,zs,rfl,HL3.out,hok.out,owns_mono hown (by omega),hrd.mono (by omega),hgr⟩
/-- What holds while a drawn picture is changed: its box O, its row in block g. -/
def PH (w:World) (b P k O g n c:Nat) (x y:Int) (wx:World):Prop:=DG w b P 1 k wx∧wx.heap[O]?=some (.cells #[.int .i64 x,.int .i64 y,.slice (some ⟨g,0,none⟩) n c] 25 (0,0))∧wx.heap[w.heap.size]?=some (.cells #[.int .i64 0,.int .i64 0,.slice none 0 0] 25 (0,0))∧(∃ zs:List Int,zs.length=n∧wx.ownsRow (w.heap.size+1) 3 1 (.slice (some ⟨g,0,none⟩) n c) n (zs.map (Value.int .i64)))∧b<w.heap.size∧w.heap.size<O∧g<O
theorem PH.g {w wx:World} {b P k O g n c:Nat} {x y:Int} (h:PH w b P k O g n c x y wx):w.heap.size+1≤g:=by
 obtain⟨-,-,-,⟨zs,-,h1⟩,-⟩:=h;exact(h1.lt g rfl).1
theorem PH.step {w wx:World} {b P k O g n c:Nat} {x y:Int} (h:PH w b P k O g n c x y wx):PH w b P (k+1) O g n c x y wx:=⟨h.1.step,h.2⟩
theorem PH.grb {w wx wy:World} {b P k k' O g n c:Nat} {x y:Int} (h:PH w b P k O g n c x y wx) (e:wx.grownBy wy (some b)) (d:DG w b P 1 k' wy):PH w b P k' O g n c x y wy:=by
 obtain⟨h1,h2,h3,⟨zs,h4,h5⟩,h6,h7,h8⟩:=h;exact⟨d,blk_gr h2 e (by simp;omega),blk_gr h3 e (by simp;omega),⟨zs,h4,own_gr h5 e (by omega)⟩,h6,h7,h8⟩
theorem PH.more {w wx wy:World} {b P k O g n c:Nat} {x y:Int} (h:PH w b P k O g n c x y wx) (e:wx.grownBy wy (some b)) (r:RdP wy b (P+k*1+1)) (_:1≤1):PH w b P (k+1) O g n c x y wy:=h.grb e (h.1.more e r (Nat.le_refl _))
theorem PH.ext {w wx wy:World} {b P k O g n c:Nat} {x y:Int} (h:PH w b P k O g n c x y wx) (e:Ext wx wy):PH w b P (k+1) O g n c x y wy:=h.grb (ext_gr e) (h.1.ext e)
theorem PH.ext0 {w wx wy:World} {b P k O g n c:Nat} {x y:Int} (h:PH w b P k O g n c x y wx) (e:Ext wx wy):PH w b P k O g n c x y wy:=h.grb (ext_gr e) ⟨grown_ext h.1.1 e,h.1.2.ext e⟩
theorem PH.drew {w wx:World} {b P k O g n c:Nat} {x y:Int} (h:PH w b P k O g n c x y wx):PH w b P k O g n c x y wx.drew:=h.ext0 (Ext.drewN _ 1)
theorem PH.re {w wx:World} {b P k O g n c P':Nat} {x y:Int} (h:PH w b P k O g n c x y wx) (hP:P+k≤P'):PH w b P' 0 O g n c x y wx:=⟨h.1.reset (by omega) 1,h.2⟩
theorem PH.set {w wx:World} {b P k O g n c:Nat} {x y:Int} (h:PH w b P k O g n c x y wx) (i:Nat) (v:Int):PH w b P k O g n c x y (wx.setCell ⟨g,i,none⟩ (.int .i64 v)):=by
 have hg:=h.g;obtain⟨h1,h2,h3,⟨zs,h4,h5⟩,h6,h7,h8⟩:=h;obtain⟨o2,gr⟩:=h5.stored i (.int .i64 v);refine⟨h1.set (by omega) (by omega),blk_set_other h2 (by omega),blk_set_other h3 (by omega),⟨zs.set i v,by simpa using h4,?_⟩,h6,h7,h8⟩;rw[List.map_set];exact o2
theorem PH.cell {w wx:World} {b P k O g n c:Nat} {x y:Int} (h:PH w b P k O g n c x y wx) {i:Nat} (hi:i<n):∃ v:Value,wx.cell? ⟨g,i,none⟩=some v∧wx.frozen? ⟨g,i,none⟩=false:=by
 obtain⟨h1,h2,h3,⟨zs,h4,h5⟩,h6,h7,h8⟩:=h;obtain⟨v,hv,-⟩:=owns_get h5 hi;exact⟨v,hv,h5.frozenAt i⟩
/-- What a drawn picture is. -/
def PicR (w:World) (b P:Nat) (e:Ending) (w':World):Prop:=∃(p:Pic) (a:Option Addr) (c n:Nat),e= .returned (.agg #[.int .i64 p.w,.int .i64 p.h,.slice a n c])∧n=p.px.length∧n≤1024 ∧ -8≤p.w∧p.w≤40∧0≤p.h∧p.h≤40∧Sl w' a n (p.px.map (Value.int .i64))∧(∀ y,a=some y→w.heap.size≤y.block)∧RdP w' b P∧w.grownBy w' (some b)
/-- The result out of the box. -/
theorem PicR.of {w wx wy:World} {b P:Nat} {x y:Int} {a:Option Addr} {c n:Nat} {zs:List Int} (hn:n≤1024) (h1 : -8≤x) (h2:x≤40) (h3:0≤y) (h4:y≤40) (s:Sl wx a n (zs.map (Value.int .i64))) (ha:∀ y,a=some y→w.heap.size<y.block) (r:RdP wx b P) (g:w.grownBy wx (some b)) (hb:b<w.heap.size)
 (e:wx.grownBy wy (some w.heap.size)):PicR w b P (.returned (.agg #[.int .i64 x,.int .i64 y,.slice a n c])) wy:=by
 obtain⟨q,hq1,hq2⟩:=r;exact⟨⟨x,y,zs⟩,a,c,n,rfl,s.int_len.symm,hn,h1,h2,h3,h4,s.grown e (fun u hu=>by have:=ha u hu;simp;omega),fun u hu=>by have:=ha u hu;omega,⟨q,hq1,hq2.gr e (fun k hk=>by cases hk;omega)⟩,grown_any g e (fun k hk=>by cases hk;omega)⟩
theorem gr_set3 (w:World) (b:Nat) (x y z:Value):w.grownBy (((w.setCell ⟨b,0,none⟩ x).setCell ⟨b,1,none⟩ y).setCell ⟨b,2,none⟩ z) (some b):=grown_trans (grown_trans (gr_set _ _ _ _) (gr_set _ _ _ _)) (gr_set _ _ _ _)
theorem PH.sl {w wx:World} {b P k O g n c:Nat} {x y:Int} (h:PH w b P k O g n c x y wx):∃ zs:List Int,Sl wx (some ⟨g,0,none⟩) n (zs.map (Value.int .i64)):=by
 obtain⟨h1,h2,h3,⟨zs,h4,h5⟩,h6,h7,h8⟩:=h;exact⟨zs,Sl.of_owns h5⟩
theorem Sl.tail {w:World} {g n:Nat} {zs:List Int} (h:Sl w (some ⟨g,0,none⟩) n (zs.map (Value.int .i64))) (hn:0<n):Sl w (some ⟨g,1,none⟩) (n-1) ((zs.drop 1).map (Value.int .i64)):=by
 have hl:=h.int_len;refine⟨by simp;omega,fun i hi => ?_⟩;obtain⟨b,o,e,hc⟩:=h.int (i:=i+1) (by omega);simp only[Option.some.injEq,Addr.mk.injEq,and_true]at e;obtain⟨rfl,rfl⟩:=e;refine⟨g,1,rfl,?_⟩;rw[Nat.zero_add,Nat.add_comm i 1]at hc;rw[hc,getD_map_int _ _ _ (by simp;omega)]
 congr 2
 simp[nth,List.getElem?_drop,Nat.add_comm]
theorem l20Picture_c (b P:Nat) (m:Int) (w:World) (h:RdP w b P) (hp:P<2^36) (hm0:0≤m) (hm:m≤1000000) :
 Calls Tryz.prog 89 #[.pointer (some ⟨b,0,none⟩),.int .i64 m] w (PicR w b (P+2100)):=by
 have hbw:b<w.heap.size:=h.lt;have e0:=Ext.alloc w (.cells #[.int .i64 0,.int .i64 0,.slice none 0 0] 25);have R0:=blk_new w (.cells #[.int .i64 0,.int .i64 0,.slice none 0 0] 25);go_enter Tryz.func89,Tryz.ntmps89
 go_wp2_with fail
 refine(l20Size_c b P _ (h.ext e0) (by omega)).mono ?_
 rintro e w1 ⟨W,rfl,hW,r1,g1⟩
 have R1:=blk_gr R0 g1 (by simp;omega);have G1:=grown_trans (ext_gr e0) g1;clear R0 e0 g1 h;go_wp2_with fail
 refine(l20Size_c b _ _ r1 (by omega)).mono ?_
 rintro e w2 ⟨H,rfl,hH,r2,g2⟩
 have R2:=blk_gr R1 g2 (by simp;omega);have G2:=grown_trans G1 g2;clear R1 G1 r1 g2;go_wp2_with fail
 refine(l20Pic_c b _ W H _ r2 (by omega) hW hH).mono ?_
 rintro e w3 ⟨a,c,n,zs,rfl,hn,hz,own3,r3,g3⟩
 have hpl:=area_le hW hH;have hn1:64≤n∧n≤1024:=by
  have:(n:Int)=(W:Int)*(H:Int):=by rw[hn];simp
  omega
 obtain⟨hw1,hw2,-⟩:=hW;obtain⟨hh1,hh2,-⟩:=hH;obtain⟨O,hO⟩:∃ O,O=w3.heap.size:=⟨_,rfl⟩;have hR2:=lt_of_block R2;have hgo:∃ g,a=some ⟨g,0,none⟩∧g<O:=by
  rcases own3.2 with⟨-,h0⟩|⟨g,cc,cur,hv,-,hb,-⟩
  ·omega
  ·simp only[Value.slice.injEq]at hv;exact⟨g,hv.1,by rw[hO];exact lt_of_block hb⟩
 obtain⟨g,rfl,hgO⟩:=hgo;have hcap:=owns_cap own3;have D4:PH w b (P+2002) 0 O g n c W H (w3.alloc (.cells #[.int .i64 W,.int .i64 H,.slice (some ⟨g,0,none⟩) n c] 25)):=by
  have e4:=Ext.alloc w3 (.cells #[.int .i64 W,.int .i64 H,.slice (some ⟨g,0,none⟩) n c] 25);refine⟨⟨grown_ext (grown_trans G2 g3) e4,(r3.ext e4).mono (by omega)⟩,by rw[hO];exact blk_new _ _,e4.blk (blk_gr R2 g3 (by simp;omega)),⟨zs,by have:=own3.1;simpa using this,owns_ext (owns_mono own3 (by omega)) e4⟩,hbw,?_,hgO⟩;have:=g3.size;omega
 clear own3 r3 g3 R2 G2 r2 hz hn hpl;go_wp2_with fail
 rw[←hO];generalize w3.alloc (.cells #[.int .i64 W,.int .i64 H,.slice (some ⟨g,0,none⟩) n c] 25)=w4 at *;clear hO;refine(odd_any b _ m _ D4.1.2 (by omega) hm0 (by omega)).mono ?_
 rintro e w5 ⟨x5,rfl,r5,g5⟩
 have D5:=(D4.more g5 r5 (Nat.le_refl _)).re (P':=P+2003) (by omega);clear D4 r5 g5;cases x5
 ·have hg:=D5.g;obtain⟨ys,sy⟩:=D5.sl;obtain⟨-,k0,k1,k2,-⟩:=bx3 D5.2.1;obtain⟨-,r0,r1,r2,f0,f1,f2⟩:=bx3 D5.2.2.1;have hres:=blk_set3 (x' := .int .i64 W) (y' := .int .i64 H) (z' := .slice (some ⟨g,0,none⟩) n c) D5.2.2.1;go_wp2;exact bodyPost_ret (v := .agg #[.int .i64 W,.int .i64 H,.slice (some ⟨g,0,none⟩) n c]) (results_cell_row rfl _ _ w.heap.size 25 #[.int .i64 W,.int .i64 H,.slice (some ⟨g,0,none⟩) n c] (0,0) _ rfl hres Tryz.underlying25 rfl size_Picture) rfl
   (PicR.of hn1.2 (by omega) (by omega) (by omega) (by omega) sy (fun u hu=>by cases hu;show w.heap.size<g;omega) (D5.1.2.mono (by omega)) D5.1.1 hbw (gr_set3 _ _ _ _ _))
 ·go_wp2_with fail
  refine(pick_c b _ 5 _ D5.1.2 (by omega) (by omega) (by omega)).mono ?_
  rintro e w6 ⟨x6,rfl,x6a,x6b,r6,g6⟩
  have D6:=(D5.more g6 r6 (Nat.le_refl _)).re (P':=P+2004) (by omega);clear D5 r6 g6;obtain rfl|rfl|rfl|rfl|rfl:x6=0∨x6=1∨x6=2∨x6=3∨x6=4:=by omega
  ·have e7:=Ext.alloc w6 (.cells #[.int .i64 0,.int .i64 7,.int .i64 12,.int .i64 40,.int .i64 (-8)] 3);have S7:=blk_new w6 (.cells #[.int .i64 0,.int .i64 7,.int .i64 12,.int .i64 40,.int .i64 (-8)] 3);have hs6:=D6.2.2.2.2;have hO6:=lt_of_block D6.2.1;have D7:=D6.ext0 e7;clear D6 e7;go_wp2_with fail
   refine(pick_c b _ 5 _ D7.1.2 (by omega) (by omega) (by omega)).mono ?_
   rintro e w8 ⟨x8,rfl,x8a,x8b,r8,g8⟩
   have S8:=blk_gr S7 g8 (by simp;omega);have D8:=(D7.more g8 r8 (Nat.le_refl _)).re (P':=P+2006) (by omega);clear D7 r8 g8 S7;have hv:∃ v:Int,w8.cell? ⟨w6.heap.size,x8.toNat,none⟩=some (.int .i64 v) ∧ -8≤v∧v≤40:=by
    obtain rfl|rfl|rfl|rfl|rfl:x8=0∨x8=1∨x8=2∨x8=3∨x8=4:=by omega
    ·exact⟨0,by simp[World.cell?,S8],by omega,by omega⟩
    ·exact⟨7,by simp[World.cell?,S8],by omega,by omega⟩
    ·exact⟨12,by simp[World.cell?,S8],by omega,by omega⟩
    ·exact⟨40,by simp[World.cell?,S8],by omega,by omega⟩
    ·exact⟨(-8),by simp[World.cell?,S8],by omega,by omega⟩
   obtain⟨v,hv1,hv2,hv3⟩:=hv;obtain⟨-,k0,k1,k2,f0,f1,f2⟩:=bx3 D8.2.1;go_upto_region 14 with fail
   have D9:PH w b (P+2006) 0 O g n c v H (w8.setCell ⟨O,0,none⟩ (.int .i64 v)):=by
    have hg:=D8.g;obtain⟨q1,q2,q3,⟨zs,q4,q5⟩,q6,q7,q8⟩:=D8;have hx:=heap_setCell_same w8 O 0 _ _ (.int .i64 v) q2;exact⟨q1.set (by omega) (by omega),by simpa using hx,blk_set_other q3 (by omega),⟨zs,q4,q5.kept (gr_set _ _ _ _) (.inr (by simp[Value.ownBlock];omega))⟩,q6,q7,q8⟩
   generalize w8.setCell ⟨O,0,none⟩ (.int .i64 v)=w9 at *;clear D8 k0 k1 k2 f0 f1 f2 hv1 S8;have hg:=D9.g;obtain⟨ys,sy⟩:=D9.sl;obtain⟨-,k0,k1,k2,-⟩:=bx3 D9.2.1;obtain⟨-,r0,r1,r2,f0,f1,f2⟩:=bx3 D9.2.2.1;have hres:=blk_set3 (x' := .int .i64 v) (y' := .int .i64 H) (z' := .slice (some ⟨g,0,none⟩) n c) D9.2.2.1;go_wp2;exact bodyPost_ret (v := .agg #[.int .i64 v,.int .i64 H,.slice (some ⟨g,0,none⟩) n c]) (results_cell_row rfl _ _ w.heap.size 25 #[.int .i64 v,.int .i64 H,.slice (some ⟨g,0,none⟩) n c] (0,0) _ rfl hres Tryz.underlying25 rfl size_Picture) rfl
    (PicR.of hn1.2 (by omega) (by omega) (by omega) (by omega) sy (fun u hu=>by cases hu;show w.heap.size<g;omega) (D9.1.2.mono (by omega)) D9.1.1 hbw (gr_set3 _ _ _ _ _))
  ·have e7:=Ext.alloc w6 (.cells #[.int .i64 0,.int .i64 9,.int .i64 40] 3);have S7:=blk_new w6 (.cells #[.int .i64 0,.int .i64 9,.int .i64 40] 3);have hs6:=D6.2.2.2.2;have hO6:=lt_of_block D6.2.1;have D7:=D6.ext0 e7;clear D6 e7;go_wp2_with fail
   refine(pick_c b _ 3 _ D7.1.2 (by omega) (by omega) (by omega)).mono ?_
   rintro e w8 ⟨x8,rfl,x8a,x8b,r8,g8⟩
   have S8:=blk_gr S7 g8 (by simp;omega);have D8:=(D7.more g8 r8 (Nat.le_refl _)).re (P':=P+2006) (by omega);clear D7 r8 g8 S7;have hv:∃ v:Int,w8.cell? ⟨w6.heap.size,x8.toNat,none⟩=some (.int .i64 v)∧0≤v∧v≤40:=by
    obtain rfl|rfl|rfl:x8=0∨x8=1∨x8=2:=by omega
    ·exact⟨0,by simp[World.cell?,S8],by omega,by omega⟩
    ·exact⟨9,by simp[World.cell?,S8],by omega,by omega⟩
    ·exact⟨40,by simp[World.cell?,S8],by omega,by omega⟩
   obtain⟨v,hv1,hv2,hv3⟩:=hv;obtain⟨-,k0,k1,k2,f0,f1,f2⟩:=bx3 D8.2.1;go_upto_region 14 with fail
   have D9:PH w b (P+2006) 0 O g n c W v (w8.setCell ⟨O,1,none⟩ (.int .i64 v)):=by
    have hg:=D8.g;obtain⟨q1,q2,q3,⟨zs,q4,q5⟩,q6,q7,q8⟩:=D8;have hx:=heap_setCell_same w8 O 1 _ _ (.int .i64 v) q2;exact⟨q1.set (by omega) (by omega),by simpa using hx,blk_set_other q3 (by omega),⟨zs,q4,q5.kept (gr_set _ _ _ _) (.inr (by simp[Value.ownBlock];omega))⟩,q6,q7,q8⟩
   generalize w8.setCell ⟨O,1,none⟩ (.int .i64 v)=w9 at *;clear D8 k0 k1 k2 f0 f1 f2 hv1 S8;have hg:=D9.g;obtain⟨ys,sy⟩:=D9.sl;obtain⟨-,k0,k1,k2,-⟩:=bx3 D9.2.1;obtain⟨-,r0,r1,r2,f0,f1,f2⟩:=bx3 D9.2.2.1;have hres:=blk_set3 (x' := .int .i64 W) (y' := .int .i64 v) (z' := .slice (some ⟨g,0,none⟩) n c) D9.2.2.1;go_wp2;exact bodyPost_ret (v := .agg #[.int .i64 W,.int .i64 v,.slice (some ⟨g,0,none⟩) n c]) (results_cell_row rfl _ _ w.heap.size 25 #[.int .i64 W,.int .i64 v,.slice (some ⟨g,0,none⟩) n c] (0,0) _ rfl hres Tryz.underlying25 rfl size_Picture) rfl
    (PicR.of hn1.2 (by omega) (by omega) (by omega) (by omega) sy (fun u hu=>by cases hu;show w.heap.size<g;omega) (D9.1.2.mono (by omega)) D9.1.1 hbw (gr_set3 _ _ _ _ _))
  ·go_upto_region 11 with fail
   have hgg:=D6.g;have hext:Stab (fun wa wb=>wa.grownBy wb (some b)) (fun i own ys wx=>match i with|0=>own= .pointer (some ⟨O,2,none⟩)|1=>own= .slice (some ⟨g,0,none⟩) n c|2=>own= .pointer (some ⟨b,0,none⟩)|3=>own= .pointer (some ⟨O,2,none⟩)|4=>own= .slice (some ⟨g,0,none⟩) n c|5=>own= .int .i64 n|6=>∃ x:Nat,own= .int .i64 x∧x<n|7=>SlR wx (g+1) own 2 (-1) (256)|8=>own= .pointer (some ⟨b,0,none⟩)|9=>∃ x:Int,own= .int .i64 x∧0≤x∧x<2|10=>PtR wx (g+1) own (-1) (256)|11=>∃ x:Int,own= .int .i64 x ∧ -1≤x∧x≤256|12=>∃ x:Nat,own= .pointer (some ⟨g,x,none⟩)∧x<n|13=>True|_=>True):=by
    intro i own ys wa wb e h
    match i,h with
    | 0,h|1,h|2,h|3,h|4,h|5,h|6,h|8,h|9,h|11,h|12,h|13,h=>exact h
    | 7,h|10,h=>exact h.grown e (by omega)
    | _+14,_=>trivial
   have Hext:=Lib.hid hext;clear hext;refine wp_region_inv2 (by kernel_rfl) [(38,0),(39,1),(40,2),(41,3),(42,4),(43,5),(44,6),(45,7),(46,8),(47,9),(48,10),(49,11),(50,12)] [[],[0],[],[],[3],[3,4],[2,3,4,5],[],[],[2,3,4,5,6,8],[2,3,4,5,6,7,8,9],[2,3,4,5,6,7,8,9,10],[0,1,2,3,4,5,6,7,8,9,10,11],[0,1,2,3,4,5,6,7,8,9,10,11,12]] (fun i own ys wx=>match i with|0=>own= .pointer (some ⟨O,2,none⟩)|1=>own= .slice (some ⟨g,0,none⟩) n c|2=>own= .pointer (some ⟨b,0,none⟩)|3=>own= .pointer (some ⟨O,2,none⟩)|4=>own= .slice (some ⟨g,0,none⟩) n c|5=>own= .int .i64 n|6=>∃ x:Nat,own= .int .i64 x∧x<n|7=>SlR wx (g+1) own 2 (-1) (256)|8=>own= .pointer (some ⟨b,0,none⟩)|9=>∃ x:Int,own= .int .i64 x∧0≤x∧x<2|10=>PtR wx (g+1) own (-1) (256)|11=>∃ x:Int,own= .int .i64 x ∧ -1≤x∧x≤256|12=>∃ x:Nat,own= .pointer (some ⟨g,x,none⟩)∧x<n|13=>True|_=>True) (fun kx wx=>PH w b (P+2010) kx O g n c W H wx) (by kernel_rfl) (by kernel_rfl) (by kernel_rfl) ?g0_r1 ?gop_r1 ?gend_r1
   case g0_r1=>exact(D6.re (P':=P+2010) (by omega)).drew
   case gop_r1 =>
    refine⟨?_,?o1,?_,?_,?o4,?o5,?o6,?o7,?_,?o9,?o10,?o11,?o12,?o13,trivial⟩ <;> (intro kx xs wx hk hG hD hI Qo Kx hK hQo;simp only[patchS,Nat.reduceAdd,Nat.reduceEqDiff,↓reduceIte]at hQo⊢)
    case o1 =>
     rw[ddq (hD 0 rfl)]at hQo⊢;clear hD hI;obtain⟨-,k0,k1,k2,-⟩:=bx3 hG.2.1;go_wp2;exact hK.out _ _ ⟨rfl,hG.step,kkp⟩
    case o4 =>
     rw[ddq (hD 3 rfl)]at hQo⊢;clear hD hI;obtain⟨-,k0,k1,k2,-⟩:=bx3 hG.2.1;go_wp2;exact hK.out _ _ ⟨rfl,hG.step,kkp⟩
    case o5 =>
     rw[ddq (hD 4 rfl)]at hQo⊢;clear hD hI;go_wp2;exact hK.out _ _ ⟨rfl,hG.step,kkp⟩
    case o6 =>
     rw[ddq (hD 2 rfl),ddq (hD 5 rfl)]at hQo⊢;clear hD hI;go_wp2_with fail
     refine(pick_c b _ n _ hG.1.2 (DG.small hk (by decide) (by decide) (by omega)) (by omega) (by omega)).mono ?_
     rintro e w4 ⟨xx,rfl,xa,xb,rd,gr⟩
     obtain⟨xn,rfl⟩:=Int.eq_ofNat_of_zero_le xa;go_wp2;exact hK.out _ _ ⟨⟨xn,rfl,by omega⟩,hG.more gr rd (by decide),fun i _ _ _ own ys h=>Hext.out i own ys _ _ gr h⟩
    case o7 =>
     clear hD hI;have e5:=Ext.alloc wx (.cells #[.int .i64 (-1),.int .i64 256] 3);go_wp2;exact hK.out _ _ ⟨⟨_,[(-1),256],rfl,by have:=lt_of_block hG.2.1;omega,Sl_new _ _ _,by simp <;> omega⟩,hG.ext e5,fun i _ _ _ own ys h=>Hext.out i own ys _ _ (ext_gr e5) h⟩
    case o9 =>
     rw[ddq (hD 8 rfl)]at hQo⊢;clear hD hI;go_wp2_with fail
     refine(pick_c _ _ _ _ hG.1.2 (DG.small hk (by decide) (by decide) (by omega)) (by omega) (by omega)).mono ?_
     rintro e w4 ⟨xx,rfl,xa,xb,rd,gr⟩
     go_wp2;exact hK.out _ _ ⟨⟨xx,rfl,xa,by omega⟩,hG.more gr rd (by decide),fun i _ _ _ own ys h=>Hext.out i own ys _ _ gr h⟩
    case o10 =>
     have d7:SlR wx (g+1) (xs 7) 2 (-1) (256):=hD 7 rfl;have d9:∃ x:Int,(xs 9) = .int .i64 x∧0≤x∧x<2:=hD 9 rfl;clear hD hI;generalize xs 7=y7 at *;generalize xs 9=y9 at *;obtain⟨g7,l7,rfl,n7,s7,r7⟩:=d7;obtain⟨x9,rfl,x9a,x9b⟩:=d9;go_wp2;exact hK.out _ _ ⟨SlR.at n7 s7 r7 (by omega),hG.step,kkp⟩
    case o11 =>
     have d10:PtR wx (g+1) (xs 10) (-1) (256):=hD 10 rfl;clear hD hI;generalize xs 10=y10 at *;obtain⟨g10,j10,y10,rfl,n10,c10,y10a,y10b⟩:=d10;go_wp2;exact hK.out _ _ ⟨⟨_,rfl,by omega,by omega⟩,hG.step,kkp⟩
    case o12 =>
     rw[ddq (hD 1 rfl)]at hQo⊢;have d6:∃ x:Nat,(xs 6) = .int .i64 x∧x<n:=hD 6 rfl;clear hD hI;generalize xs 6=y6 at *;obtain⟨x6,rfl,x6a⟩:=d6;go_wp2;exact hK.out _ _ ⟨⟨_,rfl,by omega⟩,hG.step,fun _ _ _ _ _ _ h=>h⟩
    case o13 =>
     have d11:∃ x:Int,(xs 11) = .int .i64 x ∧ -1≤x∧x≤256:=hD 11 rfl;have d12:∃ x:Nat,(xs 12) = .pointer (some ⟨g,x,none⟩)∧x<n:=hD 12 rfl;clear hD hI;generalize xs 11=y11 at *;generalize xs 12=y12 at *;obtain⟨x11,rfl,x11a,x11b⟩:=d11;obtain⟨x12,rfl,x12a⟩:=d12;obtain⟨u1,c1',f1⟩:=hG.cell x12a;go_wp2;have hst:∀(wy:World),(∀(v:Value) (lo hi:Int),(PtR wx (g+1) v lo hi→PtR wy (g+1) v lo hi)∧(SlR wx (g+1) v 2 lo hi→SlR wy (g+1) v 2 lo hi))→Stbn 14 13 [[],[0],[],[],[3],[3,4],[2,3,4,5],[],[],[2,3,4,5,6,8],[2,3,4,5,6,7,8,9],[2,3,4,5,6,7,8,9,10],[0,1,2,3,4,5,6,7,8,9,10,11],[0,1,2,3,4,5,6,7,8,9,10,11,12]] (fun i own ys wx=>match i with|0=>own= .pointer (some ⟨O,2,none⟩)|1=>own= .slice (some ⟨g,0,none⟩) n c|2=>own= .pointer (some ⟨b,0,none⟩)|3=>own= .pointer (some ⟨O,2,none⟩)|4=>own= .slice (some ⟨g,0,none⟩) n c|5=>own= .int .i64 n|6=>∃ x:Nat,own= .int .i64 x∧x<n|7=>SlR wx (g+1) own 2 (-1) (256)|8=>own= .pointer (some ⟨b,0,none⟩)|9=>∃ x:Int,own= .int .i64 x∧0≤x∧x<2|10=>PtR wx (g+1) own (-1) (256)|11=>∃ x:Int,own= .int .i64 x ∧ -1≤x∧x≤256|12=>∃ x:Nat,own= .pointer (some ⟨g,x,none⟩)∧x<n|13=>True|_=>True) wx wy:=by
      intro wy hy ii hii hne hc own ys h
      match ii,h with
      | 0,h|1,h|2,h|3,h|4,h|5,h|6,h|8,h|9,h|11,h|12,h=>exact h
      | 7,h=>exact(hy _ _ _).2 h
      | 10,h=>exact(hy _ _ _).1 h
      | 13,h=>exact absurd rfl hne
      | _+14,_=>trivial
     exact hQo undef _ (hK.out _ _ ⟨trivial,(hG.set _ _).step,hst _ (fun v lo hi=>⟨fun h=>h.set (by omega),fun h=>h.set (by omega)⟩)⟩)
    all_goals
     clear hD hI;go_wp2;exact hK.out _ _ ⟨rfl,hG.step,kkp⟩
   clear Hext;intro xs wx hV hG;have d1:_=_:=hV 1 (by decide);clear hV;simp only[patchS,Nat.reduceAdd,Nat.reduceEqDiff,↓reduceIte];generalize xs 0=y0,xs 1=y1,xs 2=y2,xs 3=y3,xs 4=y4,xs 5=y5,xs 6=y6,xs 7=y7,xs 8=y8,xs 9=y9,xs 10=y10,xs 11=y11,xs 12=y12,xs 13=y13 at *
   replace hG:PH w b (P+2010) 14 O g n c W H wx:=hG
   subst d1;have hg:=hG.g;obtain⟨ys,sy⟩:=hG.sl;obtain⟨-,k0,k1,k2,-⟩:=bx3 hG.2.1;obtain⟨-,r0,r1,r2,f0,f1,f2⟩:=bx3 hG.2.2.1;have hres:=blk_set3 (x' := .int .i64 W) (y' := .int .i64 H) (z' := .slice (some ⟨g,0,none⟩) n c) hG.2.2.1;go_wp2;exact bodyPost_ret (v := .agg #[.int .i64 W,.int .i64 H,.slice (some ⟨g,0,none⟩) n c]) (results_cell_row rfl _ _ w.heap.size 25 #[.int .i64 W,.int .i64 H,.slice (some ⟨g,0,none⟩) n c] (0,0) _ rfl hres Tryz.underlying25 rfl size_Picture) rfl
    (PicR.of hn1.2 (by omega) (by omega) (by omega) (by omega) sy (fun u hu=>by cases hu;show w.heap.size<g;omega) (hG.1.2.mono (by omega)) hG.1.1 hbw (gr_set3 _ _ _ _ _))
  ·obtain⟨-,k0,k1,k2,f0,f1,f2⟩:=bx3 D6.2.1;have hne : ¬ c=1:=by omega
   go_upto_region 14 with fail
   obtain⟨ys,sy⟩:=D6.sl;have hg:=D6.g;have hx:=heap_setCell_same w6 O 2 _ _ (.slice (some ⟨g,1,none⟩) (n-1) (c-1)) D6.2.1;have B9:(w6.setCell ⟨O,2,none⟩ (.slice (some ⟨g,1,none⟩) (n-1) (c-1))).heap[O]?=some (.cells #[.int .i64 W,.int .i64 H,.slice (some ⟨g,1,none⟩) (n-1) (c-1)] 25 (0,0)):=by simpa using hx
   have s9:=Sl.tail (sy.grown (gr_set w6 O 2 (.slice (some ⟨g,1,none⟩) (n-1) (c-1))) (fun u hu=>by cases hu;simp;omega)) (by omega);have r9:RdP (w6.setCell ⟨O,2,none⟩ (.slice (some ⟨g,1,none⟩) (n-1) (c-1))) b (P+2004):=D6.1.2.set (by have:=D6.2.2.2.2;omega);have g9:=grown_any D6.1.1 (gr_set w6 O 2 (.slice (some ⟨g,1,none⟩) (n-1) (c-1))) (fun k hk=>by cases hk;have:=D6.2.2.2.2;omega);have q9:(w6.setCell ⟨O,2,none⟩ (.slice (some ⟨g,1,none⟩) (n-1) (c-1))).heap[w.heap.size]?=_:=blk_set_other D6.2.2.1 (by have:=D6.2.2.2.2;omega);generalize w6.setCell ⟨O,2,none⟩ (.slice (some ⟨g,1,none⟩) (n-1) (c-1))=w9 at *;clear k0 k1 k2 f0 f1 f2 D6 hx sy;obtain⟨-,k0,k1,k2,-⟩:=bx3 B9;obtain⟨-,r0,r1,r2,f0,f1,f2⟩:=bx3 q9;have hres:=blk_set3 (x' := .int .i64 W) (y' := .int .i64 H) (z' := .slice (some ⟨g,1,none⟩) (n-1) (c-1)) q9;go_wp2;exact bodyPost_ret (v := .agg #[.int .i64 W,.int .i64 H,.slice (some ⟨g,1,none⟩) (n-1) (c-1)]) (results_cell_row rfl _ _ w.heap.size 25 #[.int .i64 W,.int .i64 H,.slice (some ⟨g,1,none⟩) (n-1) (c-1)] (0,0) _ rfl hres Tryz.underlying25 rfl size_Picture) rfl
    (PicR.of (by omega) (by omega) (by omega) (by omega) (by omega) s9 (fun u hu=>by cases hu;show w.heap.size<g;omega) (r9.mono (by omega)) g9 hbw (gr_set3 _ _ _ _ _))
  ·have hg:=D6.g;obtain⟨-,r0,r1,r2,f0,f1,f2⟩:=bx3 D6.2.2.1;have hres:=blk_set3 (x' := .int .i64 0) (y' := .int .i64 0) (z' := .slice none 0 0) D6.2.2.1;go_wp2;exact bodyPost_ret (v := .agg #[.int .i64 0,.int .i64 0,.slice none 0 0]) (results_cell_row rfl _ _ w.heap.size 25 #[.int .i64 0,.int .i64 0,.slice none 0 0] (0,0) _ rfl hres Tryz.underlying25 rfl size_Picture) rfl
    (PicR.of (wx:=w6) (zs := []) (by omega) (by omega) (by omega) (by omega) (by omega) (Sl.nil _ _) (fun u hu=>by cases hu) (D6.1.2.mono (by omega)) D6.1.1 hbw (gr_set3 _ _ _ _ _))
section
variable {P : Program}
end
/-- A block of integers is not the reader's data. -/
theorem RdP.grI {w w':World} {b P r T:Nat} {zs:List Int} (h:RdP w b P) (i:IB w r T zs) (g:w.grownBy w' (some r)) (hne:r≠b):RdP w' b P:=by
 obtain⟨p,hp,a,m,c,ds,h1,h2,h3,h4,h5⟩:=h;refine⟨p,hp,a,m,c,ds,by rw[g.block b (lt_of_block h1) (by simp;omega)];exact h1,h2,?_,h4,h5⟩
 by_cases hm:m=0
 ·subst hm;exact⟨h3.1,fun i hi=>by omega⟩
 ·refine h3.grown g (fun x hx e => ?_);obtain⟨b1,o1,h6,h7⟩:=h3.int (show 0<m by omega);rw[hx]at h6;simp at h6 e;subst h6;simp at e;subst e;unfold IB at i;simp[World.cell?,i,ic]at h7
theorem Mac.of {zs:List Int} (h:zs.length=71):∃ m:Mac,m.ok∧m.zs=zs:=by
 match zs,h with
 | a::b::c::t,h =>
  refine⟨⟨a,b,c,t.take 4,t.drop 4⟩,⟨by simp at h⊢;omega,by simp at h⊢;omega⟩,?_⟩;simp[Mac.zs]
/-- What holds while the arguments of RowsRead are drawn. -/
def RGd (w:World) (b P k q:Nat) (wx:World):Prop:=DG w b P 1 k wx∧IQ 10000 wx q 32 71∧IQ 10000 wx w.heap.size 32 71∧w.heap.size<b∧b<q
theorem RGd.step {w wx:World} {b P k q:Nat} (h:RGd w b P k q wx):RGd w b P (k+1) q wx:=⟨h.1.step,h.2⟩
theorem RGd.more {w wx wy:World} {b P k q:Nat} (h:RGd w b P k q wx) (e:wx.grownBy wy (some b)) (r:RdP wy b (P+k*1+1)) (_:1≤1):RGd w b P (k+1) q wy:=⟨h.1.more e r (Nat.le_refl _),h.2.1.gr e (by have:=h.2.2.2;omega),h.2.2.1.gr e (by have:=h.2.2.2;omega),h.2.2.2⟩
theorem RGd.drew {w wx:World} {b P k q:Nat} (h:RGd w b P k q wx):RGd w b P k q wx.drew:=⟨h.1.drew,h.2.1.ext (Ext.drewN _ 1),h.2.2.1.ext (Ext.drewN _ 1),h.2.2.2⟩
theorem RGd.re {w wx:World} {b P k q P':Nat} (h:RGd w b P k q wx) (hP:P+k≤P'):RGd w b P' 0 q wx:=⟨h.1.reset (by omega) 1,h.2⟩
theorem RGd.set {w wx:World} {b P k q:Nat} (h:RGd w b P k q wx) (i:Nat) (v:Int) (h1 : -10000≤v) (h2:v≤10000):RGd w b P k q (wx.setCell ⟨q,i,none⟩ (.int .i64 v)) :=
 ⟨h.1.set (by have:=h.2.2.2;omega) h.2.2.2.2,h.2.1.set i v h1 h2,h.2.2.1.set_other (by have:=h.2.2.2;omega),h.2.2.2⟩
theorem RGd.put {w wx wy:World} {b P k q:Nat} {zs:List Int} (h:RGd w b P k q wx) (g:wx.grownBy wy (some w.heap.size)) (p:IB wy w.heap.size 32 zs) (hl:zs.length=71) (hz:bdI 10000 zs):RGd w b P k q wy:=by
 obtain⟨r0,z1,-⟩:=id h.2.2.1;exact⟨⟨gr_new h.1.1 g (Nat.le_refl _),h.1.2.grI z1 g (by have:=h.2.2.2;omega)⟩,h.2.1.gr g (by have:=h.2.2.2;omega),⟨zs,p,hl,hz⟩,h.2.2.2⟩
theorem RGd.cell {w wx:World} {b P k q:Nat} (h:RGd w b P k q wx) {i:Nat} (hi:i<71):∃ v:Int,wx.cell? ⟨q,i,none⟩=some (.int .i64 v)∧wx.frozen? ⟨q,i,none⟩=false ∧ -10000≤v∧v≤10000:=h.2.1.cell hi
theorem RGd.lift {w wx:World} {b P k q:Nat} (h:RGd w b P k q wx):Ext w wx:=Ext.grown (Below.refl _ _) h.1.1 (fun k hk=>by have:=h.2.2.2;simp at hk;omega)
theorem IQ.of {B:Int} {w:World} {q T n:Nat} (h:IQ B w q T n):∃ zs,IB w q T zs∧zs.length=n∧bdI B zs:=h
end Go.Proofs.YtbnhaegidfbgbaaGreatDoor
namespace Go.Proofs.YtbnhaegidfbgbaaGreatDoor
open Go.RowKit
theorem l20Q_c (b P:Nat) (n:Int) (w:World) (h:RdP w b P) (hp:P<2^38) (hn0:0≤n) (hn:n≤1000000) :
 Calls Tryz.prog 36 #[.pointer (some ⟨b,0,none⟩),.int .i64 n] w fun e w'=>∃ x:Int,e= .returned (.int .i64 x) ∧ -1≤x∧x≤16∧RdP w' b (P+4)∧w.grownBy w' (some b):=by
 have hbw:b<w.heap.size:=h.lt;go_enter Tryz.func36,Tryz.ntmps36
 go_wp2_with fail
 refine(odd_any b _ n _ h (by omega) hn0 (by omega)).mono ?_
 rintro e w1 ⟨x1,rfl,r1,g1⟩
 clear h;cases x1
 ·go_wp2_with fail
  refine(pick_c b _ 16 _ r1 (by omega) (by omega) (by omega)).mono ?_
  rintro e w2 ⟨x2,rfl,x2a,x2b,r2,g2⟩
  go_wp2_with fail
  refine(pick_c b _ 5 _ r2 (by omega) (by omega) (by omega)).mono ?_
  rintro e w3 ⟨x3,rfl,x3a,x3b,r3,g3⟩
  have e4:=Ext.alloc w3 (.cells #[.int .i64 x2,.int .i64 x3] 3);have S4:=blk_new w3 (.cells #[.int .i64 x2,.int .i64 x3] 3);have r4:=r3.ext e4;have g4:=grown_ext (grown_trans (grown_trans g1 g2) g3) e4;have hb3:=r3.lt;clear r1 r2 r3 g1 g2 g3 e4;go_wp2_with fail
  refine(pick_c b _ 2 _ r4 (by omega) (by omega) (by omega)).mono ?_
  rintro e w5 ⟨x5,rfl,x5a,x5b,r5,g5⟩
  have S5:=gr_blk g5 S4 (by omega);obtain⟨-,s0,s1,-,-⟩:=bx2 S5;have g6:=grown_trans g4 g5;clear S4 S5 g4 g5 r4;obtain rfl|rfl:x5=0∨x5=1:=by omega
  ·go_wp2;go_ret
   exact⟨x2,rfl,by omega,by omega,r5.mono (by omega),g6⟩
  ·go_wp2;go_ret
   exact⟨x3,rfl,by omega,by omega,r5.mono (by omega),g6⟩
 ·have e2:=Ext.alloc w1 (.cells #[.int .i64 (-1),.int .i64 16] 3);have S2:=blk_new w1 (.cells #[.int .i64 (-1),.int .i64 16] 3);have r2:=r1.ext e2;have g2:=grown_ext g1 e2;have hb3:=r1.lt;clear r1 g1 e2;go_wp2_with fail
  refine(pick_c b _ 2 _ r2 (by omega) (by omega) (by omega)).mono ?_
  rintro e w5 ⟨x5,rfl,x5a,x5b,r5,g5⟩
  have S5:=gr_blk g5 S2 (by omega);obtain⟨-,s0,s1,-,-⟩:=bx2 S5;have g6:=grown_trans g2 g5;clear S2 S5 g2 g5 r2;obtain rfl|rfl:x5=0∨x5=1:=by omega
  ·go_wp2;go_ret
   exact⟨-1,rfl,by omega,by omega,r5.mono (by omega),g6⟩
  ·go_wp2;go_ret
   exact⟨16,rfl,by omega,by omega,r5.mono (by omega),g6⟩
theorem RdP.setP {w:World} {b P q j:Nat} {x y:Int} {a:Option Addr} {n c:Nat} {v:Value} {T:TypeId} (h:RdP w b P) (hg:w.heap[q]?=some (.cells #[.int .i64 x,.int .i64 y,.slice a n c] T (0,0))) (hne:q≠b):RdP (w.setCell ⟨q,j,none⟩ v) b P:=by
 obtain⟨p,hp,h1⟩:=h;refine⟨p,hp,h1.setG hg (fun i z hz => ?_) hne⟩
 match i,hz with
 | 0,hz=>simp at hz
 | 1,hz=>simp at hz
 | 2,hz=>simp at hz
 | i+3,hz=>simp at hz
theorem RdP.setP3 {w:World} {b P q:Nat} {x y x' y':Int} {a a':Option Addr} {n c n' c':Nat} {T:TypeId} (h:RdP w b P) (hg:w.heap[q]?=some (.cells #[.int .i64 x,.int .i64 y,.slice a n c] T (0,0))) (hne:q≠b) :
 RdP (((w.setCell ⟨q,0,none⟩ (.int .i64 x')).setCell ⟨q,1,none⟩ (.int .i64 y')).setCell ⟨q,2,none⟩ (.slice a' n' c')) b P:=by
 have h1:=heap_setCell_same w q 0 _ _ (.int .i64 x') hg;have h2:=heap_setCell_same _ q 1 _ _ (.int .i64 y') h1;exact((h.setP hg hne).setP (x:=x') (y:=y) (a:=a) (n:=n) (c:=c) (by simpa using h1) hne).setP (x:=x') (y:=y') (a:=a) (n:=n) (c:=c) (by simpa using h2) hne
/-- A picture's box. -/
def PBx (w:World) (b:Nat) (p:Pic) (a:Option Addr) (n c:Nat):Prop:=w.heap[b]?=some (.cells #[.int .i64 p.w,.int .i64 p.h,.slice a n c] 25 (0,0))
theorem PBx.cells {w:World} {b:Nat} {p:Pic} {a:Option Addr} {n c:Nat} (h:PBx w b p a n c):w.cell? ⟨b,0,none⟩=some (.int .i64 p.w)∧w.cell? ⟨b,1,none⟩=some (.int .i64 p.h)∧w.cell? ⟨b,2,none⟩=some (.slice a n c):=by
 obtain⟨-,h0,h1,h2,-⟩:=bx3 h;exact⟨h0,h1,h2⟩
/-- The nearest number in lo..hi. -/
def clipI (n lo hi:Int):Int:=max lo (min hi n)
theorem clipI_lo {n lo hi:Int} (h:lo≤hi):lo≤clipI n lo hi∧clipI n lo hi≤hi:=by unfold clipI;omega
theorem clipI_in {n lo hi:Int} (h1:lo≤n) (h2:n≤hi):clipI n lo hi=n:=by unfold clipI;omega
/-- The absolute value. -/
def absI (n:Int):Int:=if n<0 then -n else n
theorem tdiv_floor {n d:Int} (h:n<0) (hd:1≤d):n≤n.tdiv d∧n.tdiv d≤0∧(n.tmod d<0→n.tdiv d-1=n/d)∧(¬ n.tmod d<0→n.tdiv d=n/d):=by
 obtain⟨m,rfl⟩:∃ m:Int,n = -m:=⟨-n,by omega⟩;have e1:(-m).tdiv d = -(m/d):=by rw[Int.neg_tdiv,Int.tdiv_eq_ediv_of_nonneg (by omega)]
 have e2:(-m).tmod d = -(m%d):=by rw[Int.neg_tmod,Int.tmod_eq_emod_of_nonneg (by omega)]
 have hq:m/d≤m:=Int.ediv_le_self _ (by omega);have hq0:0≤m/d:=Int.ediv_nonneg (by omega) (by omega);have hr0:=Int.emod_nonneg m (show d≠0 by omega);have hr1:=Int.emod_lt_of_pos m (show 0<d by omega);have hdm:=Int.mul_ediv_add_emod m d;rw[e1,e2];refine⟨by omega,by omega,fun h1 => ?_,fun h1 => ?_⟩
 ·symm
  refine(Int.ediv_eq_iff_of_pos (by omega)).2 ?_;have:d*(-(m/d)-1) = -(d*(m/d))-d:=by rw[Int.mul_sub,Int.mul_neg,Int.mul_one]
  constructor
  ·rw[Int.mul_comm];omega
  ·rw[Int.mul_comm];omega
 ·symm
  have hr:m%d=0:=by omega
  rw[hr]at hdm;refine(Int.ediv_eq_iff_of_pos (by omega)).2 ?_
  constructor
  ·rw[Int.mul_comm,Int.mul_neg];omega
  ·rw[Int.mul_comm,Int.mul_neg];omega
theorem l1Clip_any (n lo hi:Int) (w:World):Calls Tryz.prog 135 #[.int .i64 n,.int .i64 lo,.int .i64 hi] w fun e w'=>e= .returned (.int .i64 (clipI n lo hi))∧w=w':=by
 go_enter Tryz.func135,Tryz.ntmps135
 go_wp2;all_goals
  go_ret
  exact⟨ret_int (by unfold clipI;omega),rfl⟩
theorem clamp_any (n lo hi:Int) (w:World) (h:lo≤hi):Calls Tryz.prog 125 #[.int .i64 n,.int .i64 lo,.int .i64 hi] w fun e w'=>e= .returned (.int .i64 (clipI n lo hi))∧w=w':=by
 go_enter Tryz.func125,Tryz.ntmps125
 go_wp2;all_goals
  go_ret
  exact⟨ret_int (by unfold clipI;omega),rfl⟩
theorem l7Floor_any (n d:Int) (w:World) (h1 : -1099511627776≤n) (h2:n≤1099511627776) (hd:1≤d) (hd2:d≤1048576):Calls Tryz.prog 179 #[.int .i64 n,.int .i64 d] w fun e w'=>e= .returned (.int .i64 (n/d))∧w=w':=by
 by_cases h0:0≤n
 ·have hd0:decide (n%d<0)=false:=by
   have:=Int.emod_nonneg n (show d≠0 by omega);simp;omega
  go_enter Tryz.func179,Tryz.ntmps179
  go_wp2;go_ret
  exact⟨rfl,rfl⟩
 ·obtain⟨t1,t2,t3,t4⟩:=tdiv_floor (by omega:n<0) hd;have T3:=Lib.hid t3;have T4:=Lib.hid t4;clear t3 t4
  by_cases hm:n.tmod d<0
  ·have hd0:decide (n.tmod d<0)=true:=by simpa using hm
   go_enter Tryz.func179,Tryz.ntmps179
   go_wp2;go_ret
   exact⟨ret_int (T3.out hm),rfl⟩
  ·have hd0:decide (n.tmod d<0)=false:=by simpa using hm
   go_enter Tryz.func179,Tryz.ntmps179
   go_wp2;go_ret
   exact⟨ret_int (T4.out hm),rfl⟩
/-- The sum of f's first n numbers. -/
def sumZ (f:Nat→Int):Nat→Int
 | 0=>0
 | n+1=>sumZ f n+f n
theorem sumZ_rng {f:Nat→Int} {B:Int} {n:Nat} (h:∀ i,i<n → -B≤f i∧f i≤B) : -(n*B)≤sumZ f n∧sumZ f n≤n*B:=by
 induction n with
 | zero=>simp[sumZ]
 | succ n ih =>
  have h1:=ih (fun i hi=>h i (by omega));have h2:=h n (by omega);have e:((n+1:Nat):Int)*B=n*B+B:=by rw[Int.natCast_add,Int.add_mul];omega
  simp only[sumZ];rw[e];omega
/-- The matrix's entries. -/
def sgn (u y:Nat):Int:=nth [1,1,1,1,1,1,-1,-1,1,-1,-1,1,1,-1,1,-1] (4*u+y)
theorem sgn_one {u y:Nat} (hu:u<4) (hy:y<4):sgn u y=1∨sgn u y = -1:=by
 have:∀ u,u<4→∀ y,y<4→sgn u y=1∨sgn u y = -1:=by decide
 exact this u hu y hy
def hadT (b:List Int) (u v t:Nat):Int:=sgn u (t/4)*sgn v (t%4)*nth b t
def had (b:List Int):List Int:=(List.range 16).map fun k=>sumZ (hadT b (k/4) (k%4)) 16
theorem had_len (b:List Int):(had b).length=16:=by simp[had]
theorem nth_had (b:List Int) (k:Nat) (h:k<16):nth (had b) k=sumZ (hadT b (k/4) (k%4)) 16:=by
 simp[nth,had,h]
theorem hadT_rng {b:List Int} {B:Int} {u v t:Nat} (hb : -B≤nth b t∧nth b t≤B) (hu:u<4) (hv:v<4) (ht:t<16) : -B≤hadT b u v t∧hadT b u v t≤B:=by
 unfold hadT;rcases sgn_one hu (show t/4<4 by omega)with h|h <;> rcases sgn_one hv (show t%4<4 by omega)with h2|h2 <;> rw[h,h2] <;> omega
theorem had_rng {b:List Int} {B:Int} (hb:∀ t,t<16 → -B≤nth b t∧nth b t≤B) {k:Nat} (hk:k<16) : -(16*B)≤nth (had b) k∧nth (had b) k≤16*B:=by
 rw[nth_had _ _ hk];have:=sumZ_rng (f:=hadT b (k/4) (k%4)) (B:=B) (n:=16) (fun i hi=>hadT_rng (hb i hi) (by omega) (by omega) hi)
 simpa using this
/-- Four numbers, a step apart, transformed. -/
def bfS (zs:List Int) (i st:Nat):List Int :=
 (((zs.set i (nth zs i+nth zs (i+st)+nth zs (i+2*st)+nth zs (i+3*st))).set (i+st) (nth zs i+nth zs (i+st)-nth zs (i+2*st)-nth zs (i+3*st))).set (i+2*st) (nth zs i-nth zs (i+st)-nth zs (i+2*st)+nth zs (i+3*st))).set (i+3*st) (nth zs i-nth zs (i+st)+nth zs (i+2*st)-nth zs (i+3*st))
def bfR (zs:List Int):Nat→List Int
 | 0=>zs
 | k+1=>bfS (bfR zs k) (4*k) 1
def bfC (zs:List Int):Nat→List Int
 | 0=>zs
 | k+1=>bfS (bfC zs k) k 4
theorem list16 {zs:List Int} (h:zs.length=16):∃ a0 a1 a2 a3 a4 a5 a6 a7 a8 a9 a10 a11 a12 a13 a14 a15:Int,zs = [a0,a1,a2,a3,a4,a5,a6,a7,a8,a9,a10,a11,a12,a13,a14,a15]:=by
 match zs,h with
 | [a0,a1,a2,a3,a4,a5,a6,a7,a8,a9,a10,a11,a12,a13,a14,a15],_=>exact⟨a0,a1,a2,a3,a4,a5,a6,a7,a8,a9,a10,a11,a12,a13,a14,a15,rfl⟩
theorem had_lit (a0 a1 a2 a3 a4 a5 a6 a7 a8 a9 a10 a11 a12 a13 a14 a15:Int):had [a0,a1,a2,a3,a4,a5,a6,a7,a8,a9,a10,a11,a12,a13,a14,a15] =
 [a0+a1+a2+a3+a4+a5+a6+a7+a8+a9+a10+a11+a12+a13+a14+a15,
  a0+a1-a2-a3+a4+a5-a6-a7+a8+a9-a10-a11+a12+a13-a14-a15,
  a0-a1-a2+a3+a4-a5-a6+a7+a8-a9-a10+a11+a12-a13-a14+a15,
  a0-a1+a2-a3+a4-a5+a6-a7+a8-a9+a10-a11+a12-a13+a14-a15,
  a0+a1+a2+a3+a4+a5+a6+a7-a8-a9-a10-a11-a12-a13-a14-a15,
  a0+a1-a2-a3+a4+a5-a6-a7-a8-a9+a10+a11-a12-a13+a14+a15,
  a0-a1-a2+a3+a4-a5-a6+a7-a8+a9+a10-a11-a12+a13+a14-a15,
  a0-a1+a2-a3+a4-a5+a6-a7-a8+a9-a10+a11-a12+a13-a14+a15,
  a0+a1+a2+a3-a4-a5-a6-a7-a8-a9-a10-a11+a12+a13+a14+a15,
  a0+a1-a2-a3-a4-a5+a6+a7-a8-a9+a10+a11+a12+a13-a14-a15,
  a0-a1-a2+a3-a4+a5+a6-a7-a8+a9+a10-a11+a12-a13-a14+a15,
  a0-a1+a2-a3-a4+a5-a6+a7-a8+a9-a10+a11+a12-a13+a14-a15,
  a0+a1+a2+a3-a4-a5-a6-a7+a8+a9+a10+a11-a12-a13-a14-a15,
  a0+a1-a2-a3-a4-a5+a6+a7+a8+a9-a10-a11-a12-a13+a14+a15,
  a0-a1-a2+a3-a4+a5+a6-a7+a8-a9-a10+a11-a12+a13+a14-a15,
  a0-a1+a2-a3-a4+a5-a6+a7+a8-a9+a10-a11-a12+a13-a14+a15]:=by
 simp only[had,List.range,List.range.loop,List.map,sumZ,hadT,sgn,Nat.reduceDiv,Nat.reduceMod,Nat.reduceMul,Nat.reduceAdd,nth,List.getD_cons_succ,List.getD_cons_zero,List.cons.injEq,and_true];refine⟨?_,?_,?_,?_,?_,?_,?_,?_,?_,?_,?_,?_,?_,?_,?_,?_⟩ <;> omega
theorem bf_had {zs:List Int} (h:zs.length=16):bfC (bfR zs 4) 4=had zs:=by
 obtain⟨a0,a1,a2,a3,a4,a5,a6,a7,a8,a9,a10,a11,a12,a13,a14,a15,rfl⟩:=list16 h;rw[had_lit];simp only[bfC,bfR,bfS,Nat.reduceMul,Nat.reduceAdd,nth,List.getD_cons_succ,List.getD_cons_zero,List.set_cons_succ,List.set_cons_zero,List.cons.injEq,and_true];refine⟨?_,?_,?_,?_,?_,?_,?_,?_,?_,?_,?_,?_,?_,?_,?_,?_⟩ <;> omega
def ihad (b:List Int):List Int:=(had b).map fun n=>(n+8)/16
/-- The steps. -/
def stepL : List Int := [1,2,4,8,12,16,24,32,48,64,96,128,192,256,384,512]
def stp (q:Nat):Int:=nth stepL q
theorem stp_rng {q:Nat} (h:q<16):1≤stp q∧stp q≤512:=by
 have:∀ q,q<16→1≤stp q∧stp q≤512:=by decide
 exact this q h
/-- |c| divided by s, rounded. -/
def rnd (c s:Int):Int:=(2*c+s)/(2*s)
def qz (c:Int) (q:Nat):Int:=if c<0 then -rnd (-c) (stp q)else rnd c (stp q)
def dq (l:Int) (q:Nat):Int:=clipI (l*stp q) (-4080) 4080
theorem rnd_rng {c s:Int} (h0:0≤c) (hs:1≤s):0≤rnd c s∧rnd c s≤c:=by
 unfold rnd
 constructor
 ·exact Int.ediv_nonneg (by omega) (by omega)
 ·have h2:2*c+s<(c+1)*(2*s):=by
   have h3:0≤c*(2*s-2):=Int.mul_nonneg h0 (by omega);have h4:(c+1)*(2*s)=c*(2*s-2)+2*c+2*s:=by
    rw[Int.add_mul,Int.mul_sub];omega
   omega
  have:=Int.ediv_lt_of_lt_mul (by omega) h2;omega
theorem dq_rng (l:Int) (q:Nat) : -4080≤dq l q∧dq l q≤4080:=clipI_lo (by omega)
theorem qz_rng {c:Int} {q:Nat} (h1 : -4080≤c) (h2:c≤4080) (hq:q<16) : -4080≤qz c q∧qz c q≤4080:=by
 have hs:=stp_rng hq;unfold qz
 split
 ·have:=rnd_rng (c := -c) (s:=stp q) (by omega) hs.1;omega
 ·have:=rnd_rng (c:=c) (s:=stp q) (by omega) hs.1;omega
theorem cellOfBlk {w:World} {b:Nat} {arr:Array Value} {T:TypeId} {i:Nat} {v:Value} (h:w.heap[b]?=some (.cells arr T (0,0))) (hi:arr[i]?=some v):w.cell? ⟨b,i,none⟩=some v:=by
 simp[World.cell?,h,hi]
theorem mul_bnd {l s:Int} (h1 : -4080≤l) (h2:l≤4080) (s1:1≤s) (s2:s≤512) : -2088960≤l*s∧l*s≤2088960:=by
 have a1:l*s≤4080*s:=Int.mul_le_mul_of_nonneg_right h2 (by omega);have a2 : -4080*s≤l*s:=Int.mul_le_mul_of_nonneg_right h1 (by omega);omega
theorem spec_QuantStep_in (q:Nat) (w:World) (hq:q<16) :
 Calls Tryz.prog 98 #[.int .i64 q] w fun e w'=>e= .returned (.int .i64 (stp q))∧Ext w w':=by
 have E1:=Ext.alloc w (.cells (stepL.map (Value.int .i64)).toArray 3);have hc:(w.alloc (.cells (stepL.map (Value.int .i64)).toArray 3)).cell? ⟨w.heap.size,q,none⟩=some (.int .i64 (stp q)):=by
  refine cellOfBlk (blk_new w _) ?_;have:∀ q,q<16→(stepL.map (Value.int .i64)).toArray[q]?=some (.int .i64 (stp q)):=by
   intro q hq;have hl:q<stepL.length:=hq;simp[stp,nth,hl]
  exact this q hq
 have e:(stepL.map (Value.int .i64)).toArray = #[.int .i64 1,.int .i64 2,.int .i64 4,.int .i64 8,.int .i64 12,.int .i64 16,.int .i64 24,.int .i64 32,.int .i64 48,.int .i64 64,.int .i64 96,.int .i64 128,.int .i64 192,.int .i64 256,.int .i64 384,.int .i64 512]:=rfl;rw[e]at hc E1;go_enter Tryz.func98,Tryz.ntmps98
 go_wp2_with fail
 refine(l1In_yes _ _ _ _ (by omega) (by omega)).mono ?_
 rintro e w1 ⟨rfl,rfl⟩
 go_wp2;go_ret
 exact⟨rfl,E1⟩
theorem l4Quant_in (c:Int) (q:Nat) (w:World) (h1 : -4080≤c) (h2:c≤4080) (hq:q<16) :
 Calls Tryz.prog 170 #[.int .i64 c,.int .i64 q] w fun e w'=>e= .returned (.int .i64 (qz c q))∧Ext w w':=by
 have hs:=stp_rng hq;go_enter Tryz.func170,Tryz.ntmps170
 go_wp2_with fail
 refine(spec_QuantStep_in q _ hq).mono ?_
 rintro e w1 ⟨rfl,E1⟩
 have hz:qz c q=if c<0 then -rnd (-c) (stp q)else rnd c (stp q):=rfl;have Hz:=Lib.hid hz;clear hz;generalize stp q=s at *
 by_cases hc:c<0
 ·have hr:rnd (-c) s=(-c*2+s)/(2*s):=by unfold rnd;congr 1;omega
  have Hr:=Lib.hid hr;have hr2:=rnd_rng (c := -c) (s:=s) (by omega) hs.1;rw[hr]at hr2;clear hr;go_wp2;go_ret
  exact⟨by rw[Hz.out,if_pos hc,Hr.out];rfl,E1⟩
 ·have hr:rnd c s=(c*2+s)/(2*s):=by unfold rnd;congr 1;omega
  have Hr:=Lib.hid hr;have hr2:=rnd_rng (c:=c) (s:=s) (by omega) hs.1;rw[hr]at hr2;clear hr;go_wp2;go_ret
  exact⟨by rw[Hz.out,if_neg (by omega),Hr.out];rfl,E1⟩
/-- The program's table of steps lies in its variable. -/
def TabQ (w:World):Prop:=∀ j,j<16→w.cell? ⟨0,j,none⟩=some (.int .i64 (stp j))
theorem TabQ.ext {w w':World} (h:TabQ w) (e:Ext w w'):TabQ w':=fun j hj=>cell_ext e (h j hj)
theorem qualityValid_in (q:Int) (w:World) (h1:0≤q) (h2:q≤15) :
 Calls Tryz.prog 51 #[.int .i64 q] w fun e w'=>e= .returned (.bool true)∧w=w':=by
 go_enter Tryz.func51,Tryz.ntmps51
 go_wp2;go_ret
 exact⟨by first|rfl|(simp;done)|(simp;omega),rfl⟩
theorem impl_abs_any (c:Int) (w:World) (h1 : -1099511627776≤c) (h2:c≤1099511627776) :
 Calls Tryz.prog 117 #[.int .i64 c] w fun e w'=>e= .returned (.int .i64 (if c<0 then -c else c))∧w=w':=by
 go_enter Tryz.func117,Tryz.ntmps117
 by_cases hc:c<0
 ·rw[if_pos hc];go_wp2;go_ret
  first|exact⟨rfl,rfl⟩|exact⟨by simp;omega,rfl⟩
 ·rw[if_neg hc];go_wp2;go_ret
  first|exact⟨rfl,rfl⟩|exact⟨by simp;omega,rfl⟩
theorem rounded_any (c s:Int) (w:World) (h1:0≤c) (h2:c≤1000000) (h3:1≤s) (h4:s≤1000000) :
 Calls Tryz.prog 156 #[.int .i64 c,.int .i64 s] w fun e w'=>e= .returned (.int .i64 (rnd c s))∧w=w':=by
 have hr:rnd c s=(2*c+s)/(2*s):=rfl;have Hr:=Lib.hid hr;have hr2:=rnd_rng h1 h3;rw[hr]at hr2;clear hr;go_enter Tryz.func156,Tryz.ntmps156
 go_wp2;go_ret
 exact⟨by rw[Hr.out];rfl,rfl⟩
theorem impl_Quantize_in (c:Int) (q:Nat) (w:World) (hT:TabQ w) (h1 : -4080≤c) (h2:c≤4080) (hq:q<16) :
 Calls Tryz.prog 115 #[.int .i64 c,.int .i64 q] w fun e w'=>e= .returned (.int .i64 (qz c q))∧∃ n,w'=w.drewN n:=by
 have hs:=stp_rng hq;have ht:=hT q hq;have hz:qz c q=if c<0 then -rnd (-c) (stp q)else rnd c (stp q):=rfl;have Hz:=Lib.hid hz;clear hz;have HT:=Lib.hid ht;generalize stp q=s at *;go_enter Tryz.func115,Tryz.ntmps115
 go_wp2_with fail
 refine(qualityValid_in _ _ (by omega) (by omega)).mono ?_
 rintro e w1 ⟨rfl,rfl⟩
 obtain⟨ac,hac⟩:∃ ac,ac=(if c<0 then -c else c):=⟨_,rfl⟩;have hac1:0≤ac∧ac≤4080:=by rw[hac];split <;> omega
 have HA:=Lib.hid hac;clear hac ht;have hr1:=rnd_rng (c:=ac) (s:=s) hac1.1 hs.1;have Hr1:=Lib.hid hr1;clear hr1;go_wp2_with fail
 refine wp_region_inv2 (by kernel_rfl) [(5,6),(17,0),(18,1),(19,2),(20,3),(21,4),(22,5)] [[],[0],[],[2],[2,3],[0,1,2,3,4],[0,1,2,3,4,5]] (fun i own ys wx=>match i with|0=>own= .int .i64 c|1=>own= .int .i64 ac|2=>own= .int .i64 q|3=>own= .pointer (some ⟨0,q,none⟩)|4=>own= .int .i64 s|5=>own= .int .i64 (rnd ac s)|6=>own= .int .i64 (rnd ac s)|_=>True) (fun kx wx=>∃ n,wx=w.drewN n) (by kernel_rfl) (by kernel_rfl) (by kernel_rfl) ?g0_r1 ?gop_r1 ?gend_r1
 case g0_r1=>exact⟨1,rfl⟩
 case gop_r1 =>
  refine⟨?_,?o1,?_,?o3,?o4,?o5,?o6,trivial⟩ <;> (intro kx xs wx hk hG hD hI Qo Kx hK hQo;simp only[patchS,Nat.reduceAdd,Nat.reduceEqDiff,↓reduceIte]at hQo⊢)
  case o1 =>
   rw[ddq (hD 0 rfl)]at hQo⊢;clear hD hI;go_wp2_with fail
   refine(impl_abs_any c _ (by omega) (by omega)).mono ?_
   rintro e w2 ⟨rfl,rfl⟩
   rw[←HA.out];go_wp2;exact hK.out _ _ ⟨rfl,hG,kkp⟩
  case o3 =>
   rw[ddq (hD 2 rfl)]at hQo⊢;clear hD hI;go_wp2;exact hK.out _ _ ⟨rfl,hG,kkp⟩
  case o4 =>
   rw[ddq (hD 3 rfl)]at hQo⊢;clear hD hI;obtain⟨nn,rfl⟩:=hG;have ht:=HT.out;have hG:∃ n,w.drewN nn=w.drewN n:=⟨nn,rfl⟩;go_wp2;exact hK.out _ _ ⟨rfl,hG,kkp⟩
  case o5 =>
   rw[ddq (hD 1 rfl),ddq (hD 4 rfl)]at hQo⊢;clear hD hI;go_wp2_with fail
   refine(rounded_any ac s _ (by omega) (by omega) (by omega) (by omega)).mono ?_
   rintro e w2 ⟨rfl,rfl⟩
   go_wp2;exact hK.out _ _ ⟨rfl,hG,kkp⟩
  case o6 =>
   rw[ddq (hD 5 rfl)]at hQo⊢;clear hD hI;go_wp2;exact hK.out _ _ ⟨rfl,hG,kkp⟩
  all_goals
   clear hD hI;go_wp2;exact hK.out _ _ ⟨rfl,hG,kkp⟩
 intro xs wx hV hG;have d6:_=_:=hV 6 (by decide);clear hV;simp only[patchS,Nat.reduceAdd,Nat.reduceEqDiff,↓reduceIte];generalize xs 0=y0,xs 1=y1,xs 2=y2,xs 3=y3,xs 4=y4,xs 5=y5,xs 6=y6 at *
 replace hG:∃ n,wx=w.drewN n:=hG
 subst d6;obtain⟨nn,rfl⟩:=hG;have hr1:=Hr1.out
 by_cases hc:c<0
 ·rw[if_pos hc]at HA;have ha2:=HA.out;have hz2:qz c q = -rnd ac s:=by rw[Hz.out,if_pos hc,←ha2]
  have HZ2:=Lib.hid hz2;clear hz2 Hz Hr1 HA ha2;generalize rnd ac s=R at *;go_wp2;go_ret
  exact⟨by rw[HZ2.out];rfl,nn,rfl⟩
 ·rw[if_neg hc]at HA;have ha2:=HA.out;go_wp2;go_ret
  exact⟨by rw[Hz.out,if_neg (by omega),←ha2];rfl,nn,rfl⟩
theorem impl_Dequantize_in (l:Int) (q:Nat) (w:World) (hT:TabQ w) (h1 : -4080≤l) (h2:l≤4080) (hq:q<16) :
 Calls Tryz.prog 126 #[.int .i64 l,.int .i64 q] w fun e w'=>e= .returned (.int .i64 (dq l q))∧w=w':=by
 have hs:=stp_rng hq;have ht:=hT q hq;have hm:=mul_bnd h1 h2 hs.1 hs.2;have hz:dq l q=clipI (l*stp q) (-4080) 4080:=rfl;have Hz:=Lib.hid hz;clear hz;generalize stp q=s at *;go_enter Tryz.func126,Tryz.ntmps126
 go_wp2_with fail
 refine(qualityValid_in _ _ (by omega) (by omega)).mono ?_
 rintro e w1 ⟨rfl,rfl⟩
 go_wp2_with fail
 refine(clamp_any _ _ _ _ (by omega)).mono ?_
 rintro e w1 ⟨rfl,rfl⟩
 go_wp2;go_ret
 exact⟨by rw[Hz.out];rfl,rfl⟩
/-- The sample at a position, or the nearest one. -/
def pat (p:Pic) (x y:Int):Int:=nth p.px (clipI y 0 (p.h-1)*p.w+clipI x 0 (p.w-1)).toNat
theorem pat_idx {p:Pic} (hv:p.valid) (x y:Int):0≤clipI y 0 (p.h-1)*p.w+clipI x 0 (p.w-1)∧clipI y 0 (p.h-1)*p.w+clipI x 0 (p.w-1)<p.px.length∧0≤clipI y 0 (p.h-1)*p.w∧clipI y 0 (p.h-1)*p.w≤1024:=by
 obtain⟨⟨w1,w2,w3⟩,⟨h1,h2,h3⟩,hl,-⟩:=hv;have a1:=clipI_lo (n:=y) (show(0:Int)≤p.h-1 by omega);have a2:=clipI_lo (n:=x) (show(0:Int)≤p.w-1 by omega);rw[hl];generalize clipI y 0 (p.h-1)=u at *;generalize clipI x 0 (p.w-1)=v at *;have b1:0≤u*p.w:=Int.mul_nonneg (by omega) (by omega);have b2:(u+1)*p.w≤p.h*p.w:=Int.mul_le_mul_of_nonneg_right (by omega) (by omega);have b3:p.h*p.w≤32*32:=Int.mul_le_mul h2 w2 (by omega) (by omega);rw[Int.add_mul,Int.one_mul]at b2;rw[Int.mul_comm p.h]at b2 b3;omega
theorem pat_rng {p:Pic} (hv:p.valid) (x y:Int):0≤pat p x y∧pat p x y≤255:=by
 have:=pat_idx hv x y;exact smp_nth hv.2.2.2 (by omega)
theorem pat_in {p:Pic} {x y:Nat} (hx:(x:Int)<p.w) (hy:(y:Int)<p.h) {W:Nat} (hW:p.w=W):pat p x y=nth p.px (y*W+x):=by
 unfold pat;rw[clipI_in (by omega) (by omega),clipI_in (by omega) (by omega),hW,←Int.natCast_mul,←Int.natCast_add,Int.toNat_natCast]
/-- The sample at a position in half samples. -/
def hlf (p:Pic) (x y:Int):Int :=
 if y%2=0 then if x%2=0 then pat p (x/2) (y/2)else(pat p (x/2) (y/2)+pat p (x/2+1) (y/2)+1)/2
 else if x%2=0 then(pat p (x/2) (y/2)+pat p (x/2) (y/2+1)+1)/2
 else(pat p (x/2) (y/2)+pat p (x/2+1) (y/2)+pat p (x/2) (y/2+1)+pat p (x/2+1) (y/2+1)+2)/4
theorem hlf_rng {p:Pic} (hv:p.valid) (x y:Int):0≤hlf p x y∧hlf p x y≤255:=by
 have h1:=pat_rng hv (x/2) (y/2);have h2:=pat_rng hv (x/2+1) (y/2);have h3:=pat_rng hv (x/2) (y/2+1);have h4:=pat_rng hv (x/2+1) (y/2+1);unfold hlf
 split <;> split <;> omega
theorem hlf_two (p:Pic) (x y:Int):hlf p (2*x) (2*y)=pat p x y:=by
 unfold hlf;rw[if_pos (by omega),if_pos (by omega),show 2*x/2=x by omega,show 2*y/2=y by omega]
/-- The 64 samples that predict a macroblock. -/
def blkL (p:Pic) (x y vx vy:Int):List Int:=(List.range 64).map fun k=>hlf p (2*(x+(k%8:Nat))+vx) (2*(y+(k/8:Nat))+vy)
theorem blkL_len (p:Pic) (x y vx vy:Int):(blkL p x y vx vy).length=64:=by simp[blkL]
theorem nth_blkL (p:Pic) (x y vx vy:Int) {k:Nat} (h:k<64):nth (blkL p x y vx vy) k=hlf p (2*(x+(k%8:Nat))+vx) (2*(y+(k/8:Nat))+vy):=by
 simp[nth,blkL,h]
theorem blkL_smp {p:Pic} (hv:p.valid) (x y vx vy:Int):smp (blkL p x y vx vy):=by
 refine smp_of_nth fun i hi => ?_
 rw[blkL_len]at hi;rw[nth_blkL _ _ _ _ _ hi];exact hlf_rng hv _ _
/-- The block of 4 by 4 samples at a position. -/
def prt (p:Pic) (x y:Int):List Int:=(List.range 16).map fun k=>pat p (x+(k%4:Nat)) (y+(k/4:Nat))
theorem prt_len (p:Pic) (x y:Int):(prt p x y).length=16:=by simp[prt]
theorem nth_prt (p:Pic) (x y:Int) {k:Nat} (h:k<16):nth (prt p x y) k=pat p (x+(k%4:Nat)) (y+(k/4:Nat)):=by simp[nth,prt,h]
theorem prt_smp {p:Pic} (hv:p.valid) (x y:Int):smp (prt p x y):=by
 refine smp_of_nth fun i hi => ?_
 rw[prt_len]at hi;rw[nth_prt _ _ _ hi];exact pat_rng hv _ _
/-- A block of a macroblock's samples. -/
def pof (L:List Int) (i j:Nat):List Int:=(List.range 16).map fun t=>nth L ((j+t/4)*8+i+t%4)
theorem pof_len (L:List Int) (i j:Nat):(pof L i j).length=16:=by simp[pof]
theorem nth_pof (L:List Int) (i j:Nat) {k:Nat} (h:k<16):nth (pof L i j) k=nth L ((j+k/4)*8+i+k%4):=by simp[nth,pof,h]
theorem pof_blk (p:Pic) (x y:Int) {i j:Nat} (hi:i≤4) (hj:j≤4):pof (blkL p x y 0 0) i j=prt p (x+i) (y+j):=by
 refine ext_nth (by rw[pof_len,prt_len]) fun t ht => ?_
 rw[pof_len]at ht;have h1:((j+t/4)*8+i+t%4)%8=i+t%4:=by omega
 have h2:((j+t/4)*8+i+t%4)/8=j+t/4:=by omega
 rw[nth_pof _ _ _ ht,nth_prt _ _ _ ht,nth_blkL _ _ _ _ _ (by omega),h1,h2,Int.add_zero,Int.add_zero,hlf_two]
 congr 1 <;> omega
theorem pof_smp {L:List Int} (h:smp L) (hl:L.length=64) {i j:Nat} (hi:i≤4) (hj:j≤4):smp (pof L i j):=by
 refine smp_of_nth fun k hk => ?_
 rw[pof_len]at hk;rw[nth_pof _ _ _ hk];exact smp_nth h (by omega)
/-- The samples around a block. -/
structure Ed where
 ab:List Int
 lf:List Int
 co:Int
 up:Bool
 le:Bool
structure Ed.ok (e : Ed) : Prop where
 ab:e.ab.length=4
 lf:e.lf.length=4
 sab:smp e.ab
 slf:smp e.lf
 sco:0≤e.co∧e.co≤255
def edg (p:Pic) (x y top:Int):Ed :=
 ⟨(List.range 4).map fun k:Nat=>if top<y then pat p (x+k) (y-1)else 128,(List.range 4).map fun k:Nat=>if 0<x then pat p (x-1) (y+k)else 128,
  if top<y∧0<x then pat p (x-1) (y-1)else 128,decide (top<y),decide (0<x)⟩
theorem edg_ab (p:Pic) (x y top:Int) {k:Nat} (h:k<4):nth (edg p x y top).ab k=if top<y then pat p (x+k) (y-1)else 128:=by simp[nth,edg,h]
theorem edg_lf (p:Pic) (x y top:Int) {k:Nat} (h:k<4):nth (edg p x y top).lf k=if 0<x then pat p (x-1) (y+k)else 128:=by simp[nth,edg,h]
theorem edg_ok {p:Pic} (hv:p.valid) (x y top:Int):(edg p x y top).ok:=by
 have l1:(edg p x y top).ab.length=4:=by simp[edg]
 have l2:(edg p x y top).lf.length=4:=by simp[edg]
 refine⟨l1,l2,smp_of_nth fun k hk => ?_,smp_of_nth fun k hk => ?_,?_⟩
 ·rw[l1]at hk;rw[edg_ab _ _ _ _ hk]
  split
  ·exact pat_rng hv _ _
  ·omega
 ·rw[l2]at hk;rw[edg_lf _ _ _ _ hk]
  split
  ·exact pat_rng hv _ _
  ·omega
 ·show 0≤(if top<y∧0<x then pat p (x-1) (y-1)else 128)∧_;unfold edg;simp only
  split
  ·exact pat_rng hv _ _
  ·omega
/-- The sum of the edge's available samples, and how many. -/
def mnT (e:Ed):Nat→Int
 | 0=>0
 | k+1=>mnT e k+(if e.up then nth e.ab k else 0)+(if e.le then nth e.lf k else 0)
def mnN (e:Ed) (k:Nat):Int:=k*((if e.up then 1 else 0)+(if e.le then 1 else 0))
def mean (e:Ed):Int:=if mnN e 4=0 then 128 else(2*mnT e 4+mnN e 4)/(2*mnN e 4)
theorem mnT_rng {e:Ed} (h:e.ok) {k:Nat} (hk:k≤4):0≤mnT e k∧mnT e k≤255*mnN e k:=by
 induction k with
 | zero=>simp[mnT,mnN]
 | succ k ih =>
  have h1:=ih (by omega);have h2:=smp_nth h.sab (i:=k) (by rw[h.ab];omega);have h3:=smp_nth h.slf (i:=k) (by rw[h.lf];omega);have e1:mnN e (k+1)=mnN e k+((if e.up then 1 else 0)+(if e.le then 1 else 0)):=by
   unfold mnN;rw[Int.natCast_add,Int.add_mul];omega
  rw[e1];simp only[mnT]
  split <;> split <;> omega
theorem mnN_cases (e:Ed):mnN e 4=0∨mnN e 4=4∨mnN e 4=8:=by
 unfold mnN;cases e.up <;> cases e.le <;> simp
theorem mean_rng {e:Ed} (h:e.ok):0≤mean e∧mean e≤255:=by
 have h1:=mnT_rng h (k:=4) (by omega);unfold mean;rcases mnN_cases e with h2|h2|h2 <;> rw[h2]at h1⊢
 ·rw[if_pos rfl];omega
 ·rw[if_neg (by omega)];omega
 ·rw[if_neg (by omega)];omega
/-- The border from the lowest left sample over the corner to the last one above. -/
def bord (e:Ed) (k:Nat):Int:=if k<4 then nth e.lf (3-k)else if k=4 then e.co else nth e.ab (k-5)
theorem bord_rng {e:Ed} (h:e.ok) {k:Nat} (hk:k≤8):0≤bord e k∧bord e k≤255:=by
 unfold bord
 split
 ·exact smp_nth h.slf (by rw[h.lf];omega)
 ·split
  ·exact h.sco
  ·exact smp_nth h.sab (by rw[h.ab];omega)
/-- The prediction of the sample in column x and row y. -/
def prd1 (mode:Nat) (e:Ed) (x y:Nat):Int :=
 match mode with
 | 0=>mean e
 | 1=>nth e.ab x
 | 2=>nth e.lf y
 | 3=>(bord e (3+x-y)+2*bord e (4+x-y)+bord e (5+x-y)+2)/4
 | _=>clipI (nth e.ab x+nth e.lf y-e.co) 0 255
def prd (mode:Nat) (e:Ed):List Int:=(List.range 16).map fun k=>prd1 mode e (k%4) (k/4)
theorem prd_len (mode:Nat) (e:Ed):(prd mode e).length=16:=by simp[prd]
theorem nth_prd (mode:Nat) (e:Ed) {k:Nat} (h:k<16):nth (prd mode e) k=prd1 mode e (k%4) (k/4):=by simp[nth,prd,h]
theorem prd1_rng (mode:Nat) {e:Ed} (h:e.ok) {x y:Nat} (hx:x<4) (hy:y<4):0≤prd1 mode e x y∧prd1 mode e x y≤255:=by
 unfold prd1
 split
 ·exact mean_rng h
 ·exact smp_nth h.sab (by rw[h.ab];omega)
 ·exact smp_nth h.slf (by rw[h.lf];omega)
 ·have h1:=bord_rng h (k:=3+x-y) (by omega);have h2:=bord_rng h (k:=4+x-y) (by omega);have h3:=bord_rng h (k:=5+x-y) (by omega);omega
 ·exact clipI_lo (by omega)
theorem prd_smp (mode:Nat) {e:Ed} (h:e.ok):smp (prd mode e):=by
 refine smp_of_nth fun i hi => ?_
 rw[prd_len]at hi;rw[nth_prd _ _ hi];exact prd1_rng mode h (by omega) (by omega)
/-- The differences. -/
def dif (a b:List Int):List Int:=(List.range 16).map fun k=>nth a k-nth b k
theorem dif_len (a b:List Int):(dif a b).length=16:=by simp[dif]
theorem nth_dif (a b:List Int) {k:Nat} (h:k<16):nth (dif a b) k=nth a k-nth b k:=by simp[nth,dif,h]
theorem dif_rng {a b:List Int} (ha:smp a) (hb:smp b) (la:a.length=16) (lb:b.length=16):inB 255 (dif a b)=true:=by
 refine inB_yes fun j hj => ?_
 rw[dif_len]at hj;rw[nth_dif _ _ hj];have:=smp_nth ha (i:=j) (by omega);have:=smp_nth hb (i:=j) (by omega);omega
/-- Levels of residuals; residuals of levels. -/
def cod (b:List Int) (q:Nat):List Int:=(had b).map fun c=>qz c q
def dec (l:List Int) (q:Nat):List Int:=ihad (l.map fun x=>dq x q)
theorem cod_len (b:List Int) (q:Nat):(cod b q).length=16:=by simp[cod,had_len]
theorem nth_cod (b:List Int) (q:Nat) {k:Nat} (h:k<16):nth (cod b q) k=qz (nth (had b) k) q:=by
 have hl:=had_len b;have h1:k<(had b).length:=by omega
 rw[nth_eq _ _ h1,nth_eq _ _ (by rw[cod_len];exact h)];simp[cod]
theorem ihad_len (b:List Int):(ihad b).length=16:=by simp[ihad,had_len]
theorem dec_len (l:List Int) (q:Nat):(dec l q).length=16:=ihad_len _
theorem had_255 {b:List Int} (hl:b.length=16) (hb:inB 255 b=true) {k:Nat} (hk:k<16) : -4080≤nth (had b) k∧nth (had b) k≤4080:=by
 have:=had_rng (b:=b) (B:=255) (fun t ht=>inB_iff.1 hb t (by omega)) hk;omega
theorem cod_rng {b:List Int} (hl:b.length=16) (hb:inB 255 b=true) {q:Nat} (hq:q<16):inB 4080 (cod b q)=true:=by
 refine inB_yes fun j hj => ?_
 rw[cod_len]at hj;rw[nth_cod _ _ hj];have:=had_255 hl hb hj;exact qz_rng this.1 this.2 hq
/-- A block of a picture replaced, its first k samples. -/
def putS (px:List Int) (W x y:Nat) (pr rs:List Int):Nat→List Int
 | 0=>px
 | k+1=>(putS px W x y pr rs k).set ((y+k/4)*W+x+k%4) (clipI (nth pr k+nth rs k) 0 255)
theorem putS_len (px:List Int) (W x y:Nat) (pr rs:List Int) (k:Nat):(putS px W x y pr rs k).length=px.length:=by
 induction k with
 | zero=>rfl
 | succ k ih=>simp[putS,ih]
theorem smp_setP {zs:List Int} (h:smp zs) (i:Nat) {v:Int} (hv:0≤v∧v≤255):smp (zs.set i v):=by
 intro z hz;rcases List.mem_or_eq_of_mem_set hz with h1|rfl
 ·exact h z h1
 ·exact hv
theorem putS_smp {px:List Int} (h:smp px) (W x y:Nat) (pr rs:List Int) (k:Nat):smp (putS px W x y pr rs k):=by
 induction k with
 | zero=>exact h
 | succ k ih=>exact smp_setP ih _ (clipI_lo (by omega))
/-- How block k of a macroblock is predicted. -/
def prK (ref:Pic) (W H:Int) (cur:List Int) (x y:Nat) (m:Mac) (top:Int) (k:Nat):List Int :=
 if m.kind=2 then prd (nth m.modes k).toNat (edg ⟨W,H,cur⟩ (x+k%2*4:Nat) (y+k/2*4:Nat) top)else pof (blkL ref x y m.x m.y) (k%2*4) (k/2*4)
/-- A macroblock of a picture replaced, its first k blocks. -/
def bldS (ref p:Pic) (x y:Nat) (m:Mac) (q:Nat) (top:Int):Nat→List Int
 | 0=>p.px
 | k+1=>putS (bldS ref p x y m q top k) p.w.toNat (x+k%2*4) (y+k/2*4) (prK ref p.w p.h (bldS ref p x y m q top k) x y m top k) (dec (sub m.lv (k*16) 16) q) 16
theorem bldS_len (ref p:Pic) (x y:Nat) (m:Mac) (q:Nat) (top:Int) (k:Nat):(bldS ref p x y m q top k).length=p.px.length:=by
 induction k with
 | zero=>rfl
 | succ k ih=>simp only[bldS];rw[putS_len,ih]
theorem bldS_smp {p:Pic} (h:smp p.px) (ref:Pic) (x y:Nat) (m:Mac) (q:Nat) (top:Int) (k:Nat):smp (bldS ref p x y m q top k):=by
 induction k with
 | zero=>exact h
 | succ k ih=>exact putS_smp ih _ _ _ _ _ _
theorem bldS_valid {p:Pic} (h:p.valid) (ref:Pic) (x y:Nat) (m:Mac) (q:Nat) (top:Int) (k:Nat):Pic.valid ⟨p.w,p.h,bldS ref p x y m q top k⟩ :=
 ⟨h.1,h.2.1,by show((bldS ref p x y m q top k).length:Int)=_;rw[bldS_len];exact h.2.2.1,bldS_smp h.2.2.2 _ _ _ _ _ _ _⟩
/-- The value of a picture. -/
def picV (W H:Int) (a:Option Addr) (n c:Nat):Value := .agg #[.int .i64 W,.int .i64 H,.slice a n c]
theorem ret_intH {k:IntKind} {a b:Int} (h:Hid (a=b)):Ending.returned (.int k a) = .returned (.int k b):=by rw[h.out]
theorem at_any (p:Pic) (x y:Int) (a:Option Addr) (c n:Nat) (w:World) (hv:p.valid) (hn:n=p.px.length) (r:Sl w a n (p.px.map (Value.int .i64))) :
 Calls Tryz.prog 93 #[.agg #[.int .i64 p.w,.int .i64 p.h,.slice a n c],.int .i64 x,.int .i64 y] w fun e w'=>e= .returned (.int .i64 (pat p x y))∧Ext w w':=by
 have hi:=pat_idx hv x y;have hw:=hv.1;have hh:=hv.2.1;obtain⟨w1,w2,-⟩:=hw;obtain⟨h1,h2,-⟩:=hh;have Hp:=Lib.hid (show pat p x y=nth p.px (clipI y 0 (p.h-1)*p.w+clipI x 0 (p.w-1)).toNat from rfl);have c1:=clipI_lo (n:=y) (show(0:Int)≤p.h-1 by omega);have c2:=clipI_lo (n:=x) (show(0:Int)≤p.w-1 by omega);obtain⟨cy,hcy⟩:∃ cy,cy=clipI y 0 (p.h-1):=⟨_,rfl⟩;obtain⟨cx,hcx⟩:∃ cx,cx=clipI x 0 (p.w-1):=⟨_,rfl⟩;rw[←hcy]at hi c1 Hp;rw[←hcx]at hi c2 Hp;have Hcy:=Lib.hid hcy;have Hcx:=Lib.hid hcx;clear hcy hcx;have hk:(cy*p.w+cx).toNat<n:=by omega
 obtain⟨k,hk2⟩:∃ k:Nat,cy*p.w+cx=(k:Int):=⟨(cy*p.w+cx).toNat,by omega⟩;rw[hk2]at hi hk;rw[hk2,Int.toNat_natCast]at Hp;rw[Int.toNat_natCast]at hk;have Hk:=Lib.hid hk2;clear hk2;obtain⟨b,off,rfl,hc⟩:=r.int hk;have Hc:=Lib.hid hc;have p0:=blk_new w (.cells #[.int .i64 p.w,.int .i64 p.h,.slice (some ⟨b,off,none⟩) n c] 25);have E0:=Ext.alloc w (.cells #[.int .i64 p.w,.int .i64 p.h,.slice (some ⟨b,off,none⟩) n c] 25);have HN:=Lib.hid hn;obtain⟨B,hB⟩:∃ B,B=w.heap.size:=⟨_,rfl⟩;rw[←hB]at p0;have HB:=Lib.hid hB;clear hn r hc hv;go_enter Tryz.func93,Tryz.ntmps93
 go_wp2_with fail
 rw[←hB];clear hB;generalize w.alloc (.cells #[.int .i64 p.w,.int .i64 p.h,.slice (some ⟨b,off,none⟩) n c] 25)=w0 at *;obtain⟨pw,ph,px⟩:=p;simp only at *;refine wp_region_inv2 (by kernel_rfl) [(6,18),(7,0),(8,1),(9,2),(10,3),(11,4),(12,5),(13,6),(14,7),(15,8),(16,9),(17,10),(18,11),(19,12),(20,13),(21,14),(22,15),(23,16),(24,17)] [[],[0],[],[],[3],[3,4],[2,3,4,5],[],[7],[2,3,4,5,6,7,8],[],[],[11],[11,12],[2,3,4,5,6,10,11,12,13],[2,3,4,5,6,7,8,9,10,11,12,13,14],[0,1,2,3,4,5,6,7,8,9,10,11,12,13,14,15],[0,1,2,3,4,5,6,7,8,9,10,11,12,13,14,15,16],[0,1,2,3,4,5,6,7,8,9,10,11,12,13,14,15,16,17]] (fun i own ys wx=>match i with|0=>own= .pointer (some ⟨B,2,none⟩)|1=>own= .slice (some ⟨b,off,none⟩) n c|2=>own= .int .i64 y|3=>own= .pointer (some ⟨B,1,none⟩)|4=>own= .int .i64 ph|5=>own= .int .i64 (ph-1)|6=>own= .int .i64 cy|7=>own= .pointer (some ⟨B,0,none⟩)|8=>own= .int .i64 pw|9=>own= .int .i64 (cy*pw)|10=>own= .int .i64 x|11=>own= .pointer (some ⟨B,0,none⟩)|12=>own= .int .i64 pw|13=>own= .int .i64 (pw-1)|14=>own= .int .i64 cx|15=>own= .int .i64 (k:Nat)|16=>own= .pointer (some ⟨b,off+k,none⟩)|17=>own= .int .i64 (nth px k)|18=>own= .int .i64 (nth px k)|_=>True) (fun kx wx=>Ext w0 wx) (by kernel_rfl) (by kernel_rfl) (by kernel_rfl) ?g0_r1 ?gop_r1 ?gend_r1
 case g0_r1=>exact Ext.drewN _ 1
 case gop_r1 =>
  refine⟨?_,?o1,?_,?_,?o4,?o5,?o6,?_,?o8,?o9,?_,?_,?o12,?o13,?o14,?o15,?o16,?o17,?o18,trivial⟩ <;> (intro kx xs wx hk hG hD hI Qo Kx hK hQo;simp only[patchS,Nat.reduceAdd,Nat.reduceEqDiff,↓reduceIte]at hQo⊢)
  case o1 =>
   rw[ddq (hD 0 rfl)]at hQo⊢;clear hD hI;obtain⟨-,k0,k1,k2,-⟩:=bx3 (hG.blk p0);go_wp2;exact hK.out _ _ ⟨rfl,hG,kkp⟩
  case o4 =>
   rw[ddq (hD 3 rfl)]at hQo⊢;clear hD hI;obtain⟨-,k0,k1,k2,-⟩:=bx3 (hG.blk p0);go_wp2;exact hK.out _ _ ⟨rfl,hG,kkp⟩
  case o5 =>
   rw[ddq (hD 4 rfl)]at hQo⊢;clear hD hI;go_wp2;exact hK.out _ _ ⟨rfl,hG,kkp⟩
  case o6 =>
   rw[ddq (hD 2 rfl),ddq (hD 5 rfl)]at hQo⊢;clear hD hI;go_wp2_with fail
   refine(clamp_any _ _ _ _ (by omega)).mono ?_
   rintro e w2 ⟨rfl,rfl⟩
   rw[←Hcy.out];go_wp2;exact hK.out _ _ ⟨rfl,hG,kkp⟩
  case o8 =>
   rw[ddq (hD 7 rfl)]at hQo⊢;clear hD hI;obtain⟨-,k0,k1,k2,-⟩:=bx3 (hG.blk p0);go_wp2;exact hK.out _ _ ⟨rfl,hG,kkp⟩
  case o9 =>
   rw[ddq (hD 6 rfl),ddq (hD 8 rfl)]at hQo⊢;clear hD hI;go_wp2;exact hK.out _ _ ⟨rfl,hG,kkp⟩
  case o12 =>
   rw[ddq (hD 11 rfl)]at hQo⊢;clear hD hI;obtain⟨-,k0,k1,k2,-⟩:=bx3 (hG.blk p0);go_wp2;exact hK.out _ _ ⟨rfl,hG,kkp⟩
  case o13 =>
   rw[ddq (hD 12 rfl)]at hQo⊢;clear hD hI;go_wp2;exact hK.out _ _ ⟨rfl,hG,kkp⟩
  case o14 =>
   rw[ddq (hD 10 rfl),ddq (hD 13 rfl)]at hQo⊢;clear hD hI;go_wp2_with fail
   refine(clamp_any _ _ _ _ (by omega)).mono ?_
   rintro e w2 ⟨rfl,rfl⟩
   rw[←Hcx.out];go_wp2;exact hK.out _ _ ⟨rfl,hG,kkp⟩
  case o15 =>
   rw[ddq (hD 9 rfl),ddq (hD 14 rfl)]at hQo⊢;clear hD hI;have hkb:0≤cy*pw+cx∧cy*pw+cx≤2000:=by omega
   go_wp2;exact hK.out _ _ ⟨by rw[←Hk.out],hG,fun _ _ _ _ _ _ h=>h⟩
  case o16 =>
   rw[ddq (hD 1 rfl),ddq (hD 15 rfl)]at hQo⊢;clear hD hI;go_wp2;exact hK.out _ _ ⟨rfl,hG,kkp⟩
  case o17 =>
   rw[ddq (hD 16 rfl)]at hQo⊢;clear hD hI;have hcc:=cell_ext (E0.trans hG) Hc.out;go_wp2;exact hK.out _ _ ⟨rfl,hG,kkp⟩
  case o18 =>
   rw[ddq (hD 17 rfl)]at hQo⊢;clear hD hI;go_wp2;exact hK.out _ _ ⟨rfl,hG,kkp⟩
  all_goals
   clear hD hI;go_wp2;exact hK.out _ _ ⟨rfl,hG,kkp⟩
 intro xs wx hV hG;have d18:_=_:=hV 18 (by decide);clear hV;simp only[patchS,Nat.reduceAdd,Nat.reduceEqDiff,↓reduceIte];generalize xs 0=y0,xs 1=y1,xs 2=y2,xs 3=y3,xs 4=y4,xs 5=y5,xs 6=y6,xs 7=y7,xs 8=y8,xs 9=y9,xs 10=y10,xs 11=y11,xs 12=y12,xs 13=y13,xs 14=y14,xs 15=y15,xs 16=y16,xs 17=y17,xs 18=y18 at *
 replace hG:Ext w0 wx:=hG
 subst d18;go_wp2;go_ret
 exact⟨(ret_intH Hp).symm,E0.trans hG⟩
theorem l1At_any (p:Pic) (x y:Int) (a:Option Addr) (c n:Nat) (w:World) (hv:p.valid) (hn:n=p.px.length) (r:Sl w a n (p.px.map (Value.int .i64))) :
 Calls Tryz.prog 90 #[.agg #[.int .i64 p.w,.int .i64 p.h,.slice a n c],.int .i64 x,.int .i64 y] w fun e w'=>e= .returned (.int .i64 (pat p x y))∧Ext w w':=by
 have hi:=pat_idx hv x y;have hw:=hv.1;have hh:=hv.2.1;obtain⟨w1,w2,-⟩:=hw;obtain⟨h1,h2,-⟩:=hh;have Hp:=Lib.hid (show pat p x y=nth p.px (clipI y 0 (p.h-1)*p.w+clipI x 0 (p.w-1)).toNat from rfl);have c1:=clipI_lo (n:=y) (show(0:Int)≤p.h-1 by omega);have c2:=clipI_lo (n:=x) (show(0:Int)≤p.w-1 by omega);obtain⟨cy,hcy⟩:∃ cy,cy=clipI y 0 (p.h-1):=⟨_,rfl⟩;obtain⟨cx,hcx⟩:∃ cx,cx=clipI x 0 (p.w-1):=⟨_,rfl⟩;rw[←hcy]at hi c1 Hp;rw[←hcx]at hi c2 Hp;have Hcy:=Lib.hid hcy;have Hcx:=Lib.hid hcx;clear hcy hcx;have hk:(cy*p.w+cx).toNat<n:=by omega
 obtain⟨k,hk2⟩:∃ k:Nat,cy*p.w+cx=(k:Int):=⟨(cy*p.w+cx).toNat,by omega⟩;rw[hk2]at hi hk;rw[hk2,Int.toNat_natCast]at Hp;rw[Int.toNat_natCast]at hk;have Hk:=Lib.hid hk2;clear hk2;obtain⟨b,off,rfl,hc⟩:=r.int hk;have Hc:=Lib.hid hc;have p0:=blk_new w (.cells #[.int .i64 p.w,.int .i64 p.h,.slice (some ⟨b,off,none⟩) n c] 25);have E0:=Ext.alloc w (.cells #[.int .i64 p.w,.int .i64 p.h,.slice (some ⟨b,off,none⟩) n c] 25);have HN:=Lib.hid hn;obtain⟨B,hB⟩:∃ B,B=w.heap.size:=⟨_,rfl⟩;rw[←hB]at p0;have HB:=Lib.hid hB;clear hn r hc hv;go_enter Tryz.func90,Tryz.ntmps90
 go_wp2_with fail
 rw[←hB];clear hB;generalize w.alloc (.cells #[.int .i64 p.w,.int .i64 p.h,.slice (some ⟨b,off,none⟩) n c] 25)=w0 at *;obtain⟨pw,ph,px⟩:=p;simp only at *;refine wp_region_inv2 (by kernel_rfl) [(6,18),(7,0),(8,1),(9,2),(10,3),(11,4),(12,5),(13,6),(14,7),(15,8),(16,9),(17,10),(18,11),(19,12),(20,13),(21,14),(22,15),(23,16),(24,17)] [[],[0],[],[],[3],[3,4],[2,3,4,5],[],[7],[2,3,4,5,6,7,8],[],[],[11],[11,12],[2,3,4,5,6,10,11,12,13],[2,3,4,5,6,7,8,9,10,11,12,13,14],[0,1,2,3,4,5,6,7,8,9,10,11,12,13,14,15],[0,1,2,3,4,5,6,7,8,9,10,11,12,13,14,15,16],[0,1,2,3,4,5,6,7,8,9,10,11,12,13,14,15,16,17]] (fun i own ys wx=>match i with|0=>own= .pointer (some ⟨B,2,none⟩)|1=>own= .slice (some ⟨b,off,none⟩) n c|2=>own= .int .i64 y|3=>own= .pointer (some ⟨B,1,none⟩)|4=>own= .int .i64 ph|5=>own= .int .i64 (ph-1)|6=>own= .int .i64 cy|7=>own= .pointer (some ⟨B,0,none⟩)|8=>own= .int .i64 pw|9=>own= .int .i64 (cy*pw)|10=>own= .int .i64 x|11=>own= .pointer (some ⟨B,0,none⟩)|12=>own= .int .i64 pw|13=>own= .int .i64 (pw-1)|14=>own= .int .i64 cx|15=>own= .int .i64 (k:Nat)|16=>own= .pointer (some ⟨b,off+k,none⟩)|17=>own= .int .i64 (nth px k)|18=>own= .int .i64 (nth px k)|_=>True) (fun kx wx=>Ext w0 wx) (by kernel_rfl) (by kernel_rfl) (by kernel_rfl) ?g0_r2 ?gop_r2 ?gend_r2
 case g0_r2=>exact Ext.drewN _ 1
 case gop_r2 =>
  refine⟨?_,?o1,?_,?_,?o4,?o5,?o6,?_,?o8,?o9,?_,?_,?o12,?o13,?o14,?o15,?o16,?o17,?o18,trivial⟩ <;> (intro kx xs wx hk hG hD hI Qo Kx hK hQo;simp only[patchS,Nat.reduceAdd,Nat.reduceEqDiff,↓reduceIte]at hQo⊢)
  case o1 =>
   rw[ddq (hD 0 rfl)]at hQo⊢;clear hD hI;obtain⟨-,k0,k1,k2,-⟩:=bx3 (hG.blk p0);go_wp2;exact hK.out _ _ ⟨rfl,hG,kkp⟩
  case o4 =>
   rw[ddq (hD 3 rfl)]at hQo⊢;clear hD hI;obtain⟨-,k0,k1,k2,-⟩:=bx3 (hG.blk p0);go_wp2;exact hK.out _ _ ⟨rfl,hG,kkp⟩
  case o5 =>
   rw[ddq (hD 4 rfl)]at hQo⊢;clear hD hI;go_wp2;exact hK.out _ _ ⟨rfl,hG,kkp⟩
  case o6 =>
   rw[ddq (hD 2 rfl),ddq (hD 5 rfl)]at hQo⊢;clear hD hI;go_wp2_with fail
   refine(l1Clip_any _ _ _ _).mono ?_
   rintro e w2 ⟨rfl,rfl⟩
   rw[←Hcy.out];go_wp2;exact hK.out _ _ ⟨rfl,hG,kkp⟩
  case o8 =>
   rw[ddq (hD 7 rfl)]at hQo⊢;clear hD hI;obtain⟨-,k0,k1,k2,-⟩:=bx3 (hG.blk p0);go_wp2;exact hK.out _ _ ⟨rfl,hG,kkp⟩
  case o9 =>
   rw[ddq (hD 6 rfl),ddq (hD 8 rfl)]at hQo⊢;clear hD hI;go_wp2;exact hK.out _ _ ⟨rfl,hG,kkp⟩
  case o12 =>
   rw[ddq (hD 11 rfl)]at hQo⊢;clear hD hI;obtain⟨-,k0,k1,k2,-⟩:=bx3 (hG.blk p0);go_wp2;exact hK.out _ _ ⟨rfl,hG,kkp⟩
  case o13 =>
   rw[ddq (hD 12 rfl)]at hQo⊢;clear hD hI;go_wp2;exact hK.out _ _ ⟨rfl,hG,kkp⟩
  case o14 =>
   rw[ddq (hD 10 rfl),ddq (hD 13 rfl)]at hQo⊢;clear hD hI;go_wp2_with fail
   refine(l1Clip_any _ _ _ _).mono ?_
   rintro e w2 ⟨rfl,rfl⟩
   rw[←Hcx.out];go_wp2;exact hK.out _ _ ⟨rfl,hG,kkp⟩
  case o15 =>
   rw[ddq (hD 9 rfl),ddq (hD 14 rfl)]at hQo⊢;clear hD hI;have hkb:0≤cy*pw+cx∧cy*pw+cx≤2000:=by omega
   go_wp2;exact hK.out _ _ ⟨by rw[←Hk.out],hG,fun _ _ _ _ _ _ h=>h⟩
  case o16 =>
   rw[ddq (hD 1 rfl),ddq (hD 15 rfl)]at hQo⊢;clear hD hI;go_wp2;exact hK.out _ _ ⟨rfl,hG,kkp⟩
  case o17 =>
   rw[ddq (hD 16 rfl)]at hQo⊢;clear hD hI;have hcc:=cell_ext (E0.trans hG) Hc.out;go_wp2;exact hK.out _ _ ⟨rfl,hG,kkp⟩
  case o18 =>
   rw[ddq (hD 17 rfl)]at hQo⊢;clear hD hI;go_wp2;exact hK.out _ _ ⟨rfl,hG,kkp⟩
  all_goals
   clear hD hI;go_wp2;exact hK.out _ _ ⟨rfl,hG,kkp⟩
 intro xs wx hV hG;have d18:_=_:=hV 18 (by decide);clear hV;simp only[patchS,Nat.reduceAdd,Nat.reduceEqDiff,↓reduceIte];generalize xs 0=y0,xs 1=y1,xs 2=y2,xs 3=y3,xs 4=y4,xs 5=y5,xs 6=y6,xs 7=y7,xs 8=y8,xs 9=y9,xs 10=y10,xs 11=y11,xs 12=y12,xs 13=y13,xs 14=y14,xs 15=y15,xs 16=y16,xs 17=y17,xs 18=y18 at *
 replace hG:Ext w0 wx:=hG
 subst d18;go_wp2;go_ret
 exact⟨(ret_intH Hp).symm,E0.trans hG⟩
/-- A function's contract from its body, where the body holds a range over a function: walked as any other. -/
theorem calls_of_marks (n:Nat) {P:Program} {f:FuncId} {fn:Func} {c:Code} {args:Array Value} {w:World} {R:Ending→World→Prop}
 (hf:P.funcs[f]?=some fn) (hb:fn.body=some c)
 (h:c.wp P (bodyPostM Fence.wide n P fn R) { tmps:=args++Array.replicate (fn.ntmps-args.size) undef,defers := [] } w):Calls P f args w R :=
 callsIn_wide.1 (callsIn_of_wp_marks (n:=n) hf hb trivial (wpIn_wide.2 h))
/-- What is turned at the return lies at or behind the loop's start. -/
theorem ext_putObj {a W:World} {D:Nat} (h:Ext a W) (hD:a.heap.size≤D) (o:Obj):Ext a (W.putObj D o):=Ext.grown h (grownBy_putObj' W D o) (fun k e=>by cases e;exact hD)
theorem blk_putObj {W:World} {b D:Nat} {o:Obj} (h:W.heap[b]?=some o) (hD:b≠D) (o':Obj):(W.putObj D o').heap[b]?=some o:=(World.putObj_heap_other hD).trans h
def keepB (b:Nat) (W W':World):Prop:=W'.heap[b]?=W.heap[b]?
theorem keepB.t {b:Nat} {A B C:World} (h:keepB b A B) (k:keepB b B C):keepB b A C:=k.trans h
theorem keepB.b {b n:Nat} (hb:b<n) (W:World) (l:Nat) (o o':Obj) (hl:n≤l) (_:W.heap[l]?=some o) (_:o.isCells=false) (_:o.isWalk=false):keepB b W (W.putObj l o'):=World.putObj_heap_other (by omega)
end Go.Proofs.YtbnhaegidfbgbaaGreatDoor
