/- Drawing: packets. | Lists of records (some one-cell fields, then bytes) of the call's own: whose rows lie one behind the other; overwriting them. | Lists of packets: what they read as; copies with what they own. | MissingNumbers: what it returns; the program's and the reference's. | Lists of packets of the call's own, told by their blocks' types. | A slice is cut into packets: the reference. | Pictures: plain words; the helpers of their exact laws. | PictureValid, both sides. | Pictures copied, both sides. | Drawing: pictures. | Drawing: a coded picture and a reference picture. -/
import Derived.Test.YtphfacfjhjcllaaQb7
import Derived.Maps.OwnSet
import Derived.Deep.Cut
import Derived.Deep.CutRange
set_option linter.unusedVariables false
set_option linter.unusedSimpArgs false
set_option maxRecDepth 100000
set_option maxHeartbeats 16000000
namespace Go.Proofs.Ytphfacfjhjcllaa
open Go.RowKit
/-- The numbers of a packet are small. -/
def pkb (p:Pkt):Prop:=(-1≤p.num∧p.num≤10000)∧(-1≤p.fr∧p.fr≤10000)∧(-1≤p.row∧p.row≤10000) ∧ -1≤p.part∧p.part≤10000
/-- What a drawn packet is like. -/
def PkR (w:World) (b P:Nat) (n:Int) (e:Ending) (w':World):Prop :=
 ∃(p:Pkt) (a:Option Addr) (c:Nat),e= .returned (pkV p a c)∧w'.ownsRow w.heap.size 5 1 (.slice a p.data.length c) p.data.length (p.data.map (Value.int .u8))∧p.data.length≤13∧bys p.data∧(n=0→p.ok)∧RdP w' b P∧w.grownBy w' (some b)
/-- What a drawn packet is like, with bounds. -/
def PkB (w:World) (b P:Nat) (n:Int) (e:Ending) (w':World):Prop :=
 ∃(p:Pkt) (a:Option Addr) (c:Nat),e= .returned (pkV p a c)∧w'.ownsRow w.heap.size 5 1 (.slice a p.data.length c) p.data.length (p.data.map (Value.int .u8))∧p.data.length≤13∧bys p.data∧pkb p∧(n=0→p.ok)∧RdP w' b P∧w.grownBy w' (some b)
theorem l20Packet_b (b P:Nat) (n:Int) (w:World) (h:RdP w b P) (hp:P<2^37) (hn0:0≤n) (hn:n≤1000000) :
 Calls Try.prog 24 #[.pointer (some ⟨b,0,none⟩),.int .i64 n] w (PkB w b (P+1000) n):=by
 have hblt:=h.lt;have Z:=blk_new w (.cells #[.int .i64 0,.int .i64 0,.int .i64 0,.int .i64 0,.bool false,.slice none 0 0] 32);have E1:Ext w (w.alloc (.cells #[.int .i64 0,.int .i64 0,.int .i64 0,.int .i64 0,.bool false,.slice none 0 0] 32)):=Ext.alloc w _;go_enter Try.func24,Try.ntmps24
 go_wp2_with fail
 refine(pick_c b P 40 _ (h.ext E1) (by omega) (by omega) (by omega)).mono ?_
 rintro e w1 ⟨x1,rfl,x1a,x1b,r1,g1⟩
 have D1:DG w b (P+1) 0 0 w1:=⟨grown_trans (ext_gr E1) g1,by simpa using r1⟩;have Z1:=gr_blk g1 Z (by omega);clear Z E1 h r1 g1;go_wp2_with fail
 refine(pick_c b _ 3 _ D1.2 (by omega) (by omega) (by omega)).mono ?_
 rintro e w2 ⟨x2,rfl,x2a,x2b,r2,g2⟩
 have D2:DG w b (P+2) 0 0 w2:=⟨grown_trans D1.1 g2,r2.mono (by omega)⟩;have Z2:=gr_blk g2 Z1 (by omega);clear D1 Z1 r2 g2;go_wp2_with fail
 refine(pick_c b _ 4 _ D2.2 (by omega) (by omega) (by omega)).mono ?_
 rintro e w3 ⟨x3,rfl,x3a,x3b,r3,g3⟩
 have D3:DG w b (P+3) 0 0 w3:=⟨grown_trans D2.1 g3,r3.mono (by omega)⟩;have Z3:=gr_blk g3 Z2 (by omega);clear D2 Z2 r3 g3;go_wp2_with fail
 refine(pick_c b _ 3 _ D3.2 (by omega) (by omega) (by omega)).mono ?_
 rintro e w4 ⟨x4,rfl,x4a,x4b,r4,g4⟩
 have D4:DG w b (P+4) 0 0 w4:=⟨grown_trans D3.1 g4,r4.mono (by omega)⟩;have Z4:=gr_blk g4 Z3 (by omega);clear D3 Z3 r4 g4;go_wp2_with fail
 refine(pick_c b _ 2 _ D4.2 (by omega) (by omega) (by omega)).mono ?_
 rintro e w5 ⟨x5,rfl,x5a,x5b,r5,g5⟩
 have D5:DG w b (P+5) 0 0 w5:=⟨grown_trans D4.1 g5,r5.mono (by omega)⟩;have Z5:=gr_blk g5 Z4 (by omega);clear D4 Z4 r5 g5;go_wp2_with fail
 refine(pick_c b _ 256 _ D5.2 (by omega) (by omega) (by omega)).mono ?_
 rintro e w6 ⟨x6,rfl,x6a,x6b,r6,g6⟩
 have D6:DG w b (P+6) 0 0 w6:=⟨grown_trans D5.1 g6,r6.mono (by omega)⟩;have Z6:=gr_blk g6 Z5 (by omega);clear D5 Z5 r6 g6;have h8:IntKind.u8.wrap x6=x6:=wrap8 x6a (by omega);have hs6:=D6.1.size;have e7:=Ext.alloc w6 (.cells #[.int .u8 x6] 5);have o7:=World.ownsRow_lit (base:=w.heap.size) (e:=5) (size:=1) w6 #[.int .u8 x6] 1 hs6 (by unfold maxLen;omega) rfl;have Z7:=e7.blk Z6;go_wp2_with fail
 refine(l20Bytes_c b _ 12 _ (D6.2.ext e7) (by omega) (by omega)).mono ?_
 rintro e w8 ⟨v8,xs,rfl,own8,hxl,hxb,r8,g8⟩
 have D8:DG w b (P+406) 0 0 w8:=⟨grown_trans (grown_ext D6.1 e7) g8,r8.mono (by omega)⟩;have Z8:=gr_blk g8 Z7 (by omega);have o8:=own_gr o7 g8 hblt;obtain⟨a8,c8,rfl⟩:=owns_form own8;have s8:=Sl.of_owns own8;have HX:=Lib.hid hxb;have hs8:=D8.1.size;clear D6 Z6 Z7 o7 e7 own8 r8 g8 hxb;go_wp2_with (at_builtin;refine wpList_apps _ o8 hs8 rfl _ _ 22 rfl (.int .u8 0) 1 Try.underlying22 info_uint8 rfl rfl a8 xs.length c8 _ rfl s8 (by intro u hu;simp at hu;obtain⟨z,-,rfl⟩:=hu;rfl) (by omega) (by omega) ?_;intro v9 w9 own9 gr9;refine Hid.out ?_)
 have D9:=D8.own gr9 (owns_ge o8) hblt;have Z9:=blk_gr Z8 gr9 (by rcases own_ne_blk o8 Z8 (by decide)with h|h;(rw[h];simp);exact h);obtain⟨a9,c9,rfl⟩:=owns_form own9;obtain⟨ds,hds⟩:∃ ds,ds=x6::xs:=⟨_,rfl⟩;have hdl:ds.length=1+xs.length:=by rw[hds];simp;omega
 have hdb:bys ds:=by
  rw[hds];intro z hz;rcases List.mem_cons.1 hz with rfl|hz
  ·exact⟨x6a,by omega⟩
  ·exact HX.out z hz
 have o9:w9.ownsRow w.heap.size 5 1 (.slice a9 ds.length c9) ds.length (ds.map (Value.int .u8)):=by
  rw[hdl,hds];exact own9
 rw[←hdl];have hd13:ds.length≤13:=by omega
 have hd1:1≤ds.length:=by omega
 have HB:=Lib.hid hdb;have hs9:=D9.1.size;clear o8 s8 HX hxl D8 Z8 own9 gr9 hds hdl hdb hs8;refine Lib.hid ?_;obtain⟨k5,hk5⟩:∃ k,k=(x5 == 0):=⟨_,rfl⟩;have e10:=Ext.alloc w9 (.cells #[.int .i64 x1,.int .i64 x2,.int .i64 x3,.int .i64 x4,.bool k5,.slice a9 ds.length c9] 32);have Q10:=blk_new w9 (.cells #[.int .i64 x1,.int .i64 x2,.int .i64 x3,.int .i64 x4,.bool k5,.slice a9 ds.length c9] 32);have Z10:=e10.blk Z9;have o10:=owns_ext o9 e10;have D10:DG w b (P+406) 0 0 _:=⟨grown_ext D9.1 e10,D9.2.ext e10⟩;have hk5':=hk5.symm;have hRQ:w.heap.size<w9.heap.size:=lt_of_block Z9;clear D9 Z9 o9 hk5
 by_cases hz:n=0
 ·subst hz;go_wp2_with fail
  refine(odd_0 b 0 _ (by omega)).mono ?_
  rintro e w11 ⟨rfl,rfl⟩
  generalize w9.alloc (.cells #[.int .i64 x1,.int .i64 x2,.int .i64 x3,.int .i64 x4,.bool k5,.slice a9 ds.length c9] 32)=w10 at *;generalize w9.heap.size=Q at *;have W11:=D10;have ZZ:=Lib.hid Z10;have QQ:=Lib.hid Q10;obtain⟨z,m0,m1,m2,m3,m4,m5⟩:=bx6 Q10;obtain⟨q0,q1,q2,q3,q4,q5⟩:=fz6 Q10;obtain⟨z2,n0,n1,n2,n3,n4,n5⟩:=bx6 Z10;obtain⟨f0,f1,f2,f3,f4,f5⟩:=fz6 Z10;have hne:w.heap.size≠Q:=by omega
  clear Z10 Q10;go_wp2_with fail
  refine bodyPost_ret (results_cell_row rfl _ _ w.heap.size 32 #[.int .i64 x1,.int .i64 x2,.int .i64 x3,.int .i64 x4,.bool k5,.slice a9 ds.length c9] (0,0) _ rfl (blk_set6 ZZ.out) Try.underlying32 rfl size_Packet) rfl ?_;have gR:=grown_set6 w10 w.heap.size (.int .i64 x1) (.int .i64 x2) (.int .i64 x3) (.int .i64 x4) (.bool k5) (.slice a9 ds.length c9);have DA:=W11;have DB:=DA.own gR (fun q hq=>by cases hq;exact Nat.le_refl _) hblt;exact⟨⟨x1,x2,x3,x4,k5,ds⟩,a9,c9,rfl,o10.kept gR (own_ne_blk o10 ZZ.out (by decide)),hd13,HB.out,(by unfold pkb;simp only;omega),fun _=>⟨by simp;omega,by simp;omega,by simp;omega,by simp;omega,by simp;omega,by simp;omega,by simp;omega,by simp;omega,hd1,by simp;omega⟩,DB.2.mono (by omega),DB.1⟩
 ·go_wp2_with fail
  refine(odd_c b _ n _ D10.2 (by omega) (by omega) (by omega)).mono ?_
  rintro e w11 ⟨od,rfl,r11,g11⟩
  have D11:DG w b (P+407) 0 0 w11:=⟨grown_trans D10.1 g11,r11.mono (by omega)⟩;have Z11:=gr_blk g11 Z10 (by omega);have Q11:=gr_blk g11 Q10 (by omega);have o11:=own_gr o10 g11 hblt;clear D10 Z10 Q10 o10 r11 g11 e10;generalize w9.heap.size=Q at *;cases od
  ·have ZZ:=Lib.hid Z11;have QQ:=Lib.hid Q11;obtain⟨z,m0,m1,m2,m3,m4,m5⟩:=bx6 Q11;obtain⟨q0,q1,q2,q3,q4,q5⟩:=fz6 Q11;obtain⟨z2,n0,n1,n2,n3,n4,n5⟩:=bx6 Z11;obtain⟨f0,f1,f2,f3,f4,f5⟩:=fz6 Z11;have hne:w.heap.size≠Q:=by omega
   clear Z11 Q11;go_wp2_with fail
   refine bodyPost_ret (results_cell_row rfl _ _ w.heap.size 32 #[.int .i64 x1,.int .i64 x2,.int .i64 x3,.int .i64 x4,.bool k5,.slice a9 ds.length c9] (0,0) _ rfl (blk_set6 ZZ.out) Try.underlying32 rfl size_Packet) rfl ?_;have gR:=grown_set6 w11 w.heap.size (.int .i64 x1) (.int .i64 x2) (.int .i64 x3) (.int .i64 x4) (.bool k5) (.slice a9 ds.length c9);have DA:=D11;have DB:=DA.own gR (fun q hq=>by cases hq;exact Nat.le_refl _) hblt;exact⟨⟨x1,x2,x3,x4,k5,ds⟩,a9,c9,rfl,o11.kept gR (own_ne_blk o11 ZZ.out (by decide)),hd13,HB.out,(by unfold pkb;simp only;omega),fun h=>absurd h hz,DB.2.mono (by omega),DB.1⟩
  ·go_wp2_with fail
   refine(pick_c b _ 4 _ D11.2 (by omega) (by omega) (by omega)).mono ?_
   rintro e w12 ⟨y,rfl,ya,yb,r12,g12⟩
   have D12:DG w b (P+408) 0 0 w12:=⟨grown_trans D11.1 g12,r12.mono (by omega)⟩;have Z12:=gr_blk g12 Z11 (by omega);have Q12:=gr_blk g12 Q11 (by omega);have o12:=own_gr o11 g12 hblt;clear D11 Z11 Q11 o11 r12 g12
   by_cases y0:y=0
   ·subst y0;have e13:=Ext.alloc w12 (.cells #[.int .i64 (-1),.int .i64 10000,.int .i64 9999] 3);have s13:SlR (w12.alloc (.cells #[.int .i64 (-1),.int .i64 10000,.int .i64 9999] 3)) (b+1) (.slice (some ⟨w12.heap.size,0,none⟩) 3 3) 3 (-1) 10000:=⟨_,[-1,10000,9999],rfl,by have:=D12.2.lt;omega,Sl_new _ _ _,by simp⟩;go_wp2_with fail
    refine(pick_c b _ 3 _ (D12.2.ext e13) (by omega) (by omega) (by omega)).mono ?_
    rintro e w14 ⟨u,rfl,ua,ub,r14,g14⟩
    have D14:DG w b (P+409) 0 0 w14:=⟨grown_trans (grown_ext D12.1 e13) g14,r14.mono (by omega)⟩;have s14:=s13.grown g14 (by omega);have Z14:=gr_blk g14 (e13.blk Z12) (by omega);have Q14:=gr_blk g14 (e13.blk Q12) (by omega);have o14:=own_gr (owns_ext o12 e13) g14 hblt;clear D12 e13 s13 r14 g14 Z12 Q12 o12;generalize w12.heap.size=B at *;obtain⟨gg,l,hv,n5,s6,r6⟩:=s14;simp only[Value.slice.injEq,Option.some.injEq,Addr.mk.injEq,and_true]at hv;subst hv;obtain⟨g6,j6,y6,h6,n6,c6,y6a,y6b⟩:=SlR.at n5 s6 r6 (show u.toNat<3 by omega);simp only[Value.pointer.injEq,Option.some.injEq,Addr.mk.injEq,and_true]at h6;obtain⟨rfl,rfl⟩:=h6;clear s6 n6;have ZZ:=Lib.hid Z14;have QQ:=Lib.hid Q14;obtain⟨z,m0,m1,m2,m3,m4,m5⟩:=bx6 Q14;obtain⟨q0,q1,q2,q3,q4,q5⟩:=fz6 Q14;obtain⟨z2,n0,n1,n2,n3,n4,n5⟩:=bx6 Z14;obtain⟨f0,f1,f2,f3,f4,f5⟩:=fz6 Z14;have hne:w.heap.size≠Q:=by omega
    clear Z14 Q14;go_wp2_with fail
    refine bodyPost_ret (results_cell_row rfl _ _ w.heap.size 32 #[.int .i64 y6,.int .i64 x2,.int .i64 x3,.int .i64 x4,.bool k5,.slice a9 ds.length c9] (0,0) _ rfl (blk_set6 (blk_set_other ZZ.out hne)) Try.underlying32 rfl size_Packet) rfl ?_;have gR:=grown_set6 (w14.setCell ⟨Q,0,none⟩ (Value.int .i64 y6)) w.heap.size (.int .i64 y6) (.int .i64 x2) (.int .i64 x3) (.int .i64 x4) (.bool k5) (.slice a9 ds.length c9);have gQ:=grown_set1 w14 Q 0 (Value.int .i64 y6);have DA:=D14.own gQ (fun q hq=>by cases hq;omega) hblt;have DB:=DA.own gR (fun q hq=>by cases hq;exact Nat.le_refl _) hblt;exact⟨⟨y6,x2,x3,x4,k5,ds⟩,a9,c9,rfl,(o14.kept gQ (own_ne_blk o14 QQ.out (by decide))).kept gR (own_ne_blk (o14.kept gQ (own_ne_blk o14 QQ.out (by decide))) (blk_set_other ZZ.out hne) (by decide)),hd13,HB.out,(by unfold pkb;simp only;omega),fun h=>absurd h hz,DB.2.mono (by omega),DB.1⟩
   ·by_cases y1:y=1
    ·subst y1;have e13:=Ext.alloc w12 (.cells #[.int .i64 (-1),.int .i64 4] 3);have s13:SlR (w12.alloc (.cells #[.int .i64 (-1),.int .i64 4] 3)) (b+1) (.slice (some ⟨w12.heap.size,0,none⟩) 2 2) 2 (-1) 4:=⟨_,[-1,4],rfl,by have:=D12.2.lt;omega,Sl_new _ _ _,by simp⟩;go_wp2_with fail
     refine(pick_c b _ 2 _ (D12.2.ext e13) (by omega) (by omega) (by omega)).mono ?_
     rintro e w14 ⟨u,rfl,ua,ub,r14,g14⟩
     have D14:DG w b (P+409) 0 0 w14:=⟨grown_trans (grown_ext D12.1 e13) g14,r14.mono (by omega)⟩;have s14:=s13.grown g14 (by omega);have Z14:=gr_blk g14 (e13.blk Z12) (by omega);have Q14:=gr_blk g14 (e13.blk Q12) (by omega);have o14:=own_gr (owns_ext o12 e13) g14 hblt;clear D12 e13 s13 r14 g14 Z12 Q12 o12;generalize w12.heap.size=B at *;obtain⟨gg,l,hv,n5,s6,r6⟩:=s14;simp only[Value.slice.injEq,Option.some.injEq,Addr.mk.injEq,and_true]at hv;subst hv;obtain⟨g6,j6,y6,h6,n6,c6,y6a,y6b⟩:=SlR.at n5 s6 r6 (show u.toNat<2 by omega);simp only[Value.pointer.injEq,Option.some.injEq,Addr.mk.injEq,and_true]at h6;obtain⟨rfl,rfl⟩:=h6;clear s6 n6;have ZZ:=Lib.hid Z14;have QQ:=Lib.hid Q14;obtain⟨z,m0,m1,m2,m3,m4,m5⟩:=bx6 Q14;obtain⟨q0,q1,q2,q3,q4,q5⟩:=fz6 Q14;obtain⟨z2,n0,n1,n2,n3,n4,n5⟩:=bx6 Z14;obtain⟨f0,f1,f2,f3,f4,f5⟩:=fz6 Z14;have hne:w.heap.size≠Q:=by omega
     clear Z14 Q14;go_wp2_with fail
     refine bodyPost_ret (results_cell_row rfl _ _ w.heap.size 32 #[.int .i64 x1,.int .i64 x2,.int .i64 y6,.int .i64 x4,.bool k5,.slice a9 ds.length c9] (0,0) _ rfl (blk_set6 (blk_set_other ZZ.out hne)) Try.underlying32 rfl size_Packet) rfl ?_;have gR:=grown_set6 (w14.setCell ⟨Q,2,none⟩ (Value.int .i64 y6)) w.heap.size (.int .i64 x1) (.int .i64 x2) (.int .i64 y6) (.int .i64 x4) (.bool k5) (.slice a9 ds.length c9);have gQ:=grown_set1 w14 Q 2 (Value.int .i64 y6);have DA:=D14.own gQ (fun q hq=>by cases hq;omega) hblt;have DB:=DA.own gR (fun q hq=>by cases hq;exact Nat.le_refl _) hblt;exact⟨⟨x1,x2,y6,x4,k5,ds⟩,a9,c9,rfl,(o14.kept gQ (own_ne_blk o14 QQ.out (by decide))).kept gR (own_ne_blk (o14.kept gQ (own_ne_blk o14 QQ.out (by decide))) (blk_set_other ZZ.out hne) (by decide)),hd13,HB.out,(by unfold pkb;simp only;omega),fun h=>absurd h hz,DB.2.mono (by omega),DB.1⟩
    ·by_cases y2:y=2
     ·subst y2;have e13:=Ext.alloc w12 (.cells #[.int .i64 (-1),.int .i64 256,.int .i64 255] 3);have s13:SlR (w12.alloc (.cells #[.int .i64 (-1),.int .i64 256,.int .i64 255] 3)) (b+1) (.slice (some ⟨w12.heap.size,0,none⟩) 3 3) 3 (-1) 256:=⟨_,[-1,256,255],rfl,by have:=D12.2.lt;omega,Sl_new _ _ _,by simp⟩;go_wp2_with fail
      refine(pick_c b _ 3 _ (D12.2.ext e13) (by omega) (by omega) (by omega)).mono ?_
      rintro e w14 ⟨u,rfl,ua,ub,r14,g14⟩
      have D14:DG w b (P+409) 0 0 w14:=⟨grown_trans (grown_ext D12.1 e13) g14,r14.mono (by omega)⟩;have s14:=s13.grown g14 (by omega);have Z14:=gr_blk g14 (e13.blk Z12) (by omega);have Q14:=gr_blk g14 (e13.blk Q12) (by omega);have o14:=own_gr (owns_ext o12 e13) g14 hblt;clear D12 e13 s13 r14 g14 Z12 Q12 o12;generalize w12.heap.size=B at *;obtain⟨gg,l,hv,n5,s6,r6⟩:=s14;simp only[Value.slice.injEq,Option.some.injEq,Addr.mk.injEq,and_true]at hv;subst hv;obtain⟨g6,j6,y6,h6,n6,c6,y6a,y6b⟩:=SlR.at n5 s6 r6 (show u.toNat<3 by omega);simp only[Value.pointer.injEq,Option.some.injEq,Addr.mk.injEq,and_true]at h6;obtain⟨rfl,rfl⟩:=h6;clear s6 n6;have ZZ:=Lib.hid Z14;have QQ:=Lib.hid Q14;obtain⟨z,m0,m1,m2,m3,m4,m5⟩:=bx6 Q14;obtain⟨q0,q1,q2,q3,q4,q5⟩:=fz6 Q14;obtain⟨z2,n0,n1,n2,n3,n4,n5⟩:=bx6 Z14;obtain⟨f0,f1,f2,f3,f4,f5⟩:=fz6 Z14;have hne:w.heap.size≠Q:=by omega
      clear Z14 Q14;go_wp2_with fail
      refine bodyPost_ret (results_cell_row rfl _ _ w.heap.size 32 #[.int .i64 x1,.int .i64 x2,.int .i64 x3,.int .i64 y6,.bool k5,.slice a9 ds.length c9] (0,0) _ rfl (blk_set6 (blk_set_other ZZ.out hne)) Try.underlying32 rfl size_Packet) rfl ?_;have gR:=grown_set6 (w14.setCell ⟨Q,3,none⟩ (Value.int .i64 y6)) w.heap.size (.int .i64 x1) (.int .i64 x2) (.int .i64 x3) (.int .i64 y6) (.bool k5) (.slice a9 ds.length c9);have gQ:=grown_set1 w14 Q 3 (Value.int .i64 y6);have DA:=D14.own gQ (fun q hq=>by cases hq;omega) hblt;have DB:=DA.own gR (fun q hq=>by cases hq;exact Nat.le_refl _) hblt;exact⟨⟨x1,x2,x3,y6,k5,ds⟩,a9,c9,rfl,(o14.kept gQ (own_ne_blk o14 QQ.out (by decide))).kept gR (own_ne_blk (o14.kept gQ (own_ne_blk o14 QQ.out (by decide))) (blk_set_other ZZ.out hne) (by decide)),hd13,HB.out,(by unfold pkb;simp only;omega),fun h=>absurd h hz,DB.2.mono (by omega),DB.1⟩
     ·obtain rfl:y=3:=by omega
      have hQlt:=lt_of_block Q12;have ZZ:=Lib.hid Z12;have QQ:=Lib.hid Q12;obtain⟨z,m0,m1,m2,m3,m4,m5⟩:=bx6 Q12;obtain⟨q0,q1,q2,q3,q4,q5⟩:=fz6 Q12;obtain⟨z2,n0,n1,n2,n3,n4,n5⟩:=bx6 Z12;obtain⟨f0,f1,f2,f3,f4,f5⟩:=fz6 Z12;have hne:w.heap.size≠Q:=by omega
      clear Z12 Q12;go_wp2_with fail
      refine bodyPost_ret (results_cell_row rfl _ _ w.heap.size 32 #[.int .i64 x1,.int .i64 x2,.int .i64 x3,.int .i64 x4,.bool k5,.slice none 0 0] (0,0) _ rfl (blk_set6 (blk_set_other ZZ.out hne)) Try.underlying32 rfl size_Packet) rfl ?_;have gR:=grown_set6 (w12.setCell ⟨Q,5,none⟩ (Value.slice none 0 0)) w.heap.size (.int .i64 x1) (.int .i64 x2) (.int .i64 x3) (.int .i64 x4) (.bool k5) (.slice none 0 0);have gQ:=grown_set1 w12 Q 5 (Value.slice none 0 0);have DA:=D12.own gQ (fun q hq=>by cases hq;omega) hblt;have DB:=DA.own gR (fun q hq=>by cases hq;exact Nat.le_refl _) hblt;exact⟨⟨x1,x2,x3,x4,k5,[]⟩,none,0,rfl,World.ownsRow_nil _ _ _ _,by simp,by intro z hz;simp at hz,(by unfold pkb;simp only;omega),fun h=>absurd h hz,DB.2.mono (by omega),DB.1⟩
end Go.Proofs.Ytphfacfjhjcllaa
namespace Go.Proofs.Ytphfacfjhjcllaa

open Go.RowKit
end Go.Proofs.Ytphfacfjhjcllaa
namespace Go.Proofs.Ytphfacfjhjcllaa
open Go.RowKit
/-- The i-th packet. -/
def kget (L:List Pkt) (i:Nat):Pkt:=L.getD i pkt0
theorem kget_eq (L:List Pkt) (i:Nat) (h:i<L.length):kget L i=L[i]:=by simp[kget,h]
/-- The six cells at b, o read as a packet whose data lies in no block below g. -/
def PktAt (g:Nat) (w:World) (b o:Nat) (x:Pkt):Prop :=
 ∃(a:Option Addr) (n c:Nat),(w.cell? ⟨b,o,none⟩=some (.int .i64 x.num)∧w.cell? ⟨b,o+1,none⟩=some (.int .i64 x.fr)∧w.cell? ⟨b,o+2,none⟩=some (.int .i64 x.row)∧w.cell? ⟨b,o+3,none⟩=some (.int .i64 x.part)∧w.cell? ⟨b,o+4,none⟩=some (.bool x.last)∧w.cell? ⟨b,o+5,none⟩=some (.slice a n c))∧Sl w a n (x.data.map (Value.int .u8))∧n≤c∧c≤maxLen∧∀ y,a=some y→g≤y.block
/-- The slice at a of n packets reads as L. -/
def KP (w:World) (a:Option Addr) (n:Nat) (L:List Pkt):Prop :=
 L.length=n∧∀ i,i<n→∃ b off,a=some ⟨b,off,none⟩∧PktAt 0 w b (off+i*6) (kget L i)
theorem PktAt.ext {g:Nat} {w w':World} {b o:Nat} {x:Pkt} (h:PktAt g w b o x) (e:Ext w w'):PktAt g w' b o x:=by
 obtain⟨a,n,c,⟨h1,h2,h3,h4,h5,h6⟩,h7,h8,h9,h10⟩:=h;exact⟨a,n,c,⟨cell_ext e h1,cell_ext e h2,cell_ext e h3,cell_ext e h4,cell_ext e h5,cell_ext e h6⟩,h7.ext e,h8,h9,h10⟩
theorem PktAt.mono {g g':Nat} {w:World} {b o:Nat} {x:Pkt} (h:PktAt g w b o x) (hg:g'≤g):PktAt g' w b o x:=by
 obtain⟨a,n,c,h1,h4,h5,h6,h7⟩:=h;exact⟨a,n,c,h1,h4,h5,h6,fun y hy=>Nat.le_trans hg (h7 y hy)⟩
theorem KP.ext {w w':World} {a:Option Addr} {n:Nat} {L:List Pkt} (h:KP w a n L) (e:Ext w w'):KP w' a n L:=by
 refine⟨h.1,fun i hi => ?_⟩;obtain⟨b,off,ha,hs⟩:=h.2 i hi;exact⟨b,off,ha,hs.ext e⟩
/-- The world with the six cells of a packet written. -/
def put6 (w:World) (g o:Nat) (u0 u1 u2 u3 u4 u5:Value):World:=(((((w.setCell ⟨g,o,none⟩ u0).setCell ⟨g,o+1,none⟩ u1).setCell ⟨g,o+2,none⟩ u2).setCell ⟨g,o+3,none⟩ u3).setCell ⟨g,o+4,none⟩ u4).setCell ⟨g,o+5,none⟩ u5
theorem grown_st1 (w:World) (g o:Nat) (u:Value):w.grownBy (w.setCell ⟨g,o,none⟩ u) (some g):=⟨rfl,rfl,rfl,by simp,fun k _ hk=>heap_setCell_other w ⟨g,o,none⟩ k u (fun e=>hk (by simp[e]))⟩
theorem put6_grown (w:World) (g o:Nat) (u0 u1 u2 u3 u4 u5:Value):w.grownBy (put6 w g o u0 u1 u2 u3 u4 u5) (some g) :=
 grownBy_trans (grownBy_trans (grownBy_trans (grownBy_trans (grownBy_trans (grown_st1 _ _ _ _) (grown_st1 _ _ _ _)) (grown_st1 _ _ _ _)) (grown_st1 _ _ _ _)) (grown_st1 _ _ _ _)) (grown_st1 _ _ _ _)
theorem Sl.put6 {w:World} {g o n:Nat} {a:Option Addr} {xs:List Value} {u0 u1 u2 u3 u4 u5:Value} (h:Sl w a n xs) (hg:∀ y,a=some y→g+1≤y.block):Sl (put6 w g o u0 u1 u2 u3 u4 u5) a n xs :=
 h.grown (put6_grown w g o u0 u1 u2 u3 u4 u5) (fun x hx e=>by have:=hg x hx;simp at e;omega)
end Go.Proofs.Ytphfacfjhjcllaa
namespace Go.Proofs.Ytphfacfjhjcllaa
open Go.RowKit Go.Maps
/-- The numbers of packets. -/
def nums (L:List Pkt):List Int:=L.map Pkt.num
theorem contains_snoc (xs:List Int) (x z:Int):(xs ++ [x]).contains z=(xs.contains z || (x == z)):=by
 by_cases h:z=x
 ·subst h;simp
 ·have h2:(x == z)=false:=by simp;exact fun e=>h e.symm
  rw[h2];simp[h]
/-- The numbers of m ones from lo on that are not in N. -/
def misL (N:List Int) (lo:Int) (m:Nat):List Int:=((List.range m).map (fun i:Nat=>lo+(i:Int))).filter (fun n => !(N.contains n))
/-- What MissingNumbers returns. -/
def miss (L:List Pkt) (lo hi:Int):List Int:=if 0≤lo∧hi≤9999 then misL (nums L) lo (hi-lo+1).toNat else []
/-- The map D has just the keys of N. -/
def Seen (D:DataW Unit) (N:List Int):Prop:=IsMap D∧∀ z:Int,D.atKey (.int .i64 z) (.lit (.bool false)) = .lit (.bool (N.contains z))
theorem Seen.nil : Seen (.map []) []:=⟨isMap_empty,fun z=>rfl⟩
theorem Seen.snoc {D:DataW Unit} {N:List Int} (h:Seen D N) (x:Int):Seen (D.put (.int .i64 x) (.lit (.bool true))) (N ++ [x]):=by
 refine⟨h.1.put _ _,fun z => ?_⟩;rw[contains_snoc]
 by_cases e:z=x
 ·subst e;rw[atKey_put_same h.1 ?_]
  ·simp
  ·simp[WideAt.IsKeyLit]
 ·rw[atKey_put_other (by simpa using e),h.2 z];have h2:(x == z)=false:=by simp;exact fun e'=>e e'.symm
  rw[h2];simp
theorem wf_small {z:Int} (h1 : -1099511627776≤z) (h2:z≤1099511627776):(Lit.int .i64 z).wf=true:=by
 have a:IntKind.i64.min = -9223372036854775808:=rfl;have b:IntKind.i64.max=9223372036854775807:=rfl;simp only[Lit.wf,a,b,Bool.and_eq_true,decide_eq_true_eq];omega
end Go.Proofs.Ytphfacfjhjcllaa
namespace Go.Proofs.Ytphfacfjhjcllaa
open Go.RowKit
/-- The six values from o on are the packet p. -/
def RK (cs:List Value) (o:Nat) (p:Pkt) (a:Option Addr) (c:Nat):Prop :=
 cs[o]?=some (.int .i64 p.num)∧cs[o+1]?=some (.int .i64 p.fr)∧cs[o+2]?=some (.int .i64 p.row)∧cs[o+3]?=some (.int .i64 p.part)∧cs[o+4]?=some (.bool p.last)∧cs[o+5]?=some (.slice a p.data.length c)
/-- A small packet. -/
def pkS (p:Pkt):Prop:=pkb p∧p.data.length≤60004∧bys p.data
/-- A list of k packets of the call's own, which reads as x. -/
def PQ (w:World) (H:Nat) (v:Value) (k:Nat) (x:Nat→Pkt) (cs:List Value):Prop :=
 w.ownsRow H 32 6 v k cs∧∀ i,i<k→(∃ a c,RK cs (i*6) (x i) a c∧BA w a c (x i).data)∧pkS (x i)
theorem BA.rd {w w':World} {a:Option Addr} {c b P:Nat} {xs:List Int} (h:BA w a c xs) (r:RdP w b P) (g:w.grownBy w' (some b)):BA w' a c xs:=by
 obtain⟨arr,hb⟩:=r.blk;exact h.gr g hb (by decide)
theorem PQ.rd {w w':World} {H k b P:Nat} {v:Value} {x:Nat→Pkt} {cs:List Value} (h:PQ w H v k x cs) (r:RdP w b P) (g:w.grownBy w' (some b)) (hb:b<H):PQ w' H v k x cs:=⟨own_gr h.1 g hb,fun i hi=>by
 obtain⟨⟨a,c,h1,h2⟩,h4⟩:=h.2 i hi;exact⟨⟨a,c,h1,h2.rd r g⟩,h4⟩⟩
theorem PQ.ext {w w':World} {H k:Nat} {v:Value} {x:Nat→Pkt} {cs:List Value} (h:PQ w H v k x cs) (e:Ext w w'):PQ w' H v k x cs:=⟨owns_ext h.1 e,fun i hi=>by
 obtain⟨⟨a,c,h1,h2⟩,h4⟩:=h.2 i hi;exact⟨⟨a,c,h1,h2.ext e⟩,h4⟩⟩
theorem PQ.low {w:World} {H H' k:Nat} {v:Value} {x:Nat→Pkt} {cs:List Value} (h:PQ w H v k x cs) (e:H'≤H):PQ w H' v k x cs:=⟨owns_mono h.1 e,h.2⟩
def fk (x:Nat→Pkt) (k:Nat) (y:Pkt) (i:Nat):Pkt:=if i<k then x i else y
theorem fk_lt {x:Nat→Pkt} {k i:Nat} {y:Pkt} (h:i<k):fk x k y i=x i:=if_pos h
theorem fk_eq {x:Nat→Pkt} {k:Nat} {y:Pkt} : fk x k y k=y:=if_neg (Nat.lt_irrefl k)
theorem PQ.app {w w':World} {H k c1:Nat} {v v':Value} {x:Nat→Pkt} {cs:List Value} {y:Pkt} {a1:Option Addr} (h:PQ w H v k x cs) (o:w'.ownsRow H 32 6 v' (k+1) (cs ++ [.int .i64 y.num,.int .i64 y.fr,.int .i64 y.row,.int .i64 y.part,.bool y.last,.slice a1 y.data.length c1])) (g:w.grownBy w' v.ownBlock)
 (hs:BA w a1 c1 y.data) (hf:pkS y):PQ w' H v' (k+1) (fk x k y) (cs ++ [.int .i64 y.num,.int .i64 y.fr,.int .i64 y.row,.int .i64 y.part,.bool y.last,.slice a1 y.data.length c1]):=by
 have hl:cs.length=k*6:=h.1.1;refine⟨o,fun i hi => ?_⟩
 by_cases e:i=k
 ·subst e;rw[fk_eq];refine⟨⟨a1,c1,⟨?_,?_,?_,?_,?_,?_⟩,hs.own h.1 (by decide) g⟩,hf⟩ <;> (rw[←hl,List.getElem?_append_right (by omega)];simp)
 ·rw[fk_lt (by omega)];obtain⟨⟨a,c,⟨k1,k2,k3,k4,k5,k6⟩,h2⟩,h4⟩:=h.2 i (by omega);refine⟨⟨a,c,⟨?_,?_,?_,?_,?_,?_⟩,h2.own h.1 (by decide) g⟩,h4⟩ <;> (rw[List.getElem?_append_left (by omega)];assumption)
def pkl (n:Nat) (x:Nat→Pkt):List Pkt:=(List.range n).map x
theorem pkl_len (n:Nat) (x:Nat→Pkt):(pkl n x).length=n:=by simp[pkl]
theorem kget_pkl {n i:Nat} (x:Nat→Pkt) (hi:i<n):kget (pkl n x) i=x i:=by simp[kget,pkl,hi]
theorem PQ.cells {w:World} {H n c:Nat} {a:Option Addr} {x:Nat→Pkt} {cs:List Value} (h:PQ w H (.slice a n c) n x cs) {i:Nat} (hi:i<n) :
 ∃ g a2 c2,a=some ⟨g,0,none⟩∧(w.cell? ⟨g,i*6,none⟩=some (.int .i64 (x i).num)∧w.cell? ⟨g,i*6+1,none⟩=some (.int .i64 (x i).fr)∧w.cell? ⟨g,i*6+2,none⟩=some (.int .i64 (x i).row)∧w.cell? ⟨g,i*6+3,none⟩=some (.int .i64 (x i).part)∧w.cell? ⟨g,i*6+4,none⟩=some (.bool (x i).last)∧w.cell? ⟨g,i*6+5,none⟩=some (.slice a2 (x i).data.length c2))∧BA w a2 c2 (x i).data∧pkS (x i):=by
 obtain⟨⟨a2,c2,⟨k1,k2,k3,k4,k5,k6⟩,h2⟩,h4⟩:=h.2 i hi;have h1:=h.1;rcases id h1.2 with⟨hv,hn⟩|⟨g,cap,cur,hv,-⟩
 ·omega
 ·simp only[Value.slice.injEq]at hv;obtain⟨rfl,-,rfl⟩:=hv;refine⟨g,a2,c2,rfl,⟨?_,?_,?_,?_,?_,?_⟩,h2,h4⟩;all_goals (rw[h1.cellAt _ (by omega)];assumption)
theorem PQ.kp {w:World} {H n c:Nat} {a:Option Addr} {x:Nat→Pkt} {cs:List Value} (h:PQ w H (.slice a n c) n x cs):KP w a n (pkl n x):=by
 refine⟨pkl_len _ _,fun i hi => ?_⟩;rw[kget_pkl x hi];obtain⟨g,a2,c2,rfl,⟨k1,k2,k3,k4,k5,k6⟩,hb,-⟩:=h.cells hi;refine⟨g,0,rfl,a2,_,c2,⟨?_,?_,?_,?_,?_,?_⟩,hb.sl,hb.1.1,hb.1.2,fun _ _=>Nat.zero_le _⟩;all_goals (rw[Nat.zero_add];assumption)
theorem PQ.wf {w:World} {H n:Nat} {v:Value} {x:Nat→Pkt} {cs:List Value} (h:PQ w H v n x cs):∀ p∈pkl n x,pkS p:=by
 intro p hp;obtain⟨i,hi,rfl⟩:=List.mem_map.1 hp;exact(h.2 i (by simpa using hi)).2
theorem wpList_app6 {P:Program} (wr:World) {ops:Array Oper} {rest:List Oper} {o:Oper} {a:Act} {Q:Exit→Act→World→Prop} {base e:Nat} {v:Value} {n:Nat} {xs:List Value}
 (hown:wr.ownsRow base e 6 v n xs) (hbase:base≤wr.heap.size) (u0 u1 u2 u3 u4 u5:Value)
 (hg:o.guard=none) (s x:Operand) (t:TypeId) (ho:o.op= .call { callee := .builtin .append,args := #[s,x],argTypes := #[t,t] })
 (z:Value) (bytes:Nat) (h1:P.underlying t=some (.slice e)) (h2:(P.info? e).map (fun i=>(i.zero,i.size,i.bytes))=some (some z,6,bytes)) (hz1:z.cells.size=6)
 (hs:a.eval s=v) (hx:a.eval x= .slice (some ⟨wr.heap.size,0,none⟩) 1 1) (hu1:∀ u ∈ [u0,u1,u2,u3,u4,u5],u.oneCell'=true)
 (hb:(n+1)*bytes≤140737488355328) (hn:n<2^62)
 (h:∀ v' w',w'.ownsRow base e 6 v' (n+1) (xs ++ [u0,u1,u2,u3,u4,u5])→wr.grownBy w' v.ownBlock→wpList P ops Q rest (a.put o.dst v') w'):wpList P ops Q (o::rest) a (wr.alloc (.cells #[u0,u1,u2,u3,u4,u5] e)):=by
 obtain⟨i0,hi,hz0,hz1',hz2⟩:=info_parts h2;refine wpList_append_own _ hg s x t ho base e i0 z 6 bytes h1 hi hz0 hz1' hz2 hz1 (by decide) v n xs hs (hown.alloc _) ⟨wr.heap.size,0,none⟩ 1 1 [u0,u1,u2,u3,u4,u5] hx rfl ?_ hu1 (by unfold maxLen;omega) hb (by simp;omega) ?_
 ·intro j q hq
  match j,hq with
  | 0,hq=>simp at hq;subst hq;simp[Addr.add,World.cell?_alloc_at]
  | 1,hq=>simp at hq;subst hq;simp[Addr.add,World.cell?_alloc_at]
  | 2,hq=>simp at hq;subst hq;simp[Addr.add,World.cell?_alloc_at]
  | 3,hq=>simp at hq;subst hq;simp[Addr.add,World.cell?_alloc_at]
  | 4,hq=>simp at hq;subst hq;simp[Addr.add,World.cell?_alloc_at]
  | 5,hq=>simp at hq;subst hq;simp[Addr.add,World.cell?_alloc_at]
  | n+6,hq=>simp at hq
 ·intro v' w' a1 a2 _;exact h v' w' a1 (grownBy_trans (World.grownBy_alloc _ _ _) a2)
/-- What MakePackets answers. -/
def MkR (w:World) (H:Nat) (e:Ending) (w':World):Prop :=
 ∃(k:Nat) (x:Nat→Pkt) (a:Option Addr) (c:Nat) (cs:List Value),e= .returned (.slice a k c)∧k≤10000∧PQ w' H (.slice a k c) k x cs∧Ext w w'
theorem nil_PQ (w:World) (H:Nat) (v:Value) (h:w.ownsRow H 32 6 v 0 []):PQ w H v 0 (fun _=>pkt0) []:=⟨h,fun i hi=>by omega⟩
theorem seg_len {xs:List Int} {p m:Nat} (h:p+m≤xs.length):((xs.drop p).take m).length=m:=by simp;omega
theorem seg_bys {xs:List Int} {p m:Nat} (h:∀ z∈xs,0≤z∧z≤255):bys ((xs.drop p).take m):=fun z hz=>h z (List.mem_of_mem_drop (List.mem_of_mem_take hz))
theorem seg_sl {w:World} {b o n:Nat} {xs:List Int} (s:Sl w (some ⟨b,o,none⟩) n (xs.map (Value.int .u8))) {p m:Nat} (h:p+m≤n):Sl w (some ⟨b,o+p,none⟩) m (((xs.drop p).take m).map (Value.int .u8)):=by
 have hl:=s.int_len;refine⟨by simp;omega,fun j hj => ?_⟩;obtain⟨b',off',h1,h2⟩:=s.int (show p+j<n by omega);simp only[Option.some.injEq,Addr.mk.injEq,and_true]at h1;obtain⟨rfl,rfl⟩:=h1;refine⟨_,_,rfl,?_⟩;rw[Nat.add_assoc,h2,getD_map_int _ _ _ (by simp;omega)];simp only[nth,List.getD_eq_getElem?_getD,List.getElem?_take,hj,↓reduceIte,List.getElem?_drop]
theorem spec_MakePackets_any (W H qv:Int) (ib:Bool) (a:Option Addr) (n c:Nat) (f:Nat→List Int) (size:Int) (w:World) (hq:SQ w a n f) (hf:okF f n) (hn:n≤3) (hz1:1≤size) (hz2:size≤200) :
 Calls Try.prog 22 #[.agg #[.int .i64 W,.int .i64 H,.bool ib,.int .i64 qv,.slice a n c],.int .i64 1,.int .i64 0,.int .i64 size] w (MkR w w.heap.size):=by
 have e1:=Ext.alloc w (.cells #[.int .i64 W,.int .i64 H,.bool ib,.int .i64 qv,.slice a n c] 41);have B1:=blk_new w (.cells #[.int .i64 W,.int .i64 H,.bool ib,.int .i64 qv,.slice a n c] 41);have HF:=Lib.hid hf;clear hf;have e2:=Ext.alloc (w.alloc (.cells #[.int .i64 W,.int .i64 H,.bool ib,.int .i64 qv,.slice a n c] 41)) (.cells #[] 32);have oA:=World.ownsRow_made (base:=w.heap.size) (e:=32) (size:=6) (w.alloc (.cells #[.int .i64 W,.int .i64 H,.bool ib,.int .i64 qv,.slice a n c] 41)) #[] 0 (by simp) (by simp) rfl;have E2:=e1.trans e2;have B2:=e2.blk B1;simp only[World.size_alloc]at oA;clear e1 B1 e2;go_enter Try.func22,Try.ntmps22
 go_wp2_with fail
 refine(spec_CodedValid_b W H qv ib a n c f _ (hq.ext E2) HF.out (by omega)).mono ?_
 rintro e w3 ⟨b3,rfl,e3⟩
 have E3:=E2.trans e3;have B3:=e3.blk B2;have o3:=owns_ext oA e3;clear E2 B2 oA e3;obtain⟨B,hB⟩:∃ B,B=w.heap.size:=⟨_,rfl⟩;have o3':=o3;rw[←hB]at B3 o3'⊢;have hBw:w.heap.size≤B:=by omega
 replace o3:w3.ownsRow w.heap.size 32 6 (.slice (some ⟨B+1,0,none⟩) 0 0) 0 []:=owns_mono o3' hBw
 clear o3';have HB:=Lib.hid hB;clear hB;cases b3
 ·go_wp2;go_ret
  exact⟨0,_,_,_,_,rfl,by omega,nil_PQ _ _ _ o3,E3⟩
 go_wp2_with fail
 refine(l1In_yes _ _ _ _ (by omega) (by omega)).mono ?_
 rintro e w4 ⟨rfl,rfl⟩
 go_wp2_with fail
 refine(l1In_yes _ _ _ _ (by omega) (by omega)).mono ?_
 rintro e w4 ⟨rfl,rfl⟩
 go_wp2_with fail
 refine(l1In_yes _ _ _ _ (by omega) (by omega)).mono ?_
 rintro e w4 ⟨rfl,rfl⟩
 have Q3:=nil_PQ _ _ _ o3;clear o3;obtain⟨sz,rfl⟩:=Int.eq_ofNat_of_zero_le (show 0≤size by omega);have hs1:1≤sz:=by omega
 have hs2:sz≤200:=by omega
 clear hz1 hz2;go_wp2_with fail
 go_loopw [9,10] (fun v y wr=>∃(r k:Nat) (x:Nat→Pkt) (cs:List Value),r≤n∧y= .int .i64 (r:Nat)∧Ext w wr∧wr.heap[B]?=some (.cells #[.int .i64 W,.int .i64 H,.bool ib,.int .i64 qv,.slice a n c] 41 (0,0))∧k≤10000∧PQ wr w.heap.size v k x cs) (fun _ y _=>n-(intOf y).toNat)
 case atStart=>exact⟨0,0,_,_,by omega,rfl,E3,B3,by omega,Q3⟩
 case round =>
  clear E3 B3 Q3;obtain⟨r,k,x,cs,hr,rfl,E4,B4,hk,Q4⟩:=hrel;obtain⟨a4,c4,rfl⟩:=owns_form Q4.1;obtain⟨-,k0,k1,k2,k3,k4⟩:=bx5 B4
  by_cases hlt:r<n
  ·obtain⟨b1,o1,a2,c2,rfl,u1,v1⟩:=(hq.ext E4).cell hlt;have hrn:(r:Int)<n:=by omega
   have hfr:=HF.out r hlt;obtain⟨zs,hzs⟩:∃ zs,zs=f r:=⟨_,rfl⟩;rw[←hzs]at u1 v1 hfr;obtain⟨m,hm⟩:∃ m,m=zs.length:=⟨_,rfl⟩;rw[←hm]at u1 hfr;have hm6:=hfr.1;have hcc:=v1.1;have HV:=Lib.hid v1;have HZ:=Lib.hid hfr.2;have HM:=Lib.hid hm;rw[←hm]at hcc;clear hzs hfr v1 hm;go_wp2_with fail
   go_loopw [9,12] (fun v y wr2=>∃(pos k:Nat) (x:Nat→Pkt) (cs:List Value),pos≤m+200∧y= .int .i64 (pos:Nat)∧Ext w wr2∧BA wr2 a2 c2 zs∧wr2.heap[B]?=some (.cells #[.int .i64 W,.int .i64 H,.bool ib,.int .i64 qv,.slice (some ⟨b1,o1,none⟩) n c] 41 (0,0))∧k≤10000∧PQ wr2 w.heap.size v k x cs) (fun _ y _=>m+200-(intOf y).toNat)
   case atStart=>exact⟨0,k,x,cs,by omega,rfl,E4,HV.out,B4,hk,Q4⟩
   case round =>
    clear Q4 k0 k1 k2 k3 k4 u1 hk HV E4 B4;obtain⟨pos,k1,pf,cs1,hp,rfl,E5,v5,B5,hk,Q5⟩:=hrel;have HV:=Lib.hid v5;clear v5;obtain⟨a5,c5,rfl⟩:=owns_form Q5.1
    by_cases hpm:pos<m
    ·obtain⟨En,hEn⟩:∃ e,e=min m (pos+sz):=⟨_,rfl⟩;have HE:=Lib.hid (show min (m:Int) ((pos:Int)+(sz:Int))=(En:Int) by omega);obtain⟨M,hM⟩:∃ M,M=En-pos:=⟨_,rfl⟩;have hM1:1≤M:=by omega
     have hM2:M≤200:=by omega
     have hEM:En=pos+M:=by omega
     have hEm:En≤m:=by omega
     clear hM hEn;obtain⟨b2,o2,rfl,-⟩:=HV.out.sl.int (show 0<zs.length by rw[←HM.out];omega);have sds:=seg_sl (p:=pos) (m:=M) HV.out.sl (by rw[←HM.out];omega);have hdl:((zs.drop pos).take M).length=M:=seg_len (by rw[←HM.out];omega);have hdb:bys ((zs.drop pos).take M):=seg_bys HZ.out;obtain⟨ds,hds⟩:∃ ds,ds=(zs.drop pos).take M:=⟨_,rfl⟩;rw[←hds]at sds hdl hdb;have Hsds:=Lib.hid sds;have Hdl:=Lib.hid hdl;have Hdb:=Lib.hid hdb;clear hds sds hdl hdb;subst hEM;have hmI:((pos:Int)+(M:Int))≤m:=by omega
     have hqM:((pos+M:Nat):Int)=(pos:Int)+M:=by omega
     go_upto_region 12 with fail
     rw[HE.out];have hHI:w.heap.size≤wr.heap.size:=E5.size;have HSL:=Hsds;have hext:Stab (fun wa wb=>Ext wa wb) (fun i own ys wx=>match i with|0=>own= .int .i64 0|1=>own= .slice a5 k1 c5|2=>own= .int .i64 (k1:Int)|3=>own= .int .i64 (k1:Int)|4=>own= .int .i64 1|5=>own= .int .i64 (r:Int)|6=>own= .int .i64 (pos:Int)|7=>own= .int .i64 (sz:Int)|8=>∃ p8:Int,own= .int .i64 p8|9=>own= .int .i64 ((pos+M:Nat):Int)|10=>own= .slice (some ⟨b2,o2,none⟩) m c2|11=>own= .int .i64 (m:Int)|12=>∃ l:Bool,own= .bool l|13=>∃ g:Nat,own= .slice (some ⟨g,0,none⟩) 0 0∧wx.ownsRow wr.heap.size 5 1 (.slice (some ⟨g,0,none⟩) 0 0) 0 []|14=>own= .slice (some ⟨b2,o2,none⟩) m c2|15=>own= .int .i64 (pos:Int)|16=>own= .int .i64 ((pos+M:Nat):Int)|17=>∃ cc:Nat,own= .slice (some ⟨b2,o2+pos,none⟩) M cc|18=>∃(a1:Option Addr) (c1:Nat),own= .slice a1 M c1∧wx.ownsRow wr.heap.size 5 1 (.slice a1 M c1) M (ds.map (Value.int .u8))|19=>∃(ax:Option Addr) (cx:Nat) (p8:Int) (l:Bool),own= .agg #[.int .i64 k1,.int .i64 1,.int .i64 r,.int .i64 p8,.bool l,.slice ax M cx]∧wx.ownsRow wr.heap.size 5 1 (.slice ax M cx) M (ds.map (Value.int .u8))|20=>∃(q:Nat) (x0 x1 x2 x3 x4 x5:Value),own= .pointer (some ⟨q,0,none⟩)∧wr.heap.size≤q∧wx.heap[q]?=some (.cells #[x0,x1,x2,x3,x4,x5] 32 (0,0))|21=>∃(q:Nat) (ax:Option Addr) (cx:Nat) (p8:Int) (l:Bool),ys 20= .pointer (some ⟨q,0,none⟩)∧wr.heap.size≤q∧wx.heap[q]?=some (.cells #[.int .i64 k1,.int .i64 1,.int .i64 r,.int .i64 p8,.bool l,.slice ax M cx] 32 (0,0))∧wx.ownsRow wr.heap.size 5 1 (.slice ax M cx) M (ds.map (Value.int .u8))|_=>True):=by
      intro i own ys wa wb e h
      match i,h with
      | 0,h|1,h|2,h|3,h|4,h|5,h|6,h|7,h|8,h|9,h|10,h|11,h|12,h|14,h|15,h|16,h|17,h=>exact h
      | 13,h=>obtain⟨g,h1,h2⟩:=h;exact⟨g,h1,owns_ext h2 e⟩
      | 18,h=>obtain⟨a2,c2,h1,h2⟩:=h;exact⟨a2,c2,h1,owns_ext h2 e⟩
      | 19,h=>obtain⟨a2,c2,p2,l2,h1,h2⟩:=h;exact⟨a2,c2,p2,l2,h1,owns_ext h2 e⟩
      | 20,h=>obtain⟨q,x0,x1,x2,x3,x4,x5,h1,h2,h3⟩:=h;exact⟨q,x0,x1,x2,x3,x4,x5,h1,h2,e.blk h3⟩
      | 21,h=>obtain⟨q,a2,c2,p2,l2,h1,h2,h3,h4⟩:=h;exact⟨q,a2,c2,p2,l2,h1,h2,e.blk h3,owns_ext h4 e⟩
      | _+22,_=>trivial
     have Hext:=Lib.hid hext;clear hext;refine wp_region_inv2 (by kernel_rfl) [(14,20),(60,0),(61,1),(62,2),(63,3),(64,4),(65,5),(66,6),(67,7),(68,8),(69,9),(70,10),(71,11),(72,12),(73,13),(74,14),(75,15),(76,16),(77,17),(78,18),(79,19)] [[],[],[1],[0,1,2],[],[],[],[],[6,7],[],[],[10],[9,10,11],[],[],[],[],[14,15,16],[13,14,15,16,17],[0,1,2,3,4,5,6,7,8,9,10,11,12,13,14,15,16,17,18],[],[0,1,2,3,4,5,6,7,8,9,10,11,12,13,14,15,16,17,18,19,20]] (fun i own ys wx=>match i with|0=>own= .int .i64 0|1=>own= .slice a5 k1 c5|2=>own= .int .i64 (k1:Int)|3=>own= .int .i64 (k1:Int)|4=>own= .int .i64 1|5=>own= .int .i64 (r:Int)|6=>own= .int .i64 (pos:Int)|7=>own= .int .i64 (sz:Int)|8=>∃ p8:Int,own= .int .i64 p8|9=>own= .int .i64 ((pos+M:Nat):Int)|10=>own= .slice (some ⟨b2,o2,none⟩) m c2|11=>own= .int .i64 (m:Int)|12=>∃ l:Bool,own= .bool l|13=>∃ g:Nat,own= .slice (some ⟨g,0,none⟩) 0 0∧wx.ownsRow wr.heap.size 5 1 (.slice (some ⟨g,0,none⟩) 0 0) 0 []|14=>own= .slice (some ⟨b2,o2,none⟩) m c2|15=>own= .int .i64 (pos:Int)|16=>own= .int .i64 ((pos+M:Nat):Int)|17=>∃ cc:Nat,own= .slice (some ⟨b2,o2+pos,none⟩) M cc|18=>∃(a1:Option Addr) (c1:Nat),own= .slice a1 M c1∧wx.ownsRow wr.heap.size 5 1 (.slice a1 M c1) M (ds.map (Value.int .u8))|19=>∃(ax:Option Addr) (cx:Nat) (p8:Int) (l:Bool),own= .agg #[.int .i64 k1,.int .i64 1,.int .i64 r,.int .i64 p8,.bool l,.slice ax M cx]∧wx.ownsRow wr.heap.size 5 1 (.slice ax M cx) M (ds.map (Value.int .u8))|20=>∃(q:Nat) (x0 x1 x2 x3 x4 x5:Value),own= .pointer (some ⟨q,0,none⟩)∧wr.heap.size≤q∧wx.heap[q]?=some (.cells #[x0,x1,x2,x3,x4,x5] 32 (0,0))|21=>∃(q:Nat) (ax:Option Addr) (cx:Nat) (p8:Int) (l:Bool),ys 20= .pointer (some ⟨q,0,none⟩)∧wr.heap.size≤q∧wx.heap[q]?=some (.cells #[.int .i64 k1,.int .i64 1,.int .i64 r,.int .i64 p8,.bool l,.slice ax M cx] 32 (0,0))∧wx.ownsRow wr.heap.size 5 1 (.slice ax M cx) M (ds.map (Value.int .u8))|_=>True) (fun kx wx=>Ext wr wx) (by kernel_rfl) (by kernel_rfl) (by kernel_rfl) ?g0_r1 ?gop_r1 ?gend_r1
     case g0_r1=>exact Ext.drewN _ 1
     case gop_r1 =>
      refine⟨?_,?_,?o2,?o3,?_,?_,?_,?_,?o8,?_,?_,?o11,?o12,?o13,?_,?_,?_,?o17,?o18,?o19,?o20,?o21,trivial⟩ <;> (intro kx xs wx hk hG hD hI Qo Kx hK hQo;simp only[patchS,Nat.reduceAdd,Nat.reduceEqDiff,↓reduceIte]at hQo⊢)
      case o2 =>
       rw[ddq (hD 1 rfl)]at hQo⊢;clear hD hI;go_wp2;exact hK.out _ _ ⟨rfl,hG,kkp⟩
      case o3 =>
       rw[ddq (hD 0 rfl),ddq (hD 2 rfl)]at hQo⊢;clear hD hI;go_wp2;exact hK.out _ _ ⟨rfl,hG,kkp⟩
      case o8 =>
       rw[ddq (hD 6 rfl),ddq (hD 7 rfl)]at hQo⊢;clear hD hI;go_wp2;exact hK.out _ _ ⟨⟨_,rfl⟩,hG,kkp⟩
      case o11 =>
       rw[ddq (hD 10 rfl)]at hQo⊢;clear hD hI;go_wp2;exact hK.out _ _ ⟨rfl,hG,kkp⟩
      case o12 =>
       rw[ddq (hD 9 rfl),ddq (hD 11 rfl)]at hQo⊢;clear hD hI;go_wp2;exact hK.out _ _ ⟨⟨_,rfl⟩,hG,kkp⟩
      case o13 =>
       clear hD hI;go_wp2;have ha:=Ext.alloc wx (.cells #[] 5);have o4:=World.ownsRow_made (base:=wr.heap.size) (e:=5) (size:=1) wx #[] 0 hG.size (by simp) rfl;exact hK.out _ _ ⟨⟨_,rfl,o4⟩,hG.trans ha,fun i _ _ _ own ys h=>Hext.out i own ys _ _ ha h⟩
      case o17 =>
       rw[ddq (hD 14 rfl),ddq (hD 15 rfl),ddq (hD 16 rfl)]at hQo⊢;clear hD hI;go_wp2;exact hK.out _ _ ⟨⟨c2-pos,by first|rfl|(congr 1 <;> first|rfl|omega)⟩,hG,kkp⟩
      case o18 =>
       have d13:∃ g:Nat,(xs 13) = .slice (some ⟨g,0,none⟩) 0 0∧wx.ownsRow wr.heap.size 5 1 (.slice (some ⟨g,0,none⟩) 0 0) 0 []:=hD 13 rfl;have d17:∃ cc:Nat,(xs 17) = .slice (some ⟨b2,o2+pos,none⟩) M cc:=hD 17 rfl;clear hD hI;generalize xs 13=y13 at *;generalize xs 17=y17 at *;obtain⟨g13,rfl,o13⟩:=d13;obtain⟨cc17,rfl⟩:=d17;have rx:=HSL.out.ext hG;refine wpList_appn _ rfl o13 hG.size _ _ _ rfl (.int .u8 0) 1 Try.underlying22 info_uint8 rfl (by decide) rfl ⟨b2,o2+pos,none⟩ M cc17 _ rfl (by rw[rx.1];omega) (rx.cellsOf _ (by omega)) (by intro u hu;obtain⟨z,-,rfl⟩:=List.mem_map.1 hu;rfl) (by omega) (by omega) (by omega) ?_;intro v14 w14 own14 e8;rw[Nat.zero_add,List.nil_append]at own14;obtain⟨a14,c14,rfl⟩:=owns_form own14;exact hQo _ _ (hK.out _ _ ⟨⟨_,_,rfl,own14⟩,hG.trans e8,fun i _ _ _ own ys h=>Hext.out i own ys _ _ e8 h⟩)
      case o19 =>
       rw[ddq (hD 3 rfl),ddq (hD 4 rfl),ddq (hD 5 rfl)]at hQo⊢;have d8:∃ p8:Int,(xs 8) = .int .i64 p8:=hD 8 rfl;have d12:∃ l:Bool,(xs 12) = .bool l:=hD 12 rfl;have d18:∃(a1:Option Addr) (c1:Nat),(xs 18) = .slice a1 M c1∧wx.ownsRow wr.heap.size 5 1 (.slice a1 M c1) M (ds.map (Value.int .u8)):=hD 18 rfl;clear hD hI;generalize xs 8=y8 at *;generalize xs 12=y12 at *;generalize xs 18=y18 at *;obtain⟨p8,rfl⟩:=d8;obtain⟨l12,rfl⟩:=d12;obtain⟨a18,c18,rfl,o18⟩:=d18;go_wp2;exact hK.out _ _ ⟨⟨_,_,_,_,rfl,o18⟩,hG,fun _ _ _ _ _ _ h=>h⟩
      case o20 =>
       clear hD hI;have e5':=Ext.alloc wx (.cells #[.int .i64 0,.int .i64 0,.int .i64 0,.int .i64 0,.bool false,.slice none 0 0] 32);go_wp2;exact hK.out _ _ ⟨⟨_,_,_,_,_,_,_,rfl,hG.size,blk_new _ _⟩,hG.trans e5',fun i _ _ _ own ys h=>Hext.out i own ys _ _ e5' h⟩
      case o21 =>
       have d20:∃(q:Nat) (x0 x1 x2 x3 x4 x5:Value),(xs 20) = .pointer (some ⟨q,0,none⟩)∧wr.heap.size≤q∧wx.heap[q]?=some (.cells #[x0,x1,x2,x3,x4,x5] 32 (0,0)):=hD 20 rfl;have d19:∃(ax:Option Addr) (cx:Nat) (p8:Int) (l:Bool),(xs 19) = .agg #[.int .i64 k1,.int .i64 1,.int .i64 r,.int .i64 p8,.bool l,.slice ax M cx]∧wx.ownsRow wr.heap.size 5 1 (.slice ax M cx) M (ds.map (Value.int .u8)):=hD 19 rfl;clear hD hI;generalize hx20:xs 20=y20 at *;have Hx20:=Lib.hid hx20;clear hx20;generalize xs 19=y19 at *;obtain⟨q,x0,x1,x2,x3,x4,x5,rfl,hq,hqb⟩:=d20;obtain⟨a19,c19,p19,l19,rfl,o19⟩:=d19;obtain⟨z,z0,z1,z2,z3,z4,z5⟩:=bx6 hqb;obtain⟨f0,f1,f2,f3,f4,f5⟩:=fz6 hqb;go_wp2;have hst:∀(wy:World),wx.grownBy wy (some q)∧(∃ x0 x1 x2 x3 x4 x5,wy.heap[q]?=some (.cells #[x0,x1,x2,x3,x4,x5] 32 (0,0)))→Stbn 22 21 [[],[],[1],[0,1,2],[],[],[],[],[6,7],[],[],[10],[9,10,11],[],[],[],[],[14,15,16],[13,14,15,16,17],[0,1,2,3,4,5,6,7,8,9,10,11,12,13,14,15,16,17,18],[],[0,1,2,3,4,5,6,7,8,9,10,11,12,13,14,15,16,17,18,19,20]] (fun i own ys wx=>match i with|0=>own= .int .i64 0|1=>own= .slice a5 k1 c5|2=>own= .int .i64 (k1:Int)|3=>own= .int .i64 (k1:Int)|4=>own= .int .i64 1|5=>own= .int .i64 (r:Int)|6=>own= .int .i64 (pos:Int)|7=>own= .int .i64 (sz:Int)|8=>∃ p8:Int,own= .int .i64 p8|9=>own= .int .i64 ((pos+M:Nat):Int)|10=>own= .slice (some ⟨b2,o2,none⟩) m c2|11=>own= .int .i64 (m:Int)|12=>∃ l:Bool,own= .bool l|13=>∃ g:Nat,own= .slice (some ⟨g,0,none⟩) 0 0∧wx.ownsRow wr.heap.size 5 1 (.slice (some ⟨g,0,none⟩) 0 0) 0 []|14=>own= .slice (some ⟨b2,o2,none⟩) m c2|15=>own= .int .i64 (pos:Int)|16=>own= .int .i64 ((pos+M:Nat):Int)|17=>∃ cc:Nat,own= .slice (some ⟨b2,o2+pos,none⟩) M cc|18=>∃(a1:Option Addr) (c1:Nat),own= .slice a1 M c1∧wx.ownsRow wr.heap.size 5 1 (.slice a1 M c1) M (ds.map (Value.int .u8))|19=>∃(ax:Option Addr) (cx:Nat) (p8:Int) (l:Bool),own= .agg #[.int .i64 k1,.int .i64 1,.int .i64 r,.int .i64 p8,.bool l,.slice ax M cx]∧wx.ownsRow wr.heap.size 5 1 (.slice ax M cx) M (ds.map (Value.int .u8))|20=>∃(q:Nat) (x0 x1 x2 x3 x4 x5:Value),own= .pointer (some ⟨q,0,none⟩)∧wr.heap.size≤q∧wx.heap[q]?=some (.cells #[x0,x1,x2,x3,x4,x5] 32 (0,0))|21=>∃(q:Nat) (ax:Option Addr) (cx:Nat) (p8:Int) (l:Bool),ys 20= .pointer (some ⟨q,0,none⟩)∧wr.heap.size≤q∧wx.heap[q]?=some (.cells #[.int .i64 k1,.int .i64 1,.int .i64 r,.int .i64 p8,.bool l,.slice ax M cx] 32 (0,0))∧wx.ownsRow wr.heap.size 5 1 (.slice ax M cx) M (ds.map (Value.int .u8))|_=>True) wx wy:=by
        intro wy hy ii hii hne hc own ys h
        match ii,h with
        | 0,h|1,h|2,h|3,h|4,h|5,h|6,h|7,h|8,h|9,h|10,h|11,h|12,h|14,h|15,h|16,h|17,h=>exact h
        | 13,h=>obtain⟨g,h1,h2⟩:=h;exact⟨g,h1,h2.kept hy.1 (own_ne_blk h2 hqb (by decide))⟩
        | 18,h=>obtain⟨a2,c2,h1,h2⟩:=h;exact⟨a2,c2,h1,h2.kept hy.1 (own_ne_blk h2 hqb (by decide))⟩
        | 19,h=>obtain⟨a2,c2,p2,l2,h1,h2⟩:=h;exact⟨a2,c2,p2,l2,h1,h2.kept hy.1 (own_ne_blk h2 hqb (by decide))⟩
        | 20,h=>obtain⟨q',x0',x1',x2',x3',x4',x5',h1,h2,h3⟩:=h;by_cases hqq:q'=q;(subst hqq;obtain⟨u0,u1,u2,u3,u4,u5,u6⟩:=hy.2;exact⟨_,_,_,_,_,_,_,h1,h2,u6⟩);exact⟨q',x0',x1',x2',x3',x4',x5',h1,h2,by rw[hy.1.block q' (lt_of_block h3) (fun e=>hqq (by simpa using e))];exact h3⟩
        | 21,h=>exact absurd rfl hne
        | _+22,_=>trivial
       refine hQo undef _ (hK.out _ _ ⟨⟨q,a19,c19,p19,l19,Hx20.out,hq,blk_set6 hqb,o19.kept (grown_set6 _ q _ _ _ _ _ _) (own_ne_blk o19 hqb (by decide))⟩,Ext.grown hG (grown_set6 _ q _ _ _ _ _ _) (fun k hk=>by cases hk;exact hq),hst _ ⟨grown_set6 _ q _ _ _ _ _ _,_,_,_,_,_,_,blk_set6 hqb⟩⟩)
      all_goals
       clear hD hI;go_wp2;exact hK.out _ _ ⟨rfl,hG,kkp⟩
     clear Hext;intro xs wx hV hG;have d20:∃(q:Nat) (x0 x1 x2 x3 x4 x5:Value),(xs 20) = .pointer (some ⟨q,0,none⟩)∧wr.heap.size≤q∧wx.heap[q]?=some (.cells #[x0,x1,x2,x3,x4,x5] 32 (0,0)):=hV 20 (by decide);have d21:∃(q:Nat) (ax:Option Addr) (cx:Nat) (p8:Int) (l:Bool),(xs 20) = .pointer (some ⟨q,0,none⟩)∧wr.heap.size≤q∧wx.heap[q]?=some (.cells #[.int .i64 k1,.int .i64 1,.int .i64 r,.int .i64 p8,.bool l,.slice ax M cx] 32 (0,0))∧wx.ownsRow wr.heap.size 5 1 (.slice ax M cx) M (ds.map (Value.int .u8)):=hV 21 (by decide);clear hV;simp only[patchS,Nat.reduceAdd,Nat.reduceEqDiff,↓reduceIte];generalize xs 0=y0,xs 1=y1,xs 2=y2,xs 3=y3,xs 4=y4,xs 5=y5,xs 6=y6,xs 7=y7,xs 8=y8,xs 9=y9,xs 10=y10,xs 11=y11,xs 12=y12,xs 13=y13,xs 14=y14,xs 15=y15,xs 16=y16,xs 17=y17,xs 18=y18,xs 19=y19,xs 20=y20,xs 21=y21 at *
     replace hG:Ext wr wx:=hG
     obtain⟨q,x0,x1,x2,x3,x4,x5,rfl,hq,hqb⟩:=d20;obtain⟨q2,a21,c21,p21,l21,hq2,hq3,hq4,o21⟩:=d21;simp only[Value.pointer.injEq,Option.some.injEq,Addr.mk.injEq,and_true]at hq2;subst hq2;obtain rfl:ds.length=M:=Hdl.out;have E6:Ext w wx:=E5.trans hG;have Q6:=Q5.ext hG;have B6:=hG.blk B5;have v6:=HV.out.ext hG;have ba6:=BA.of_own o21;clear hqb x0 x1 x2 x3 x4 x5 hq hG Q5 B5 E5 HV o21 HSL Hsds hq3 hmI hqM;have HBA:=Lib.hid ba6;have HV6:=Lib.hid v6;obtain⟨z,m0,m1,m2,m3,m4,m5⟩:=bx6 hq4;clear ba6 v6
     by_cases hv:pval k1 1 r p21 ds.length
     ·have hv':=Lib.hid hv;clear hv;go_wp2_with fail
      refine(spec_PacketValid_yes _ _ _ _ _ _ _ _ _ hv'.out).mono ?_
      rintro e w7 ⟨rfl,e7⟩
      have E7:=E6.trans e7;have Q7:=Q6.ext e7;have B7:=e7.blk B6;have HV7:=Lib.hid (HV6.out.ext e7);have HBA7:=Lib.hid (HBA.out.ext e7);have q7:=e7.blk hq4;clear E6 Q6 B6 HV6 HBA hq4 z m0 m1 m2 m3 m4 m5 e7;obtain⟨z,m0,m1,m2,m3,m4,m5⟩:=bx6 q7;have o7:=Q7.1;have hs7:=E7.size;have HQ:=Lib.hid Q7;have HB7:=Lib.hid B7;clear Q7 B7 q7;go_wp2_with (at_builtin;refine wpList_app6 _ o7 hs7 _ _ _ _ _ _ rfl _ _ 23 rfl (.agg #[.int .i64 0,.int .i64 0,.int .i64 0,.int .i64 0,.bool false,.slice none 0 0]) 64 Try.underlying23 info_Packet rfl rfl rfl (by intro u hu;simp at hu;rcases hu with rfl|rfl|rfl|rfl|rfl|rfl <;> rfl) (by omega) (by omega) ?_;intro v8 w8 own8 gr8;refine Hid.out ?_)
      have hvv:=hv'.out;unfold pval at hvv;have Q8:=HQ.out.app (y:=⟨(k1:Int),1,(r:Int),p21,l21,ds⟩) own8 gr8 HBA7.out ⟨by unfold pkb;simp only;omega,by simp only;omega,Hdb.out⟩;have E8:Ext w w8:=Ext.grown E7 gr8 (owns_ge o7);have B8:=blk_gr HB7.out gr8 (by have:=own_ne_blk o7 HB7.out (by decide);rcases this with h|h;(rw[h];simp);exact h);have v8':=HV7.out.own o7 (by decide) gr8;have hk8:k1+1≤10000:=by omega
      clear own8 gr8 o7 HQ HB7 HV7 HBA7 E7 hvv z m0 m1 m2 m3 m4 m5;obtain⟨a8,c8,rfl⟩:=owns_form Q8.1;refine Lib.hid ?_;go_wp2;go_roundw
      case rel=>exact⟨pos+sz,k1+1,_,_,by omega,by go_num,E8,v8',B8,hk8,Q8⟩
      case measure=>simp[intOf] <;> omega
     ·have hv':=Lib.hid hv;clear hv;go_wp2_with fail
      refine(spec_PacketValid_no _ _ _ _ _ _ _ _ _ (by omega) hv'.out).mono ?_
      rintro e w7 ⟨rfl,e7⟩
      have E7:=E6.trans e7;have o0:=World.ownsRow_made (base:=w.heap.size) (e:=32) (size:=6) w7 #[] 0 E7.size (by simp) rfl;have E8:=E7.trans (Ext.alloc w7 (.cells #[] 32));go_wp2;go_ret
      exact⟨0,_,_,_,_,rfl,by omega,nil_PQ _ _ _ o0,E8⟩
    ·have hd:decide ((pos:Int)<m)=false:=by simp;omega
     go_wp2;go_roundw
     case rel=>exact⟨r+1,k1,pf,cs1,by omega,by go_num,E5,B5,hk,Q5⟩
     case measure=>simp[intOf] <;> omega
  ·obtain rfl:r=n:=by omega
   go_wp2;go_ret
   exact⟨k,x,_,_,cs,rfl,hk,Q4,E4⟩
/-- A picture: its sides and its samples. -/
structure Pic where
 w:Int
 h:Int
 px:List Int
/-- All numbers are samples. -/
def smp (zs:List Int):Prop:=∀ z∈zs,0≤z∧z≤255
instance decSmp (zs : List Int) : Decidable (smp zs) := by unfold smp; infer_instance
def side (n:Int):Prop:=8≤n∧n≤32∧n%8=0
instance decSide (n : Int) : Decidable (side n) := by unfold side; infer_instance
def Pic.valid (p:Pic):Prop:=side p.w∧side p.h∧(p.px.length:Int)=p.w*p.h∧smp p.px
instance decPicValid (p : Pic) : Decidable p.valid := by unfold Pic.valid; infer_instance
def pic0 : Pic:=⟨0,0,[]⟩
theorem size_Picture : (Try.prog.info? 43).map (·.size)=some 3:=by kernel_rfl
def shaped (W H:Int) (n:Nat):Prop:=side W∧side H∧(n:Int)=W*H
end Go.Proofs.Ytphfacfjhjcllaa
namespace Go.Proofs.Ytphfacfjhjcllaa

open Go.RowKit
end Go.Proofs.Ytphfacfjhjcllaa
namespace Go.Proofs.Ytphfacfjhjcllaa
open Go.RowKit
/-- What holds while a picture is drawn: its box O, the result's box R = w.heap.size, the reader b below both. -/
structure PGd (w : World) (b O P : Nat) (W H : Int) (v : Value) (zs : List Int) (wx : World) : Prop where
 gr:w.grownBy wx (some b)
 rd:RdP wx b P
 box:wx.heap[O]?=some (.cells #[.int .i64 W,.int .i64 H,v] 43 (0,0))
 res:wx.heap[w.heap.size]?=some (.cells #[.int .i64 0,.int .i64 0,.slice none 0 0] 43 (0,0))
 own:wx.ownsRow (w.heap.size+2) 3 1 v zs.length (zs.map (Value.int .i64))
 lo:b<w.heap.size
 hO:O=w.heap.size+1
 ok:smp zs
theorem PGd.more {w wx wy:World} {b O P P':Nat} {W H:Int} {v:Value} {zs:List Int} (h:PGd w b O P W H v zs wx) (g:wx.grownBy wy (some b)) (r:RdP wy b P'):PGd w b O P' W H v zs wy:=by
 have h1:=h.lo;have h2:=h.hO;exact⟨grown_trans h.gr g,r,blk_gr h.box g (by simp;omega),blk_gr h.res g (by simp;omega),own_gr h.own g (by omega),h1,h2,h.ok⟩
theorem PGd.mono {w wx:World} {b O P P':Nat} {W H:Int} {v:Value} {zs:List Int} (h:PGd w b O P W H v zs wx) (hp:P≤P'):PGd w b O P' W H v zs wx :=
 ⟨h.gr,h.rd.mono hp,h.box,h.res,h.own,h.lo,h.hO,h.ok⟩
theorem PGd.ex {w wx wy:World} {b O P:Nat} {W H:Int} {v:Value} {zs:List Int} (h:PGd w b O P W H v zs wx) (e:Ext wx wy):PGd w b O P W H v zs wy :=
 ⟨grown_ext h.gr e,h.rd.ext e,e.blk h.box,e.blk h.res,owns_ext h.own e,h.lo,h.hO,h.ok⟩
theorem PGd.app {w wx w3:World} {b O P:Nat} {W H:Int} {v v3:Value} {zs:List Int} {z:Int} (h:PGd w b O P W H v zs wx) (own3:w3.ownsRow (w.heap.size+2) 3 1 v3 (zs.length+1) (zs.map (Value.int .i64) ++ [.int .i64 z])) (gr3:wx.grownBy w3 v.ownBlock) (hz:0≤z∧z≤255) :
 PGd w b O P W H v3 (zs ++ [z]) (w3.setCell ⟨O,2,none⟩ v3):=by
 have h1:=h.lo;have h2:=h.hO;have hge:=owns_ge h.own;have hb3:=blk_gr h.box gr3 (fun e=>by have:=hge _ e;omega);have hr3:=blk_gr h.res gr3 (fun e=>by have:=hge _ e;omega);have hb4:=heap_setCell_same w3 O 2 _ _ v3 hb3;obtain⟨q,hq1,hq2⟩:=h.rd;refine⟨grown_any (grown_any h.gr gr3 (fun k hk=>by have:=hge k hk;omega)) (gr_set _ _ _ _) (fun k hk=>by cases hk;omega),⟨q,hq1,(hq2.gr gr3 (fun k hk=>by have:=hge k hk;omega)).set (by omega)⟩,by simpa using hb4,blk_set_other hr3 (by omega),?_,h1,h2,?_⟩
 ·rw[List.length_append,List.map_append];exact own_gr own3 (gr_set _ _ _ _) (by omega)
 ·intro y hy;rcases List.mem_append.1 hy with h3|h3
  ·exact h.ok y h3
  ·simp at h3;subst h3;exact hz
theorem l20Pic_c (b P W H:Nat) (w:World) (h:RdP w b P) (hp:P<2^37) (hw:side W) (hh:side H) :
 Calls Try.prog 30 #[.pointer (some ⟨b,0,none⟩),.int .i64 W,.int .i64 H] w fun e w'=>∃(a:Option Addr) (c n:Nat) (zs:List Int),e= .returned (.agg #[.int .i64 W,.int .i64 H,.slice a n c])∧n=W*H∧smp zs∧w'.ownsRow w.heap.size 3 1 (.slice a n c) n (zs.map (Value.int .i64))∧RdP w' b (P+2000)∧w.grownBy w' (some b):=by
 have hbw:b<w.heap.size:=h.lt;obtain⟨w1,w2,-⟩:=hw;obtain⟨h1,h2,-⟩:=hh;have D0:PGd w b (w.heap.size+1) P W H (.slice none 0 0) [] ((w.alloc (.cells #[.int .i64 0,.int .i64 0,.slice none 0 0] 43)).alloc (.cells #[.int .i64 W,.int .i64 H,.slice none 0 0] 43)):=by
  have e1:=Ext.alloc w (.cells #[.int .i64 0,.int .i64 0,.slice none 0 0] 43);have e2:=Ext.alloc (w.alloc (.cells #[.int .i64 0,.int .i64 0,.slice none 0 0] 43)) (.cells #[.int .i64 W,.int .i64 H,.slice none 0 0] 43);refine⟨ext_gr (e1.trans e2),h.ext (e1.trans e2),?_,e2.blk (blk_new _ _),World.ownsRow_nil _ _ _ _,hbw,rfl,fun z hz=>by cases hz⟩;have:=blk_new (w.alloc (.cells #[.int .i64 0,.int .i64 0,.slice none 0 0] 43)) (.cells #[.int .i64 W,.int .i64 H,.slice none 0 0] 43)
  rwa [World.size_alloc]at this
 go_enter Try.func30,Try.ntmps30
 go_upto_region 2 with fail
 try simp only[World.size_alloc]
 generalize (w.alloc (.cells #[.int .i64 0,.int .i64 0,.slice none 0 0] 43)).alloc (.cells #[.int .i64 W,.int .i64 H,.slice none 0 0] 43)=w0 at *;clear h;go_wp2_with fail
 refine(pick_c b _ 256 _ D0.rd (by omega) (by omega) (by omega)).mono ?_
 rintro e wa ⟨va,rfl,vaa,vab,ra,ga⟩
 have D1:=D0.more ga ra;clear D0 ga ra;go_wp2_with fail
 refine(pick_c b _ 9 _ D1.rd (by omega) (by omega) (by omega)).mono ?_
 rintro e wa2 ⟨dx,rfl,dxa,dxb,ra,ga⟩
 have D2:=D1.more ga ra;clear D1 ga ra;go_wp2_with fail
 refine(pick_c b _ 9 _ D2.rd (by omega) (by omega) (by omega)).mono ?_
 rintro e wa3 ⟨dy,rfl,dya,dyb,ra,ga⟩
 have D3:=(D2.more ga ra).ex (Ext.alloc wa3 (.cells #[.int .i64 0,.int .i64 1,.int .i64 4,.int .i64 30,.int .i64 256] 3));have S3:=blk_new wa3 (.cells #[.int .i64 0,.int .i64 1,.int .i64 4,.int .i64 30,.int .i64 256] 3);have hsz3:=lt_of_block (D2.more ga ra).box;have hb3:=(D2.more ga ra).lo;have hO3:=(D2.more ga ra).hO;clear D2 ga ra;go_wp2_with fail
 refine(pick_c b _ 5 _ D3.rd (by omega) (by omega) (by omega)).mono ?_
 rintro e wa4 ⟨ni,rfl,nia,nib,ra,ga⟩
 have S4:=gr_blk ga S3 (by omega);have D4:=D3.more ga ra;have hc:∃ nz:Int,wa4.cell? ⟨wa3.heap.size,ni.toNat,none⟩=some (.int .i64 nz)∧0≤nz∧nz≤256:=by
  obtain rfl|rfl|rfl|rfl|rfl:ni=0∨ni=1∨ni=2∨ni=3∨ni=4:=by omega
  ·exact⟨0,by simp[World.cell?,S4],by omega,by omega⟩
  ·exact⟨1,by simp[World.cell?,S4],by omega,by omega⟩
  ·exact⟨4,by simp[World.cell?,S4],by omega,by omega⟩
  ·exact⟨30,by simp[World.cell?,S4],by omega,by omega⟩
  ·exact⟨256,by simp[World.cell?,S4],by omega,by omega⟩
 obtain⟨nz,hc4,nza,nzb⟩:=hc;clear D3 ga ra S3 S4 hsz3 hb3 hO3;go_wp2_with fail
 refine(pick_c b _ (W+8) _ D4.rd (by omega) (by omega) (by omega)).mono ?_
 rintro e wa5 ⟨ed,rfl,eda,edb,ra,ga⟩
 have D5:=D4.more ga ra;clear D4 ga ra hc4;go_wp2_with fail
 have D6:PGd w b (w.heap.size+1) (P+10+([]:List Int).length) W H (.slice none 0 0) [] wa5:=D5.mono (by simp);clear D5;go_loopw [13] (fun y wr=>∃(u:Nat) (v:Value) (zs:List Int),u≤H∧y= .int .i64 u∧zs.length=u*W∧PGd w b (w.heap.size+1) (P+10+zs.length) W H v zs wr) (fun y _=>H-(intOf y).toNat)
 case atStart=>exact⟨0,_,[],by omega,rfl,by simp,D6⟩
 case round =>
  obtain⟨u,v,zs,hu,rfl,hl,D7⟩:=hrel;clear D6;have HL:=Lib.hid hl;clear hl
  by_cases hlt:u<H
  ·have hdu:decide (u<H)=true:=by simpa using hlt
   go_wp2_with fail
   go_loopw [14] (fun x wr2=>∃(j:Nat) (v:Value) (zs:List Int),j≤W∧x= .int .i64 j∧zs.length=u*W+j∧PGd w b (w.heap.size+1) (P+10+zs.length) W H v zs wr2) (fun x _=>W-(intOf x).toNat)
   case atStart=>exact⟨0,v,zs,by omega,rfl,by rw[HL.out];simp,D7⟩
   case round =>
    obtain⟨j,v2,ys,hj,rfl,hl2,D8⟩:=hrel;clear D7;have hyl:ys.length≤1023+1:=by
     have:=Nat.mul_le_mul (show u≤31 by omega) (show W≤32 by omega);omega
    have HL2:=Lib.hid hl2;clear hl2
    by_cases hlj:j<W
    ·have hdj:decide (j<W)=true:=by simpa using hlj
     have hpx : -128≤(dx-4)*(j:Int)∧(dx-4)*(j:Int)≤128:=by
      have a1:=Int.mul_le_mul_of_nonneg_right (show dx-4≤4 by omega) (show(0:Int)≤j by omega);have a2:=Int.mul_le_mul_of_nonneg_right (show -4≤dx-4 by omega) (show(0:Int)≤j by omega);omega
     have hpy : -128≤(dy-4)*(u:Int)∧(dy-4)*(u:Int)≤128:=by
      have a1:=Int.mul_le_mul_of_nonneg_right (show dy-4≤4 by omega) (show(0:Int)≤u by omega);have a2:=Int.mul_le_mul_of_nonneg_right (show -4≤dy-4 by omega) (show(0:Int)≤u by omega);omega
     obtain⟨N,hN⟩:∃ N,N=va+(dx-4)*(j:Int)+(dy-4)*(u:Int):=⟨_,rfl⟩;have hNr : -300≤N∧N≤600:=by omega
     go_upto_region 14 with fail
     rw[←hN];clear hN hpx hpy;go_upto_if 56 with fail
     go_cut [15]from 41 to 78 (fun s wx=>∃ N:Int,s= .int .i64 N ∧ -300≤N∧N≤900∧PGd w b (w.heap.size+1) (P+11+ys.length) W H v2 ys wx)
     case first =>
      by_cases hnz:0<nz
      ·have hd0:decide (0<nz)=true:=by simpa using hnz
       go_wp2_with fail
       refine(pick_c b _ nz _ D8.rd (by omega) (by omega) (by omega)).mono ?_
       rintro e wb ⟨pk,rfl,pka,pkb,rb,gb⟩
       have D9:=D8.more gb rb;go_wp2;go_meet
       case rel=>exact⟨_,rfl,by omega,by omega,D9.mono (by omega)⟩
      ·have hd0:decide (0<nz)=false:=by simpa using hnz
       go_wp2;go_meet
       case rel=>exact⟨_,rfl,by omega,by omega,D8.mono (by omega)⟩
     case rest =>
      obtain⟨M,rfl,hM1,hM2,D9⟩:=hcut;clear D8 hNr;go_upto_if 67 with fail
      go_cut [15]from 41 to 78 (fun s wx=>∃ N:Int,s= .int .i64 N ∧ -300≤N∧N≤1000∧PGd w b (w.heap.size+1) (P+11+ys.length) W H v2 ys wx)
      case first =>
       go_wp2;all_goals
        go_meet
        case rel=>exact⟨_,rfl,by omega,by omega,D9⟩
      case rest =>
       obtain⟨M,rfl,hM1,hM2,D10⟩:=hcut;clear D9;have D9:=D10;clear D10;obtain⟨a2,c2,rfl⟩:=owns_form D9.own;obtain⟨-,k0,k1,k2,f0,f1,f2⟩:=bx3 D9.box;have hsz:w.heap.size+2≤wc.heap.size:=by
        have:=lt_of_block D9.box;have:=D9.hO;omega
       go_wp2_with (at_builtin;refine wpList_app _ D9.own hsz _ rfl _ _ 26 rfl (.int .i64 0) 8 Try.underlying26 info_int rfl rfl rfl rfl (by omega) (by omega) ?_;intro v3 w3 own3 gr3 _;obtain⟨a3,c3,rfl⟩:=owns_form own3;have q3:=blk_gr D9.box gr3 (fun e=>by have:=owns_ge D9.own _ e;omega);obtain⟨-,z0,z1,z2,g0,g1,g2⟩:=bx3 q3)
       all_goals
        go_roundw
        case rel=>exact⟨j+1,_,ys ++ [_],by omega,by go_num,by rw[List.length_append,HL2.out];simp;omega,(D9.app own3 gr3 (by omega)).mono (by simp;omega)⟩
        case measure=>simp[intOf];omega
    ·obtain rfl:W=j:=by omega
     have hdj:decide (W<W)=false:=by simp
     go_wp2;go_roundw
     case rel=>exact⟨u+1,v2,ys,by omega,by go_num,by rw[HL2.out,Nat.succ_mul],D8⟩
     case measure=>simp[intOf];omega
  ·obtain rfl:H=u:=by omega
   have hdu:decide (H<H)=false:=by simp
   obtain⟨a2,c2,rfl⟩:=owns_form D7.own;obtain⟨-,k0,k1,k2,-⟩:=bx3 D7.box;obtain⟨-,r0,r1,r2,f0,f1,f2⟩:=bx3 D7.res;have hzl:zs.length≤1024:=by
    have:=Nat.mul_le_mul (show H≤32 by omega) (show W≤32 by omega);have:=HL.out;omega
   have hres:=blk_set3 (x' := .int .i64 W) (y' := .int .i64 H) (z' := .slice a2 zs.length c2) D7.res;have hlo:=D7.lo;have hown:=own_gr (own_gr (own_gr D7.own (gr_set _ w.heap.size 0 (.int .i64 W)) (by omega)) (gr_set _ w.heap.size 1 (.int .i64 H)) (by omega)) (gr_set _ w.heap.size 2 (.slice a2 zs.length c2)) (by omega);have hgr:=grown_any (grown_any (grown_any D7.gr (gr_set _ w.heap.size 0 (.int .i64 W)) (fun k e=>by cases e;omega)) (gr_set _ w.heap.size 1 (.int .i64 H)) (fun k e=>by cases e;omega)) (gr_set _ w.heap.size 2 (.slice a2 zs.length c2)) (fun k e=>by cases e;omega);have hrd:=((D7.rd.set (q:=w.heap.size) (j:=0) (v := .int .i64 W) (by omega)).set (q:=w.heap.size) (j:=1) (v := .int .i64 H) (by omega)).set (q:=w.heap.size) (j:=2) (v := .slice a2 zs.length c2) (by omega);have hok:=Lib.hid D7.ok;have HL3:=Lib.hid (show zs.length=W*H by rw[HL.out,Nat.mul_comm]);go_wp2;exact bodyPost_ret (v := .agg #[.int .i64 W,.int .i64 H,.slice a2 zs.length c2]) (results_cell_row rfl _ _ w.heap.size 43 #[.int .i64 W,.int .i64 H,.slice a2 zs.length c2] (0,0) _ rfl hres Try.underlying43 rfl size_Picture) rfl ⟨a2,c2,zs.length,zs,rfl,HL3.out,hok.out,owns_mono hown (by omega),hrd.mono (by omega),hgr⟩
/-- What holds while a drawn picture is changed: its box O, its row in block g. -/
def PH (w:World) (b P k O g n c:Nat) (x y:Int) (wx:World):Prop:=DG w b P 1 k wx∧wx.heap[O]?=some (.cells #[.int .i64 x,.int .i64 y,.slice (some ⟨g,0,none⟩) n c] 43 (0,0))∧wx.heap[w.heap.size]?=some (.cells #[.int .i64 0,.int .i64 0,.slice none 0 0] 43 (0,0))∧(∃ zs:List Int,zs.length=n∧wx.ownsRow (w.heap.size+1) 3 1 (.slice (some ⟨g,0,none⟩) n c) n (zs.map (Value.int .i64)))∧b<w.heap.size∧w.heap.size<O∧g<O
theorem PH.g {w wx:World} {b P k O g n c:Nat} {x y:Int} (h:PH w b P k O g n c x y wx):w.heap.size+1≤g:=by
 obtain⟨-,-,-,⟨zs,-,h1⟩,-⟩:=h;exact(h1.lt g rfl).1
theorem PH.step {w wx:World} {b P k O g n c:Nat} {x y:Int} (h:PH w b P k O g n c x y wx):PH w b P (k+1) O g n c x y wx:=⟨h.1.step,h.2⟩
theorem PH.grb {w wx wy:World} {b P k k' O g n c:Nat} {x y:Int} (h:PH w b P k O g n c x y wx) (e:wx.grownBy wy (some b)) (d:DG w b P 1 k' wy):PH w b P k' O g n c x y wy:=by
 obtain⟨h1,h2,h3,⟨zs,h4,h5⟩,h6,h7,h8⟩:=h;exact⟨d,blk_gr h2 e (by simp;omega),blk_gr h3 e (by simp;omega),⟨zs,h4,own_gr h5 e (by omega)⟩,h6,h7,h8⟩
theorem PH.more {w wx wy:World} {b P k O g n c:Nat} {x y:Int} (h:PH w b P k O g n c x y wx) (e:wx.grownBy wy (some b)) (r:RdP wy b (P+k*1+1)) (_:1≤1):PH w b P (k+1) O g n c x y wy:=h.grb e (h.1.more e r (Nat.le_refl _))
theorem PH.ext {w wx wy:World} {b P k O g n c:Nat} {x y:Int} (h:PH w b P k O g n c x y wx) (e:Ext wx wy):PH w b P (k+1) O g n c x y wy:=h.grb (ext_gr e) (h.1.ext e)
theorem PH.ext0 {w wx wy:World} {b P k O g n c:Nat} {x y:Int} (h:PH w b P k O g n c x y wx) (e:Ext wx wy):PH w b P k O g n c x y wy:=h.grb (ext_gr e) ⟨grown_ext h.1.1 e,h.1.2.ext e⟩
theorem PH.drew {w wx:World} {b P k O g n c:Nat} {x y:Int} (h:PH w b P k O g n c x y wx):PH w b P k O g n c x y wx.drew:=h.ext0 (Ext.drewN _ 1)
theorem PH.re {w wx:World} {b P k O g n c P':Nat} {x y:Int} (h:PH w b P k O g n c x y wx) (hP:P+k≤P'):PH w b P' 0 O g n c x y wx:=⟨h.1.reset (by omega) 1,h.2⟩
theorem PH.set {w wx:World} {b P k O g n c:Nat} {x y:Int} (h:PH w b P k O g n c x y wx) (i:Nat) (v:Int):PH w b P k O g n c x y (wx.setCell ⟨g,i,none⟩ (.int .i64 v)):=by
 have hg:=h.g;obtain⟨h1,h2,h3,⟨zs,h4,h5⟩,h6,h7,h8⟩:=h;obtain⟨o2,gr⟩:=h5.stored i (.int .i64 v);refine⟨h1.set (by omega) (by omega),blk_set_other h2 (by omega),blk_set_other h3 (by omega),⟨zs.set i v,by simpa using h4,?_⟩,h6,h7,h8⟩;rw[List.map_set];exact o2
theorem PH.cell {w wx:World} {b P k O g n c:Nat} {x y:Int} (h:PH w b P k O g n c x y wx) {i:Nat} (hi:i<n):∃ v:Value,wx.cell? ⟨g,i,none⟩=some v∧wx.frozen? ⟨g,i,none⟩=false:=by
 obtain⟨h1,h2,h3,⟨zs,h4,h5⟩,h6,h7,h8⟩:=h;obtain⟨v,hv,-⟩:=owns_get h5 hi;exact⟨v,hv,h5.frozenAt i⟩
/-- What a drawn picture is. -/
def PicR (w:World) (b P:Nat) (e:Ending) (w':World):Prop:=∃(p:Pic) (a:Option Addr) (c n:Nat),e= .returned (.agg #[.int .i64 p.w,.int .i64 p.h,.slice a n c])∧n=p.px.length∧n≤1024 ∧ -8≤p.w∧p.w≤40∧0≤p.h∧p.h≤40∧Sl w' a n (p.px.map (Value.int .i64))∧(∀ y,a=some y→w.heap.size≤y.block)∧RdP w' b P∧w.grownBy w' (some b)
/-- The result out of the box. -/
theorem PicR.of {w wx wy:World} {b P:Nat} {x y:Int} {a:Option Addr} {c n:Nat} {zs:List Int} (hn:n≤1024) (h1 : -8≤x) (h2:x≤40) (h3:0≤y) (h4:y≤40) (s:Sl wx a n (zs.map (Value.int .i64))) (ha:∀ y,a=some y→w.heap.size<y.block) (r:RdP wx b P) (g:w.grownBy wx (some b)) (hb:b<w.heap.size)
 (e:wx.grownBy wy (some w.heap.size)):PicR w b P (.returned (.agg #[.int .i64 x,.int .i64 y,.slice a n c])) wy:=by
 obtain⟨q,hq1,hq2⟩:=r;exact⟨⟨x,y,zs⟩,a,c,n,rfl,s.int_len.symm,hn,h1,h2,h3,h4,s.grown e (fun u hu=>by have:=ha u hu;simp;omega),fun u hu=>by have:=ha u hu;omega,⟨q,hq1,hq2.gr e (fun k hk=>by cases hk;omega)⟩,grown_any g e (fun k hk=>by cases hk;omega)⟩
theorem PH.sl {w wx:World} {b P k O g n c:Nat} {x y:Int} (h:PH w b P k O g n c x y wx):∃ zs:List Int,Sl wx (some ⟨g,0,none⟩) n (zs.map (Value.int .i64)):=by
 obtain⟨h1,h2,h3,⟨zs,h4,h5⟩,h6,h7,h8⟩:=h;exact⟨zs,Sl.of_owns h5⟩
theorem Sl.tail {w:World} {g n:Nat} {zs:List Int} (h:Sl w (some ⟨g,0,none⟩) n (zs.map (Value.int .i64))) (hn:0<n):Sl w (some ⟨g,1,none⟩) (n-1) ((zs.drop 1).map (Value.int .i64)):=by
 have hl:=h.int_len;refine⟨by simp;omega,fun i hi => ?_⟩;obtain⟨b,o,e,hc⟩:=h.int (i:=i+1) (by omega);simp only[Option.some.injEq,Addr.mk.injEq,and_true]at e;obtain⟨rfl,rfl⟩:=e;refine⟨g,1,rfl,?_⟩;rw[Nat.zero_add,Nat.add_comm i 1]at hc;rw[hc,getD_map_int _ _ _ (by simp;omega)]
 congr 2
 simp[nth,List.getElem?_drop,Nat.add_comm]
section
variable {P : Program}
theorem results_cc_row {fn:Func} {p u:Tmp} {ty ty2:TypeId} (h:fn.results = #[.cell p ty,.cell u ty2]) (tmps:Array Value) (w:World) (g g2:Nat) (t t2:TypeId) (cs cs2:Array Value) (fr fr2:Nat×Nat) (d d2:TypeDesc)
 (hp:tmps.getD p undef= .pointer (some ⟨g,0,none⟩)) (hg:w.heap[g]?=some (.cells cs t fr))
 (hu:P.underlying ty=some d) (hd:(match d with | .struct _ | .array _ _=>true|_=>false)=true) (hi:(P.info? ty).map (·.size)=some cs.size)
 (hp2:tmps.getD u undef= .pointer (some ⟨g2,0,none⟩)) (hg2:w.heap[g2]?=some (.cells cs2 t2 fr2))
 (hu2:P.underlying ty2=some d2) (hd2:(match d2 with | .struct _ | .array _ _=>true|_=>false)=true) (hi2:(P.info? ty2).map (·.size)=some cs2.size) :
 (results fn tmps).run P w= .ok (.tuple #[.agg cs,.agg cs2]) w:=by
 have hp':tmps[p]?.getD undef= .pointer (some ⟨g,0,none⟩):=by simpa using hp
 have hp2':tmps[u]?.getD undef= .pointer (some ⟨g2,0,none⟩):=by simpa using hp2
 simp[results,h,hp',hp2',asAddr,run_loadVar_row w g t ty cs fr d hg hu hd hi,run_loadVar_row w g2 t2 ty2 cs2 fr2 d2 hg2 hu2 hd2 hi2,Sem.run_bind,Result.andThen]
theorem results_ctc_row {fn:Func} {p v u:Tmp} {ty ty2:TypeId} (h:fn.results = #[.cell p ty,.tmp v,.cell u ty2]) (tmps:Array Value) (w:World) (g g2:Nat) (t t2:TypeId) (cs cs2:Array Value) (fr fr2:Nat×Nat) (d d2:TypeDesc)
 (hp:tmps.getD p undef= .pointer (some ⟨g,0,none⟩)) (hg:w.heap[g]?=some (.cells cs t fr))
 (hu:P.underlying ty=some d) (hd:(match d with | .struct _ | .array _ _=>true|_=>false)=true) (hi:(P.info? ty).map (·.size)=some cs.size)
 (hp2:tmps.getD u undef= .pointer (some ⟨g2,0,none⟩)) (hg2:w.heap[g2]?=some (.cells cs2 t2 fr2))
 (hu2:P.underlying ty2=some d2) (hd2:(match d2 with | .struct _ | .array _ _=>true|_=>false)=true) (hi2:(P.info? ty2).map (·.size)=some cs2.size) :
 (results fn tmps).run P w= .ok (.tuple #[.agg cs,tmps.getD v undef,.agg cs2]) w:=by
 have hp':tmps[p]?.getD undef= .pointer (some ⟨g,0,none⟩):=by simpa using hp
 have hp2':tmps[u]?.getD undef= .pointer (some ⟨g2,0,none⟩):=by simpa using hp2
 simp[results,h,hp',hp2',asAddr,run_loadVar_row w g t ty cs fr d hg hu hd hi,run_loadVar_row w g2 t2 ty2 cs2 fr2 d2 hg2 hu2 hd2 hi2,Sem.run_bind,Result.andThen]
end
theorem gs3 (w:World) (B:Nat) (u0 u1 u2:Value):w.grownBy (((w.setCell ⟨B,0,none⟩ u0).setCell ⟨B,1,none⟩ u1).setCell ⟨B,2,none⟩ u2) (some B) :=
 grownBy_trans (grownBy_trans (gr_set w B 0 u0) (gr_set _ B 1 u1)) (gr_set _ B 2 u2)
/-- What l20Refs answers. -/
def RfR (w:World) (b P:Nat) (e:Ending) (w':World):Prop :=
 ∃(x:Cd) (a:Option Addr) (c:Nat) (W8 H8:Int) (pa:Option Addr) (pn pc:Nat),e= .returned (.tuple #[.agg #[.int .i64 x.w,.int .i64 x.h,.bool x.i,.int .i64 x.q,.slice a x.n c],.agg #[.int .i64 W8,.int .i64 H8,.slice pa pn pc]])∧x.n≤3∧okF x.f x.n∧SQ w' a x.n x.f∧RdP w' b P∧w.grownBy w' (some b)
theorem l20Refs_0 (b P:Nat) (w:World) (h:RdP w b P) (hp:P<2^34) :
 Calls Try.prog 21 #[.pointer (some ⟨b,0,none⟩),.int .i64 0] w (RfR w b (P+12000)):=by
 have hbw:b<w.heap.size:=h.lt;have R1:=(Ext.alloc (w.alloc (.cells #[.int .i64 0,.int .i64 0,.bool false,.int .i64 0,.slice none 0 0] 41)) (.cells #[.int .i64 0,.int .i64 0,.slice none 0 0] 43)).blk (blk_new w (.cells #[.int .i64 0,.int .i64 0,.bool false,.int .i64 0,.slice none 0 0] 41));have R2:=blk_new (w.alloc (.cells #[.int .i64 0,.int .i64 0,.bool false,.int .i64 0,.slice none 0 0] 41)) (.cells #[.int .i64 0,.int .i64 0,.slice none 0 0] 43);have E1:=(Ext.alloc w (.cells #[.int .i64 0,.int .i64 0,.bool false,.int .i64 0,.slice none 0 0] 41)).trans (Ext.alloc _ (.cells #[.int .i64 0,.int .i64 0,.slice none 0 0] 43));have D1:=h.ext E1;have G1:w.grownBy _ (some b):=ext_gr E1;simp only[World.size_alloc]at R2;have X1:∃ x0 x1 x2 x3 x4:Value,((w.alloc (.cells #[.int .i64 0,.int .i64 0,.bool false,.int .i64 0,.slice none 0 0] 41)).alloc (.cells #[.int .i64 0,.int .i64 0,.slice none 0 0] 43)).heap[w.heap.size]?=some (.cells #[x0,x1,x2,x3,x4] 41 (0,0)):=⟨_,_,_,_,_,R1⟩;have X2:∃ x0 x1 x2:Value,((w.alloc (.cells #[.int .i64 0,.int .i64 0,.bool false,.int .i64 0,.slice none 0 0] 41)).alloc (.cells #[.int .i64 0,.int .i64 0,.slice none 0 0] 43)).heap[w.heap.size+1]?=some (.cells #[x0,x1,x2] 43 (0,0)):=⟨_,_,_,R2⟩;clear R1 R2 E1 h;go_enter Try.func21,Try.ntmps21
 go_wp2_with fail
 try simp only[World.size_alloc]
 generalize (w.alloc (.cells #[.int .i64 0,.int .i64 0,.bool false,.int .i64 0,.slice none 0 0] 41)).alloc (.cells #[.int .i64 0,.int .i64 0,.slice none 0 0] 43)=w1 at *;obtain⟨R,hR⟩:∃ R,R=w.heap.size:=⟨_,rfl⟩;rw[←hR]at X1 X2⊢;have hRb:b<R:=by omega
 have HR:=Lib.hid hR;clear hR;refine(l20Small_c b _ _ D1 (by omega)).mono ?_
 rintro e w2 ⟨s1,rfl,s1a,s1b,D2,g2⟩
 have G2:=grown_trans G1 g2;have Y1:∃ x0 x1 x2 x3 x4:Value,w2.heap[R]?=some (.cells #[x0,x1,x2,x3,x4] 41 (0,0)):=by obtain⟨x0,x1,x2,x3,x4,hx⟩:=X1;exact⟨_,_,_,_,_,gr_blk g2 hx (by omega)⟩
 have Y2:∃ x0 x1 x2:Value,w2.heap[R+1]?=some (.cells #[x0,x1,x2] 43 (0,0)):=by obtain⟨x0,x1,x2,hx⟩:=X2;exact⟨_,_,_,gr_blk g2 hx (by omega)⟩
 clear D1 G1 g2 X1 X2;obtain⟨W8,hW8⟩:∃ q:Int,q=((8*s1:Nat):Int):=⟨_,rfl⟩;have HW:=Lib.hid hW8;rw[←hW8];clear hW8;go_wp2_with fail
 refine(l20Small_c b _ _ D2 (by omega)).mono ?_
 rintro e w3 ⟨s2,rfl,s2a,s2b,D3,g3⟩
 have G3:=grown_trans G2 g3;have X1:∃ x0 x1 x2 x3 x4:Value,w3.heap[R]?=some (.cells #[x0,x1,x2,x3,x4] 41 (0,0)):=by obtain⟨x0,x1,x2,x3,x4,hx⟩:=Y1;exact⟨_,_,_,_,_,gr_blk g3 hx (by omega)⟩
 have X2:∃ x0 x1 x2:Value,w3.heap[R+1]?=some (.cells #[x0,x1,x2] 43 (0,0)):=by obtain⟨x0,x1,x2,hx⟩:=Y2;exact⟨_,_,_,gr_blk g3 hx (by omega)⟩
 clear D2 G2 g3 Y1 Y2;obtain⟨H8,hH8⟩:∃ q:Int,q=((8*s2:Nat):Int):=⟨_,rfl⟩;have HH:=Lib.hid hH8;rw[←hH8];clear hH8;have hPic:=Lib.hid (l20Pic_c b _ (8*s1) (8*s2) w3 D3 (by omega) (by unfold side;omega) (by unfold side;omega));rw[←HW.out,←HH.out]at hPic;go_wp2_with fail
 refine hPic.out.mono ?_
 rintro e w4 ⟨pa,pc,pn,pz,rfl,-,-,-,D4,g4⟩
 have G4:=grown_trans G3 g4;have Y1:∃ x0 x1 x2 x3 x4:Value,w4.heap[R]?=some (.cells #[x0,x1,x2,x3,x4] 41 (0,0)):=by obtain⟨x0,x1,x2,x3,x4,hx⟩:=X1;exact⟨_,_,_,_,_,gr_blk g4 hx (by omega)⟩
 have Y2:∃ x0 x1 x2:Value,w4.heap[R+1]?=some (.cells #[x0,x1,x2] 43 (0,0)):=by obtain⟨x0,x1,x2,hx⟩:=X2;exact⟨_,_,_,gr_blk g4 hx (by omega)⟩
 clear D3 G3 g4 X1 X2 hPic;have e5:=Ext.alloc w4 (.cells #[.int .i64 W8,.int .i64 H8,.slice pa pn pc] 43);have p5:=blk_new w4 (.cells #[.int .i64 W8,.int .i64 H8,.slice pa pn pc] 43);have D5:=D4.ext e5;have G5:=grown_ext G4 e5;have X1:∃ x0 x1 x2 x3 x4:Value,(w4.alloc (.cells #[.int .i64 W8,.int .i64 H8,.slice pa pn pc] 43)).heap[R]?=some (.cells #[x0,x1,x2,x3,x4] 41 (0,0)):=by obtain⟨x0,x1,x2,x3,x4,hx⟩:=Y1;exact⟨_,_,_,_,_,e5.blk hx⟩
 have X2:∃ x0 x1 x2:Value,(w4.alloc (.cells #[.int .i64 W8,.int .i64 H8,.slice pa pn pc] 43)).heap[R+1]?=some (.cells #[x0,x1,x2] 43 (0,0)):=by obtain⟨x0,x1,x2,hx⟩:=Y2;exact⟨_,_,_,e5.blk hx⟩
 have hR4:R+1<w4.heap.size:=by obtain⟨x0,x1,x2,hx⟩:=Y2;exact lt_of_block hx
 clear D4 G4 e5 Y1 Y2;go_wp2_with fail
 generalize w4.alloc (.cells #[.int .i64 W8,.int .i64 H8,.slice pa pn pc] 43)=w5 at *;obtain⟨q8,hq8⟩:∃ q,q=w4.heap.size:=⟨_,rfl⟩;rw[←hq8]at p5 hR4⊢;clear hq8;refine(pick_c b _ 3 _ D5 (by omega) (by omega) (by omega)).mono ?_
 rintro e w6 ⟨y,rfl,ya,yb,D6,g6⟩
 have G6:=grown_trans G5 g6;have Y1:∃ x0 x1 x2 x3 x4:Value,w6.heap[R]?=some (.cells #[x0,x1,x2,x3,x4] 41 (0,0)):=by obtain⟨x0,x1,x2,x3,x4,hx⟩:=X1;exact⟨_,_,_,_,_,gr_blk g6 hx (by omega)⟩
 have Y2:∃ x0 x1 x2:Value,w6.heap[R+1]?=some (.cells #[x0,x1,x2] 43 (0,0)):=by obtain⟨x0,x1,x2,hx⟩:=X2;exact⟨_,_,_,gr_blk g6 hx (by omega)⟩
 have p6:=gr_blk g6 p5 (by omega);clear D5 G5 g6 X1 X2 p5;go_wp2_with fail
 refine(l20Coded_c b _ s1 s2 W8 H8 _ 0 _ D6 (by omega) ⟨s1a,s1b⟩ ⟨s2a,s2b⟩ (by have:=HW.out;omega) (by have:=HH.out;omega) (by omega) (by omega)).mono ?_
 rintro e w7 ⟨x,a,c,rfl,hx1,hx2,S7,hx4,D7,g7⟩
 have G7:=grown_trans G6 g7;have X1:∃ x0 x1 x2 x3 x4:Value,w7.heap[R]?=some (.cells #[x0,x1,x2,x3,x4] 41 (0,0)):=by obtain⟨x0,x1,x2,x3,x4,hx⟩:=Y1;exact⟨_,_,_,_,_,gr_blk g7 hx (by omega)⟩
 have X2:∃ x0 x1 x2:Value,w7.heap[R+1]?=some (.cells #[x0,x1,x2] 43 (0,0)):=by obtain⟨x0,x1,x2,hx⟩:=Y2;exact⟨_,_,_,gr_blk g7 hx (by omega)⟩
 have p7:=gr_blk g7 p6 (by omega);have hq87:=lt_of_block p7;clear D6 G6 g7 Y1 Y2 p6;have HF:=Lib.hid hx2;clear hx2;have e8:=Ext.alloc w7 (.cells #[.int .i64 x.w,.int .i64 x.h,.bool x.i,.int .i64 x.q,.slice a x.n c] 41);have p8:=blk_new w7 (.cells #[.int .i64 x.w,.int .i64 x.h,.bool x.i,.int .i64 x.q,.slice a x.n c] 41);have D8:=(D7.ext e8).mono (P':=P+12000) (by omega);have G8:=grown_ext G7 e8;have S8:=S7.ext e8;have p8':=e8.blk p7;have Y1:∃ x0 x1 x2 x3 x4:Value,(w7.alloc (.cells #[.int .i64 x.w,.int .i64 x.h,.bool x.i,.int .i64 x.q,.slice a x.n c] 41)).heap[R]?=some (.cells #[x0,x1,x2,x3,x4] 41 (0,0)):=by obtain⟨x0,x1,x2,x3,x4,hx⟩:=X1;exact⟨_,_,_,_,_,e8.blk hx⟩
 have Y2:∃ x0 x1 x2:Value,(w7.alloc (.cells #[.int .i64 x.w,.int .i64 x.h,.bool x.i,.int .i64 x.q,.slice a x.n c] 41)).heap[R+1]?=some (.cells #[x0,x1,x2] 43 (0,0)):=by obtain⟨x0,x1,x2,hx⟩:=X2;exact⟨_,_,_,e8.blk hx⟩
 have HX:=Lib.hid hx1;clear D7 G7 S7 e8 p7 X1 X2 hx1 hx4;go_wp2_with fail
 generalize w7.alloc (.cells #[.int .i64 x.w,.int .i64 x.h,.bool x.i,.int .i64 x.q,.slice a x.n c] 41)=w8 at *;obtain⟨q9,hq9⟩:∃ q,q=w7.heap.size:=⟨_,rfl⟩;rw[←hq9]at p8 hq87⊢;clear hq9;refine(odd_0 b 0 _ (by omega)).mono ?_
 rintro e w9 ⟨rfl,rfl⟩
 have hRq:R+1<q8:=hR4;have Hcd:=Lib.hid (show w.heap.size≤R by rw[HR.out];exact Nat.le_refl _);obtain⟨xw,xh,xi,xq,xn,xf⟩:=x;go_upto_region 7 with fail
 refine wp_region_inv2 (by kernel_rfl) [(31,0),(32,1)] [[],[],[0],[0,1,2]] (fun i own ys wx=>match i with|0=>own= .agg #[.int .i64 xw,.int .i64 xh,.bool xi,.int .i64 xq,.slice a xn c]|1=>own= .agg #[.int .i64 W8,.int .i64 H8,.slice pa pn pc]|2=>wx.heap[R]?=some (.cells #[.int .i64 xw,.int .i64 xh,.bool xi,.int .i64 xq,.slice a xn c] 41 (0,0))|3=>wx.heap[R+1]?=some (.cells #[.int .i64 W8,.int .i64 H8,.slice pa pn pc] 43 (0,0))|_=>True) (fun kx wx=>w.grownBy wx (some b)∧RdP wx b (P+12000)∧SQ wx a xn xf∧wx.heap[q9]?=some (.cells #[.int .i64 xw,.int .i64 xh,.bool xi,.int .i64 xq,.slice a xn c] 41 (0,0))∧wx.heap[q8]?=some (.cells #[.int .i64 W8,.int .i64 H8,.slice pa pn pc] 43 (0,0))∧(∃ x0 x1 x2 x3 x4:Value,wx.heap[R]?=some (.cells #[x0,x1,x2,x3,x4] 41 (0,0)))∧(∃ x0 x1 x2:Value,wx.heap[R+1]?=some (.cells #[x0,x1,x2] 43 (0,0)))) (by kernel_rfl) (by kernel_rfl) (by kernel_rfl) ?g0_r1 ?gop_r1 ?gend_r1
 case g0_r1=>exact⟨grown_drew G8,D8.drew,S8.ext (Ext.drewN _ 1),p8,p8',Y1,Y2⟩
 case gop_r1 =>
  refine⟨?o0,?o1,?o2,?o3,trivial⟩ <;> (intro kx xs wx hk hG hD hI Qo Kx hK hQo;simp only[patchS,Nat.reduceAdd,Nat.reduceEqDiff,↓reduceIte]at hQo⊢)
  case o0 =>
   clear hD hI;obtain⟨-,k0,k1,k2,k3,k4⟩:=bx5 hG.2.2.2.1;go_wp2;exact hK.out _ _ ⟨rfl,hG,kkp⟩
  case o1 =>
   clear hD hI;obtain⟨-,k0,k1,k2,-⟩:=bx3 hG.2.2.2.2.1;go_wp2;exact hK.out _ _ ⟨rfl,hG,kkp⟩
  case o2 =>
   rw[ddq (hD 0 rfl)]at hQo⊢;clear hD hI;obtain⟨g1,g2,g3,g4,g5,⟨x0,x1,x2,x3,x4,g6⟩,y0,y1,y2,g7⟩:=hG;obtain⟨-,k0,k1,k2,k3,k4⟩:=bx5 g6;obtain⟨f0,f1,f2,f3,f4⟩:=fz5 g6;go_wp2;have hst:∀(wy:World),(∀ v,wx.heap[R+1]?=some v→wy.heap[R+1]?=some v)→Stbn 4 2 [[],[],[0],[0,1,2]] (fun i own ys wx=>match i with|0=>own= .agg #[.int .i64 xw,.int .i64 xh,.bool xi,.int .i64 xq,.slice a xn c]|1=>own= .agg #[.int .i64 W8,.int .i64 H8,.slice pa pn pc]|2=>wx.heap[R]?=some (.cells #[.int .i64 xw,.int .i64 xh,.bool xi,.int .i64 xq,.slice a xn c] 41 (0,0))|3=>wx.heap[R+1]?=some (.cells #[.int .i64 W8,.int .i64 H8,.slice pa pn pc] 43 (0,0))|_=>True) wx wy:=by
    intro wy hy ii hii hne hc own ys h
    match ii,h with
    | 0,h|1,h=>exact h
    | 2,h=>exact absurd rfl hne
    | 3,h=>exact absurd hc (by decide)
    | _+4,_=>trivial
   have gg:=gs5 wx R 0 1 2 3 4 (.int .i64 xw) (.int .i64 xh) (.bool xi) (.int .i64 xq) (.slice a xn c);have bb:=blk_set5 (y0 := .int .i64 xw) (y1 := .int .i64 xh) (y2 := .bool xi) (y3 := .int .i64 xq) (y4 := .slice a xn c) g6;exact hQo undef _ (hK.out _ _ ⟨bb,⟨grown_any g1 gg (fun q hq=>by cases hq;exact Hcd.out),g2.grE gg (fun q hq=>by cases hq;omega),g3.gr gg g6 (by decide) (by decide),blk_gr g4 gg (by simp;omega),blk_gr g5 gg (by simp;omega),⟨_,_,_,_,_,bb⟩,_,_,_,blk_gr g7 gg (by simp)⟩,hst _ (fun v hv=>blk_gr hv gg (by simp))⟩)
  case o3 =>
   rw[ddq (hD 1 rfl)]at hQo⊢;clear hD hI;obtain⟨g1,g2,g3,g4,g5,⟨x0,x1,x2,x3,x4,g6⟩,y0,y1,y2,g7⟩:=hG;obtain⟨-,k0,k1,k2,f0,f1,f2⟩:=bx3 g7;go_wp2;have hst:∀(wy:World),(∀ v,wx.heap[R]?=some v→wy.heap[R]?=some v)→Stbn 4 3 [[],[],[0],[0,1,2]] (fun i own ys wx=>match i with|0=>own= .agg #[.int .i64 xw,.int .i64 xh,.bool xi,.int .i64 xq,.slice a xn c]|1=>own= .agg #[.int .i64 W8,.int .i64 H8,.slice pa pn pc]|2=>wx.heap[R]?=some (.cells #[.int .i64 xw,.int .i64 xh,.bool xi,.int .i64 xq,.slice a xn c] 41 (0,0))|3=>wx.heap[R+1]?=some (.cells #[.int .i64 W8,.int .i64 H8,.slice pa pn pc] 43 (0,0))|_=>True) wx wy:=by
    intro wy hy ii hii hne hc own ys h
    match ii,h with
    | 0,h|1,h=>exact h
    | 2,h=>exact hy _ h
    | 3,h=>exact absurd rfl hne
    | _+4,_=>trivial
   have gg:=gs3 wx (R+1) (.int .i64 W8) (.int .i64 H8) (.slice pa pn pc);have bb:=blk_set3 (x' := .int .i64 W8) (y' := .int .i64 H8) (z' := .slice pa pn pc) g7;exact hQo undef _ (hK.out _ _ ⟨bb,⟨grown_any g1 gg (fun q hq=>by cases hq;have:=Hcd.out;omega),g2.grE gg (fun q hq=>by cases hq;omega),g3.gr gg g7 (by decide) (by decide),blk_gr g4 gg (by simp;omega),blk_gr g5 gg (by simp;omega),⟨_,_,_,_,_,blk_gr g6 gg (by simp)⟩,_,_,_,bb⟩,hst _ (fun v hv=>blk_gr hv gg (by simp))⟩)
 intro xs wx hV hG;have d2:wx.heap[R]?=some (.cells #[.int .i64 xw,.int .i64 xh,.bool xi,.int .i64 xq,.slice a xn c] 41 (0,0)):=hV 2 (by decide);have d3:wx.heap[R+1]?=some (.cells #[.int .i64 W8,.int .i64 H8,.slice pa pn pc] 43 (0,0)):=hV 3 (by decide);clear hV;simp only[patchS,Nat.reduceAdd,Nat.reduceEqDiff,↓reduceIte];generalize xs 0=y0,xs 1=y1,xs 2=y2,xs 3=y3 at *
 replace hG:w.grownBy wx (some b)∧RdP wx b (P+12000)∧SQ wx a xn xf∧wx.heap[q9]?=some (.cells #[.int .i64 xw,.int .i64 xh,.bool xi,.int .i64 xq,.slice a xn c] 41 (0,0))∧wx.heap[q8]?=some (.cells #[.int .i64 W8,.int .i64 H8,.slice pa pn pc] 43 (0,0))∧(∃ x0 x1 x2 x3 x4:Value,wx.heap[R]?=some (.cells #[x0,x1,x2,x3,x4] 41 (0,0)))∧(∃ x0 x1 x2:Value,wx.heap[R+1]?=some (.cells #[x0,x1,x2] 43 (0,0))):=hG
 go_wp2;refine bodyPost_ret (results_cc_row rfl _ _ R (R+1) 41 43 _ _ (0,0) (0,0) _ _ rfl d2 Try.underlying41 rfl size_Coded rfl d3 Try.underlying43 rfl size_Picture) rfl ?_;exact⟨⟨xw,xh,xi,xq,xn,xf⟩,a,c,W8,H8,pa,pn,pc,rfl,HX.out,HF.out,hG.2.2.1,hG.2.1,hG.1⟩
end Go.Proofs.Ytphfacfjhjcllaa
