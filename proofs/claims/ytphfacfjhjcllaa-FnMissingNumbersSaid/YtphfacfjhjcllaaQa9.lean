/- Drawing: a coded picture and a reference picture. | Drawing: lists of packets; a list that was appended to behind its first element. -/
import Derived.Test.YtphfacfjhjcllaaQa8
import Derived.ArgAppend
set_option linter.unusedVariables false
set_option linter.unusedSimpArgs false
set_option maxRecDepth 100000
set_option maxHeartbeats 4000000
namespace Go.Proofs.Ytphfacfjhjcllaa
open Go.RowKit
section
variable {P : Program}
theorem results_cc_row {fn:Func} {p u:Tmp} {ty ty2:TypeId} (h:fn.results = #[.cell p ty,.cell u ty2]) (tmps:Array Value) (w:World) (g g2:Nat) (t t2:TypeId) (cs cs2:Array Value) (fr fr2:Nat×Nat) (d d2:TypeDesc)
 (hp:tmps.getD p undef= .pointer (some ⟨g,0,none⟩)) (hg:w.heap[g]?=some (.cells cs t fr))
 (hu:P.underlying ty=some d) (hd:(match d with | .struct _ | .array _ _=>true|_=>false)=true) (hi:(P.info? ty).map (·.size)=some cs.size)
 (hp2:tmps.getD u undef= .pointer (some ⟨g2,0,none⟩)) (hg2:w.heap[g2]?=some (.cells cs2 t2 fr2))
 (hu2:P.underlying ty2=some d2) (hd2:(match d2 with | .struct _ | .array _ _=>true|_=>false)=true) (hi2:(P.info? ty2).map (·.size)=some cs2.size) :
 (results fn tmps).run P w= .ok (.tuple #[.agg cs,.agg cs2]) w:=by
 have hp':tmps[p]?.getD undef= .pointer (some ⟨g,0,none⟩):=by simpa using hp
 have hp2':tmps[u]?.getD undef= .pointer (some ⟨g2,0,none⟩):=by simpa using hp2
 simp[results,h,hp',hp2',asAddr,run_loadVar_row w g t ty cs fr d hg hu hd hi,run_loadVar_row w g2 t2 ty2 cs2 fr2 d2 hg2 hu2 hd2 hi2,Sem.run_bind,Result.andThen]
theorem results_ctc_row {fn:Func} {p v u:Tmp} {ty ty2:TypeId} (h:fn.results = #[.cell p ty,.tmp v,.cell u ty2]) (tmps:Array Value) (w:World) (g g2:Nat) (t t2:TypeId) (cs cs2:Array Value) (fr fr2:Nat×Nat) (d d2:TypeDesc)
 (hp:tmps.getD p undef= .pointer (some ⟨g,0,none⟩)) (hg:w.heap[g]?=some (.cells cs t fr))
 (hu:P.underlying ty=some d) (hd:(match d with | .struct _ | .array _ _=>true|_=>false)=true) (hi:(P.info? ty).map (·.size)=some cs.size)
 (hp2:tmps.getD u undef= .pointer (some ⟨g2,0,none⟩)) (hg2:w.heap[g2]?=some (.cells cs2 t2 fr2))
 (hu2:P.underlying ty2=some d2) (hd2:(match d2 with | .struct _ | .array _ _=>true|_=>false)=true) (hi2:(P.info? ty2).map (·.size)=some cs2.size) :
 (results fn tmps).run P w= .ok (.tuple #[.agg cs,tmps.getD v undef,.agg cs2]) w:=by
 have hp':tmps[p]?.getD undef= .pointer (some ⟨g,0,none⟩):=by simpa using hp
 have hp2':tmps[u]?.getD undef= .pointer (some ⟨g2,0,none⟩):=by simpa using hp2
 simp[results,h,hp',hp2',asAddr,run_loadVar_row w g t ty cs fr d hg hu hd hi,run_loadVar_row w g2 t2 ty2 cs2 fr2 d2 hg2 hu2 hd2 hi2,Sem.run_bind,Result.andThen]
end
theorem gs3 (w:World) (B:Nat) (u0 u1 u2:Value):w.grownBy (((w.setCell ⟨B,0,none⟩ u0).setCell ⟨B,1,none⟩ u1).setCell ⟨B,2,none⟩ u2) (some B) :=
 grownBy_trans (grownBy_trans (gr_set w B 0 u0) (gr_set _ B 1 u1)) (gr_set _ B 2 u2)
/-- What l20Refs answers. -/
def RfR (w:World) (b P:Nat) (e:Ending) (w':World):Prop :=
 ∃(x:Cd) (a:Option Addr) (c:Nat) (W8 H8:Int) (pa:Option Addr) (pn pc:Nat),e= .returned (.tuple #[.agg #[.int .i64 x.w,.int .i64 x.h,.bool x.i,.int .i64 x.q,.slice a x.n c],.agg #[.int .i64 W8,.int .i64 H8,.slice pa pn pc]])∧x.n≤3∧okF x.f x.n∧SQ w' a x.n x.f∧RdP w' b P∧w.grownBy w' (some b)
theorem l20Refs_0 (b P:Nat) (w:World) (h:RdP w b P) (hp:P<2^34) :
 Calls Try.prog 21 #[.pointer (some ⟨b,0,none⟩),.int .i64 0] w (RfR w b (P+12000)):=by
 have hbw:b<w.heap.size:=h.lt;have R1:=(Ext.alloc (w.alloc (.cells #[.int .i64 0,.int .i64 0,.bool false,.int .i64 0,.slice none 0 0] 41)) (.cells #[.int .i64 0,.int .i64 0,.slice none 0 0] 43)).blk (blk_new w (.cells #[.int .i64 0,.int .i64 0,.bool false,.int .i64 0,.slice none 0 0] 41));have R2:=blk_new (w.alloc (.cells #[.int .i64 0,.int .i64 0,.bool false,.int .i64 0,.slice none 0 0] 41)) (.cells #[.int .i64 0,.int .i64 0,.slice none 0 0] 43);have E1:=(Ext.alloc w (.cells #[.int .i64 0,.int .i64 0,.bool false,.int .i64 0,.slice none 0 0] 41)).trans (Ext.alloc _ (.cells #[.int .i64 0,.int .i64 0,.slice none 0 0] 43));have D1:=h.ext E1;have G1:w.grownBy _ (some b):=ext_gr E1;simp only[World.size_alloc]at R2;have X1:∃ x0 x1 x2 x3 x4:Value,((w.alloc (.cells #[.int .i64 0,.int .i64 0,.bool false,.int .i64 0,.slice none 0 0] 41)).alloc (.cells #[.int .i64 0,.int .i64 0,.slice none 0 0] 43)).heap[w.heap.size]?=some (.cells #[x0,x1,x2,x3,x4] 41 (0,0)):=⟨_,_,_,_,_,R1⟩;have X2:∃ x0 x1 x2:Value,((w.alloc (.cells #[.int .i64 0,.int .i64 0,.bool false,.int .i64 0,.slice none 0 0] 41)).alloc (.cells #[.int .i64 0,.int .i64 0,.slice none 0 0] 43)).heap[w.heap.size+1]?=some (.cells #[x0,x1,x2] 43 (0,0)):=⟨_,_,_,R2⟩;clear R1 R2 E1 h;go_enter Try.func21,Try.ntmps21
 go_wp2_with fail
 try simp only[World.size_alloc]
 generalize (w.alloc (.cells #[.int .i64 0,.int .i64 0,.bool false,.int .i64 0,.slice none 0 0] 41)).alloc (.cells #[.int .i64 0,.int .i64 0,.slice none 0 0] 43)=w1 at *;obtain⟨R,hR⟩:∃ R,R=w.heap.size:=⟨_,rfl⟩;rw[←hR]at X1 X2⊢;have hRb:b<R:=by omega
 have HR:=Lib.hid hR;clear hR;refine(l20Small_c b _ _ D1 (by omega)).mono ?_
 rintro e w2 ⟨s1,rfl,s1a,s1b,D2,g2⟩
 have G2:=grown_trans G1 g2;have Y1:∃ x0 x1 x2 x3 x4:Value,w2.heap[R]?=some (.cells #[x0,x1,x2,x3,x4] 41 (0,0)):=by obtain⟨x0,x1,x2,x3,x4,hx⟩:=X1;exact⟨_,_,_,_,_,gr_blk g2 hx (by omega)⟩
 have Y2:∃ x0 x1 x2:Value,w2.heap[R+1]?=some (.cells #[x0,x1,x2] 43 (0,0)):=by obtain⟨x0,x1,x2,hx⟩:=X2;exact⟨_,_,_,gr_blk g2 hx (by omega)⟩
 clear D1 G1 g2 X1 X2;obtain⟨W8,hW8⟩:∃ q:Int,q=((8*s1:Nat):Int):=⟨_,rfl⟩;have HW:=Lib.hid hW8;rw[←hW8];clear hW8;go_wp2_with fail
 refine(l20Small_c b _ _ D2 (by omega)).mono ?_
 rintro e w3 ⟨s2,rfl,s2a,s2b,D3,g3⟩
 have G3:=grown_trans G2 g3;have X1:∃ x0 x1 x2 x3 x4:Value,w3.heap[R]?=some (.cells #[x0,x1,x2,x3,x4] 41 (0,0)):=by obtain⟨x0,x1,x2,x3,x4,hx⟩:=Y1;exact⟨_,_,_,_,_,gr_blk g3 hx (by omega)⟩
 have X2:∃ x0 x1 x2:Value,w3.heap[R+1]?=some (.cells #[x0,x1,x2] 43 (0,0)):=by obtain⟨x0,x1,x2,hx⟩:=Y2;exact⟨_,_,_,gr_blk g3 hx (by omega)⟩
 clear D2 G2 g3 Y1 Y2;obtain⟨H8,hH8⟩:∃ q:Int,q=((8*s2:Nat):Int):=⟨_,rfl⟩;have HH:=Lib.hid hH8;rw[←hH8];clear hH8;have hPic:=Lib.hid (l20Pic_c b _ (8*s1) (8*s2) w3 D3 (by omega) (by unfold side;omega) (by unfold side;omega));rw[←HW.out,←HH.out]at hPic;go_wp2_with fail
 refine hPic.out.mono ?_
 rintro e w4 ⟨pa,pc,pn,pz,rfl,-,-,-,D4,g4⟩
 have G4:=grown_trans G3 g4;have Y1:∃ x0 x1 x2 x3 x4:Value,w4.heap[R]?=some (.cells #[x0,x1,x2,x3,x4] 41 (0,0)):=by obtain⟨x0,x1,x2,x3,x4,hx⟩:=X1;exact⟨_,_,_,_,_,gr_blk g4 hx (by omega)⟩
 have Y2:∃ x0 x1 x2:Value,w4.heap[R+1]?=some (.cells #[x0,x1,x2] 43 (0,0)):=by obtain⟨x0,x1,x2,hx⟩:=X2;exact⟨_,_,_,gr_blk g4 hx (by omega)⟩
 clear D3 G3 g4 X1 X2 hPic;have e5:=Ext.alloc w4 (.cells #[.int .i64 W8,.int .i64 H8,.slice pa pn pc] 43);have p5:=blk_new w4 (.cells #[.int .i64 W8,.int .i64 H8,.slice pa pn pc] 43);have D5:=D4.ext e5;have G5:=grown_ext G4 e5;have X1:∃ x0 x1 x2 x3 x4:Value,(w4.alloc (.cells #[.int .i64 W8,.int .i64 H8,.slice pa pn pc] 43)).heap[R]?=some (.cells #[x0,x1,x2,x3,x4] 41 (0,0)):=by obtain⟨x0,x1,x2,x3,x4,hx⟩:=Y1;exact⟨_,_,_,_,_,e5.blk hx⟩
 have X2:∃ x0 x1 x2:Value,(w4.alloc (.cells #[.int .i64 W8,.int .i64 H8,.slice pa pn pc] 43)).heap[R+1]?=some (.cells #[x0,x1,x2] 43 (0,0)):=by obtain⟨x0,x1,x2,hx⟩:=Y2;exact⟨_,_,_,e5.blk hx⟩
 have hR4:R+1<w4.heap.size:=by obtain⟨x0,x1,x2,hx⟩:=Y2;exact lt_of_block hx
 clear D4 G4 e5 Y1 Y2;go_wp2_with fail
 generalize w4.alloc (.cells #[.int .i64 W8,.int .i64 H8,.slice pa pn pc] 43)=w5 at *;obtain⟨q8,hq8⟩:∃ q,q=w4.heap.size:=⟨_,rfl⟩;rw[←hq8]at p5 hR4⊢;clear hq8;refine(pick_c b _ 3 _ D5 (by omega) (by omega) (by omega)).mono ?_
 rintro e w6 ⟨y,rfl,ya,yb,D6,g6⟩
 have G6:=grown_trans G5 g6;have Y1:∃ x0 x1 x2 x3 x4:Value,w6.heap[R]?=some (.cells #[x0,x1,x2,x3,x4] 41 (0,0)):=by obtain⟨x0,x1,x2,x3,x4,hx⟩:=X1;exact⟨_,_,_,_,_,gr_blk g6 hx (by omega)⟩
 have Y2:∃ x0 x1 x2:Value,w6.heap[R+1]?=some (.cells #[x0,x1,x2] 43 (0,0)):=by obtain⟨x0,x1,x2,hx⟩:=X2;exact⟨_,_,_,gr_blk g6 hx (by omega)⟩
 have p6:=gr_blk g6 p5 (by omega);clear D5 G5 g6 X1 X2 p5;go_wp2_with fail
 refine(l20Coded_c b _ s1 s2 W8 H8 _ 0 _ D6 (by omega) ⟨s1a,s1b⟩ ⟨s2a,s2b⟩ (by have:=HW.out;omega) (by have:=HH.out;omega) (by omega) (by omega)).mono ?_
 rintro e w7 ⟨x,a,c,rfl,hx1,hx2,S7,hx4,D7,g7⟩
 have G7:=grown_trans G6 g7;have X1:∃ x0 x1 x2 x3 x4:Value,w7.heap[R]?=some (.cells #[x0,x1,x2,x3,x4] 41 (0,0)):=by obtain⟨x0,x1,x2,x3,x4,hx⟩:=Y1;exact⟨_,_,_,_,_,gr_blk g7 hx (by omega)⟩
 have X2:∃ x0 x1 x2:Value,w7.heap[R+1]?=some (.cells #[x0,x1,x2] 43 (0,0)):=by obtain⟨x0,x1,x2,hx⟩:=Y2;exact⟨_,_,_,gr_blk g7 hx (by omega)⟩
 have p7:=gr_blk g7 p6 (by omega);have hq87:=lt_of_block p7;clear D6 G6 g7 Y1 Y2 p6;have HF:=Lib.hid hx2;clear hx2;have e8:=Ext.alloc w7 (.cells #[.int .i64 x.w,.int .i64 x.h,.bool x.i,.int .i64 x.q,.slice a x.n c] 41);have p8:=blk_new w7 (.cells #[.int .i64 x.w,.int .i64 x.h,.bool x.i,.int .i64 x.q,.slice a x.n c] 41);have D8:=(D7.ext e8).mono (P':=P+12000) (by omega);have G8:=grown_ext G7 e8;have S8:=S7.ext e8;have p8':=e8.blk p7;have Y1:∃ x0 x1 x2 x3 x4:Value,(w7.alloc (.cells #[.int .i64 x.w,.int .i64 x.h,.bool x.i,.int .i64 x.q,.slice a x.n c] 41)).heap[R]?=some (.cells #[x0,x1,x2,x3,x4] 41 (0,0)):=by obtain⟨x0,x1,x2,x3,x4,hx⟩:=X1;exact⟨_,_,_,_,_,e8.blk hx⟩
 have Y2:∃ x0 x1 x2:Value,(w7.alloc (.cells #[.int .i64 x.w,.int .i64 x.h,.bool x.i,.int .i64 x.q,.slice a x.n c] 41)).heap[R+1]?=some (.cells #[x0,x1,x2] 43 (0,0)):=by obtain⟨x0,x1,x2,hx⟩:=X2;exact⟨_,_,_,e8.blk hx⟩
 have HX:=Lib.hid hx1;clear D7 G7 S7 e8 p7 X1 X2 hx1 hx4;go_wp2_with fail
 generalize w7.alloc (.cells #[.int .i64 x.w,.int .i64 x.h,.bool x.i,.int .i64 x.q,.slice a x.n c] 41)=w8 at *;obtain⟨q9,hq9⟩:∃ q,q=w7.heap.size:=⟨_,rfl⟩;rw[←hq9]at p8 hq87⊢;clear hq9;refine(odd_0 b 0 _ (by omega)).mono ?_
 rintro e w9 ⟨rfl,rfl⟩
 have hRq:R+1<q8:=hR4;have Hcd:=Lib.hid (show w.heap.size≤R by rw[HR.out];exact Nat.le_refl _);obtain⟨xw,xh,xi,xq,xn,xf⟩:=x;go_upto_region 7 with fail
 refine wp_region_inv2 (by kernel_rfl) [(31,0),(32,1)] [[],[],[0],[0,1,2]] (fun i own ys wx=>match i with|0=>own= .agg #[.int .i64 xw,.int .i64 xh,.bool xi,.int .i64 xq,.slice a xn c]|1=>own= .agg #[.int .i64 W8,.int .i64 H8,.slice pa pn pc]|2=>wx.heap[R]?=some (.cells #[.int .i64 xw,.int .i64 xh,.bool xi,.int .i64 xq,.slice a xn c] 41 (0,0))|3=>wx.heap[R+1]?=some (.cells #[.int .i64 W8,.int .i64 H8,.slice pa pn pc] 43 (0,0))|_=>True) (fun kx wx=>w.grownBy wx (some b)∧RdP wx b (P+12000)∧SQ wx a xn xf∧wx.heap[q9]?=some (.cells #[.int .i64 xw,.int .i64 xh,.bool xi,.int .i64 xq,.slice a xn c] 41 (0,0))∧wx.heap[q8]?=some (.cells #[.int .i64 W8,.int .i64 H8,.slice pa pn pc] 43 (0,0))∧(∃ x0 x1 x2 x3 x4:Value,wx.heap[R]?=some (.cells #[x0,x1,x2,x3,x4] 41 (0,0)))∧(∃ x0 x1 x2:Value,wx.heap[R+1]?=some (.cells #[x0,x1,x2] 43 (0,0)))) (by kernel_rfl) (by kernel_rfl) (by kernel_rfl) ?g0_r1 ?gop_r1 ?gend_r1
 case g0_r1=>exact⟨grown_drew G8,D8.drew,S8.ext (Ext.drewN _ 1),p8,p8',Y1,Y2⟩
 case gop_r1 =>
  refine⟨?o0,?o1,?o2,?o3,trivial⟩ <;> (intro kx xs wx hk hG hD hI Qo Kx hK hQo;simp only[patchS,Nat.reduceAdd,Nat.reduceEqDiff,↓reduceIte]at hQo⊢)
  case o0 =>
   clear hD hI;obtain⟨-,k0,k1,k2,k3,k4⟩:=bx5 hG.2.2.2.1;go_wp2;exact hK.out _ _ ⟨rfl,hG,kkp⟩
  case o1 =>
   clear hD hI;obtain⟨-,k0,k1,k2,-⟩:=bx3 hG.2.2.2.2.1;go_wp2;exact hK.out _ _ ⟨rfl,hG,kkp⟩
  case o2 =>
   rw[ddq (hD 0 rfl)]at hQo⊢;clear hD hI;obtain⟨g1,g2,g3,g4,g5,⟨x0,x1,x2,x3,x4,g6⟩,y0,y1,y2,g7⟩:=hG;obtain⟨-,k0,k1,k2,k3,k4⟩:=bx5 g6;obtain⟨f0,f1,f2,f3,f4⟩:=fz5 g6;go_wp2;have hst:∀(wy:World),(∀ v,wx.heap[R+1]?=some v→wy.heap[R+1]?=some v)→Stbn 4 2 [[],[],[0],[0,1,2]] (fun i own ys wx=>match i with|0=>own= .agg #[.int .i64 xw,.int .i64 xh,.bool xi,.int .i64 xq,.slice a xn c]|1=>own= .agg #[.int .i64 W8,.int .i64 H8,.slice pa pn pc]|2=>wx.heap[R]?=some (.cells #[.int .i64 xw,.int .i64 xh,.bool xi,.int .i64 xq,.slice a xn c] 41 (0,0))|3=>wx.heap[R+1]?=some (.cells #[.int .i64 W8,.int .i64 H8,.slice pa pn pc] 43 (0,0))|_=>True) wx wy:=by
    intro wy hy ii hii hne hc own ys h
    match ii,h with
    | 0,h|1,h=>exact h
    | 2,h=>exact absurd rfl hne
    | 3,h=>exact absurd hc (by decide)
    | _+4,_=>trivial
   have gg:=gs5 wx R 0 1 2 3 4 (.int .i64 xw) (.int .i64 xh) (.bool xi) (.int .i64 xq) (.slice a xn c);have bb:=blk_set5 (y0 := .int .i64 xw) (y1 := .int .i64 xh) (y2 := .bool xi) (y3 := .int .i64 xq) (y4 := .slice a xn c) g6;exact hQo undef _ (hK.out _ _ ⟨bb,⟨grown_any g1 gg (fun q hq=>by cases hq;exact Hcd.out),g2.grE gg (fun q hq=>by cases hq;omega),g3.gr gg g6 (by decide) (by decide),blk_gr g4 gg (by simp;omega),blk_gr g5 gg (by simp;omega),⟨_,_,_,_,_,bb⟩,_,_,_,blk_gr g7 gg (by simp)⟩,hst _ (fun v hv=>blk_gr hv gg (by simp))⟩)
  case o3 =>
   rw[ddq (hD 1 rfl)]at hQo⊢;clear hD hI;obtain⟨g1,g2,g3,g4,g5,⟨x0,x1,x2,x3,x4,g6⟩,y0,y1,y2,g7⟩:=hG;obtain⟨-,k0,k1,k2,f0,f1,f2⟩:=bx3 g7;go_wp2;have hst:∀(wy:World),(∀ v,wx.heap[R]?=some v→wy.heap[R]?=some v)→Stbn 4 3 [[],[],[0],[0,1,2]] (fun i own ys wx=>match i with|0=>own= .agg #[.int .i64 xw,.int .i64 xh,.bool xi,.int .i64 xq,.slice a xn c]|1=>own= .agg #[.int .i64 W8,.int .i64 H8,.slice pa pn pc]|2=>wx.heap[R]?=some (.cells #[.int .i64 xw,.int .i64 xh,.bool xi,.int .i64 xq,.slice a xn c] 41 (0,0))|3=>wx.heap[R+1]?=some (.cells #[.int .i64 W8,.int .i64 H8,.slice pa pn pc] 43 (0,0))|_=>True) wx wy:=by
    intro wy hy ii hii hne hc own ys h
    match ii,h with
    | 0,h|1,h=>exact h
    | 2,h=>exact hy _ h
    | 3,h=>exact absurd rfl hne
    | _+4,_=>trivial
   have gg:=gs3 wx (R+1) (.int .i64 W8) (.int .i64 H8) (.slice pa pn pc);have bb:=blk_set3 (x' := .int .i64 W8) (y' := .int .i64 H8) (z' := .slice pa pn pc) g7;exact hQo undef _ (hK.out _ _ ⟨bb,⟨grown_any g1 gg (fun q hq=>by cases hq;have:=Hcd.out;omega),g2.grE gg (fun q hq=>by cases hq;omega),g3.gr gg g7 (by decide) (by decide),blk_gr g4 gg (by simp;omega),blk_gr g5 gg (by simp;omega),⟨_,_,_,_,_,blk_gr g6 gg (by simp)⟩,_,_,_,bb⟩,hst _ (fun v hv=>blk_gr hv gg (by simp))⟩)
 intro xs wx hV hG;have d2:wx.heap[R]?=some (.cells #[.int .i64 xw,.int .i64 xh,.bool xi,.int .i64 xq,.slice a xn c] 41 (0,0)):=hV 2 (by decide);have d3:wx.heap[R+1]?=some (.cells #[.int .i64 W8,.int .i64 H8,.slice pa pn pc] 43 (0,0)):=hV 3 (by decide);clear hV;simp only[patchS,Nat.reduceAdd,Nat.reduceEqDiff,↓reduceIte];generalize xs 0=y0,xs 1=y1,xs 2=y2,xs 3=y3 at *
 replace hG:w.grownBy wx (some b)∧RdP wx b (P+12000)∧SQ wx a xn xf∧wx.heap[q9]?=some (.cells #[.int .i64 xw,.int .i64 xh,.bool xi,.int .i64 xq,.slice a xn c] 41 (0,0))∧wx.heap[q8]?=some (.cells #[.int .i64 W8,.int .i64 H8,.slice pa pn pc] 43 (0,0))∧(∃ x0 x1 x2 x3 x4:Value,wx.heap[R]?=some (.cells #[x0,x1,x2,x3,x4] 41 (0,0)))∧(∃ x0 x1 x2:Value,wx.heap[R+1]?=some (.cells #[x0,x1,x2] 43 (0,0))):=hG
 go_wp2;refine bodyPost_ret (results_cc_row rfl _ _ R (R+1) 41 43 _ _ (0,0) (0,0) _ _ rfl d2 Try.underlying41 rfl size_Coded rfl d3 Try.underlying43 rfl size_Picture) rfl ?_;exact⟨⟨xw,xh,xi,xq,xn,xf⟩,a,c,W8,H8,pa,pn,pc,rfl,HX.out,HF.out,hG.2.2.1,hG.2.1,hG.1⟩
end Go.Proofs.Ytphfacfjhjcllaa
namespace Go.Proofs.Ytphfacfjhjcllaa
open Go.RowKit
/-- The slice at a of n packets, in a block of packets not below H, reads as x. -/
def LR (w:World) (H:Nat) (a:Option Addr) (n:Nat) (x:Nat→Pkt):Prop :=
 ∀ i,i<n→∃(b off:Nat) (a2:Option Addr) (c2:Nat),a=some ⟨b,off,none⟩∧H≤b∧(∃ arr,w.heap[b]?=some (.cells arr 32 (0,0)))∧(w.cell? ⟨b,off+i*6,none⟩=some (.int .i64 (x i).num)∧w.cell? ⟨b,off+i*6+1,none⟩=some (.int .i64 (x i).fr)∧w.cell? ⟨b,off+i*6+2,none⟩=some (.int .i64 (x i).row)∧w.cell? ⟨b,off+i*6+3,none⟩=some (.int .i64 (x i).part)∧w.cell? ⟨b,off+i*6+4,none⟩=some (.bool (x i).last)∧w.cell? ⟨b,off+i*6+5,none⟩=some (.slice a2 (x i).data.length c2))∧BA w a2 c2 (x i).data∧pkS (x i)
theorem LR.gr {w w':World} {H n q T:Nat} {a:Option Addr} {x:Nat→Pkt} {ar:Array Value} (h:LR w H a n x) (g:w.grownBy w' (some q)) (hq:w.heap[q]?=some (.cells ar T (0,0))) (t1:5≠T) (t2:32≠T):LR w' H a n x:=fun i hi=>by
 obtain⟨b,off,a2,c2,h1,h2,⟨arr,h3⟩,⟨k0,k1,k2,k3,k4,k5⟩,h5,h6⟩:=h i hi;have hne:(some b:Option Nat)≠some q:=fun e=>by
  obtain rfl:b=q:=by simpa using e
  rw[h3]at hq;simp only[Option.some.injEq,Obj.cells.injEq]at hq;exact t2 hq.2.1
 exact⟨b,off,a2,c2,h1,h2,⟨arr,blk_gr h3 g (fun e=>hne e.symm)⟩,⟨g.cell k0 hne,g.cell k1 hne,g.cell k2 hne,g.cell k3 hne,g.cell k4 hne,g.cell k5 hne⟩,h5.gr g hq t1,h6⟩
theorem LR.rd {w w':World} {H n b P:Nat} {a:Option Addr} {x:Nat→Pkt} (h:LR w H a n x) (r:RdP w b P) (g:w.grownBy w' (some b)):LR w' H a n x:=by
 obtain⟨arr,hb⟩:=r.blk;exact h.gr g hb (by decide) (by decide)
theorem LR.ext {w w':World} {H n:Nat} {a:Option Addr} {x:Nat→Pkt} (h:LR w H a n x) (e:Ext w w'):LR w' H a n x:=fun i hi=>by
 obtain⟨b,off,a2,c2,h1,h2,⟨arr,h3⟩,⟨k0,k1,k2,k3,k4,k5⟩,h5,h6⟩:=h i hi;exact⟨b,off,a2,c2,h1,h2,⟨arr,e.blk h3⟩,⟨cell_ext e k0,cell_ext e k1,cell_ext e k2,cell_ext e k3,cell_ext e k4,cell_ext e k5⟩,h5.ext e,h6⟩
theorem LR.low {w:World} {H H' n:Nat} {a:Option Addr} {x:Nat→Pkt} (h:LR w H a n x) (e:H'≤H):LR w H' a n x:=fun i hi=>by
 obtain⟨b,off,a2,c2,h1,h2,h3⟩:=h i hi;exact⟨b,off,a2,c2,h1,Nat.le_trans e h2,h3⟩
theorem LR.kp {w:World} {H n:Nat} {a:Option Addr} {x:Nat→Pkt} (h:LR w H a n x):KP w a n (pkl n x):=by
 refine⟨pkl_len _ _,fun i hi => ?_⟩;rw[kget_pkl x hi];obtain⟨g,off,a2,c2,rfl,-,-,ks,hb,-⟩:=h i hi;exact⟨g,off,rfl,a2,_,c2,ks,hb.sl,hb.1.1,hb.1.2,fun _ _=>Nat.zero_le _⟩
theorem LR.wf {w:World} {H n:Nat} {a:Option Addr} {x:Nat→Pkt} (h:LR w H a n x):∀ p∈pkl n x,pkS p:=by
 intro p hp;obtain⟨i,hi,rfl⟩:=List.mem_map.1 hp;obtain⟨-,-,-,-,-,-,-,-,-,h6⟩:=h i (by simpa using hi);exact h6
theorem PQ.lr {w:World} {H n c:Nat} {a:Option Addr} {x:Nat→Pkt} {cs:List Value} (h:PQ w H (.slice a n c) n x cs):LR w H a n x:=fun i hi=>by
 obtain⟨g,a2,c2,rfl,⟨k0,k1,k2,k3,k4,k5⟩,hb,hs⟩:=h.cells hi;rcases id h.1.2 with⟨hv,hn⟩|⟨g',cap,cur,hv,p0,p1,-⟩
 ·omega
 ·simp only[Value.slice.injEq,Option.some.injEq,Addr.mk.injEq,and_true]at hv;obtain⟨rfl,-⟩:=hv;refine⟨g,0,a2,c2,rfl,p0,⟨_,p1⟩,⟨?_,?_,?_,?_,?_,?_⟩,hb,hs⟩;all_goals (rw[Nat.zero_add];assumption)
/-- Another row of packets, which lies below, is kept by an append. -/
theorem PQ.keptO {w w':World} {H Ho m k:Nat} {vl vo:Value} {x:Nat→Pkt} {cs us:List Value} (h:PQ w H vl m x cs) (o:w.ownsRow Ho 32 6 vo k us) (g:w.grownBy w' vo.ownBlock) (hl:∀ q,vl.ownBlock=some q→q<Ho):PQ w' H vl m x cs :=
 ⟨h.1.kept g (by
  cases hv:vl.ownBlock with
  | none=>exact .inl rfl
  | some q=>exact .inr (fun e=>by have h1:=hl q hv;have h2:=owns_ge o q e.symm;omega)),fun i hi=>by
  obtain⟨⟨a,c,h1,h2⟩,h3⟩:=h.2 i hi;exact⟨⟨a,c,h1,h2.own o (by decide) g⟩,h3⟩⟩
theorem blk_setCells {g:Nat} {T:TypeId} : ∀(vs:List Value) (p:Nat) (w:World),(∃ arr,w.heap[g]?=some (.cells arr T (0,0)))→∃ arr,(w.setCells g p vs).heap[g]?=some (.cells arr T (0,0))
 | [],_,_,h=>h
 | v::vs,p,w,⟨arr,h⟩=>blk_setCells vs (p+1) (w.setCell ⟨g,p,none⟩ v) ⟨_,heap_setCell_same w g p arr T v h⟩
theorem gr_setCells {g:Nat} : ∀(vs:List Value) (p:Nat) (w:World),w.grownBy (w.setCells g p vs) (some g)
 | [],_,_=>⟨rfl,rfl,rfl,Nat.le_refl _,fun _ _ _=>rfl⟩
 | v::vs,p,w=>grownBy_trans (gr_set w g p v) (gr_setCells vs (p+1) (w.setCell ⟨g,p,none⟩ v))
/-- What l20Lossy answers. -/
def LoR (w:World) (b P:Nat) (e:Ending) (w':World):Prop :=
 ∃(u0 u1 u3:Int) (u2:Bool) (ua:Option Addr) (un uc:Nat) (z0 z1:Int) (za:Option Addr) (zn zc:Nat) (k:Nat) (x:Nat→Pkt) (a:Option Addr) (c:Nat),e= .returned (.tuple #[.agg #[.int .i64 u0,.int .i64 u1,.bool u2,.int .i64 u3,.slice ua un uc],.slice a k c,.agg #[.int .i64 z0,.int .i64 z1,.slice za zn zc]])∧k≤20001∧k≤c∧c≤maxLen∧LR w' w.heap.size a k x∧RdP w' b P∧w.grownBy w' (some b)
def rotP (k:Nat) (x:Nat→Pkt) (i:Nat):Pkt:=if i+1=k then x 0 else x (i+1)
theorem rot_rk {cs:List Value} {x:Nat→Pkt} {k:Nat} (hk:2≤k) (hl:cs.length=k*6) {w:World} (h:∀ i,i<k→(∃ a c,RK cs (i*6) (x i) a c∧BA w a c (x i).data)∧pkS (x i)) :
 ∀ i,i<k→(∃ a c,RK (cs.drop 6++cs.take 6) (i*6) (rotP k x i) a c∧BA w a c (rotP k x i).data)∧pkS (rotP k x i):=by
 intro i hi;have hdl:(cs.drop 6).length=(k-1)*6:=by rw[List.length_drop,hl];omega
 by_cases e:i+1=k
 ·have hr:rotP k x i=x 0:=if_pos e;obtain⟨⟨a,c,⟨k0,k1,k2,k3,k4,k5⟩,hb⟩,hs⟩:=h 0 (by omega);rw[hr];have key:∀(j:Nat),j<6→(cs.drop 6++cs.take 6)[i*6+j]?=cs[j]?:=fun j hj=>by
   rw[List.getElem?_append_right (by omega),show i*6+j-(cs.drop 6).length=j by omega,List.getElem?_take,if_pos hj]
  refine⟨⟨a,c,⟨?_,?_,?_,?_,?_,?_⟩,hb⟩,hs⟩
  ·have:=key 0 (by omega);rw[Nat.add_zero]at this;rw[this];simpa using k0
  ·rw[key 1 (by omega)];simpa using k1
  ·rw[key 2 (by omega)];simpa using k2
  ·rw[key 3 (by omega)];simpa using k3
  ·rw[key 4 (by omega)];simpa using k4
  ·rw[key 5 (by omega)];simpa using k5
 ·have hr:rotP k x i=x (i+1):=if_neg e;obtain⟨⟨a,c,⟨k0,k1,k2,k3,k4,k5⟩,hb⟩,hs⟩:=h (i+1) (by omega);rw[hr];have key:∀(j:Nat),j<6→(cs.drop 6++cs.take 6)[i*6+j]?=cs[(i+1)*6+j]?:=fun j hj=>by
   rw[List.getElem?_append_left (by omega),List.getElem?_drop]
   congr 1
   omega
  refine⟨⟨a,c,⟨?_,?_,?_,?_,?_,?_⟩,hb⟩,hs⟩
  ·have:=key 0 (by omega);rw[Nat.add_zero,Nat.add_zero]at this;rw[this];exact k0
  ·rw[key 1 (by omega)];exact k1
  ·rw[key 2 (by omega)];exact k2
  ·rw[key 3 (by omega)];exact k3
  ·rw[key 4 (by omega)];exact k4
  ·rw[key 5 (by omega)];exact k5
theorem rot_grow {w w':World} {H B k:Nat} {v v':Value} {x:Nat→Pkt} {cs:List Value} (h:PQ w H v k x cs) (hk:2≤k) (e:Ext w w') (o:w'.ownsRow B 32 6 v' (k-1+1) (cs.drop 6++cs.take 6)):PQ w' B v' k (rotP k x) (cs.drop 6++cs.take 6):=by
 rw[show k-1+1=k by omega]at o;exact⟨o,rot_rk hk h.1.1 (fun i hi=>by
  obtain⟨⟨a,c,h1,h2⟩,h3⟩:=h.2 i hi;exact⟨⟨a,c,h1,h2.ext e⟩,h3⟩)⟩
theorem rot_room {w:World} {H g k c:Nat} {x:Nat→Pkt} {cs:List Value} (h:PQ w H (.slice (some ⟨g,0,none⟩) k c) k x cs) (hk:2≤k) (hkc:k<c) :
 (∀ j,j<6→(w.cell? ⟨g,6+(k-1)*6+j,none⟩).isSome=true∧w.frozen? ⟨g,6+(k-1)*6+j,none⟩=false)∧LR (w.setCells g (6+(k-1)*6) (cs.take 6)) H (some ⟨g,6,none⟩) k (rotP k x):=by
 have hl:cs.length=k*6:=h.1.1;have htl:(cs.take 6).length=6:=by rw[List.length_take,hl];omega
 rcases id h.1.2 with⟨hv,hn⟩|⟨g',cap,cur,hv,p0,p1,p2,p3,p4,p5⟩
 ·omega
 ·simp only[Value.slice.injEq,Option.some.injEq,Addr.mk.injEq,and_true]at hv;obtain⟨rfl,-,rfl⟩:=hv;have hsome:∀ j,j<6→(w.cell? ⟨g,6+(k-1)*6+j,none⟩).isSome=true:=fun j hj=>by
   have hlt:6+(k-1)*6+j<cur.size:=by rw[p4];omega
   simp[World.cell?,p1,Array.getElem?_eq_getElem hlt]
  refine⟨fun j hj=>⟨hsome j hj,h.1.frozenAt _⟩,fun i hi => ?_⟩;have hb2:=blk_setCells (cs.take 6) (6+(k-1)*6) w ⟨_,p1⟩;have gg:=gr_setCells (g:=g) (cs.take 6) (6+(k-1)*6) w
  by_cases e:i+1=k
  ·have hr:rotP k x i=x 0:=if_pos e;obtain⟨⟨a,c,⟨k0,k1,k2,k3,k4,k5⟩,hb⟩,hs⟩:=h.2 0 (by omega);rw[hr];have key:∀(j:Nat) (u:Value),j<6→cs[j]?=some u→(w.setCells g (6+(k-1)*6) (cs.take 6)).cell? ⟨g,6+i*6+j,none⟩=some u:=fun j u hj hu=>by
    have h1:=World.cell?_setCells_in g (cs.take 6) (6+(k-1)*6) w (by rw[htl];exact hsome) j (by omega);rw[show 6+i*6+j=6+(k-1)*6+j by omega,h1];obtain⟨q1,q2⟩:=List.getElem?_eq_some_iff.1 hu;simp[List.getElem_take,q2]
   refine⟨g,6,a,c,rfl,p0,hb2,⟨?_,?_,?_,?_,?_,?_⟩,hb.gr gg p1 (by decide),hs⟩
   ·have:=key 0 _ (by omega) (by simpa using k0);rwa [Nat.add_zero]at this
   ·exact key 1 _ (by omega) (by simpa using k1)
   ·exact key 2 _ (by omega) (by simpa using k2)
   ·exact key 3 _ (by omega) (by simpa using k3)
   ·exact key 4 _ (by omega) (by simpa using k4)
   ·exact key 5 _ (by omega) (by simpa using k5)
  ·have hr:rotP k x i=x (i+1):=if_neg e;obtain⟨⟨a,c,⟨k0,k1,k2,k3,k4,k5⟩,hb⟩,hs⟩:=h.2 (i+1) (by omega);rw[hr];have key:∀(j:Nat) (u:Value),j<6→cs[(i+1)*6+j]?=some u→(w.setCells g (6+(k-1)*6) (cs.take 6)).cell? ⟨g,6+i*6+j,none⟩=some u:=fun j u hj hu=>by
    rw[World.cell?_setCells_out g _ _ _ _ (fun _ _ => .inl (by simp only;omega)),show 6+i*6+j=(i+1)*6+j by omega,h.1.cellAt _ (by omega)];exact hu
   refine⟨g,6,a,c,rfl,p0,hb2,⟨?_,?_,?_,?_,?_,?_⟩,hb.gr gg p1 (by decide),hs⟩
   ·have:=key 0 _ (by omega) (by rw[Nat.add_zero];exact k0);rwa [Nat.add_zero]at this
   ·exact key 1 _ (by omega) k1
   ·exact key 2 _ (by omega) k2
   ·exact key 3 _ (by omega) k3
   ·exact key 4 _ (by omega) k4
   ·exact key 5 _ (by omega) k5
theorem take6 {cs:List Value} {p:Pkt} {a:Option Addr} {c:Nat} (h:RK cs 0 p a c):cs.take 6 = [.int .i64 p.num,.int .i64 p.fr,.int .i64 p.row,.int .i64 p.part,.bool p.last,.slice a p.data.length c]:=by
 obtain⟨h0,h1,h2,h3,h4,h5⟩:=h
 match cs,h0,h1,h2,h3,h4,h5 with
 | u0::u1::u2::u3::u4::u5::t,h0,h1,h2,h3,h4,h5 =>
  simp at h0 h1 h2 h3 h4 h5;subst h0 h1 h2 h3 h4 h5;rfl
theorem PQ.head {w:World} {H n c:Nat} {a:Option Addr} {x:Nat→Pkt} {cs:List Value} (h:PQ w H (.slice a n c) n x cs) (hn:0<n) :
 ∃ g a2 c2,a=some ⟨g,0,none⟩∧H≤g∧(∃ arr,w.heap[g]?=some (.cells arr 32 (0,0)))∧(w.cell? ⟨g,0,none⟩=some (.int .i64 (x 0).num)∧w.cell? ⟨g,1,none⟩=some (.int .i64 (x 0).fr)∧w.cell? ⟨g,2,none⟩=some (.int .i64 (x 0).row)∧w.cell? ⟨g,3,none⟩=some (.int .i64 (x 0).part)∧w.cell? ⟨g,4,none⟩=some (.bool (x 0).last)∧w.cell? ⟨g,5,none⟩=some (.slice a2 (x 0).data.length c2))∧cs.take 6 = [.int .i64 (x 0).num,.int .i64 (x 0).fr,.int .i64 (x 0).row,.int .i64 (x 0).part,.bool (x 0).last,.slice a2 (x 0).data.length c2]:=by
 obtain⟨⟨a2,c2,hk,h2⟩,h4⟩:=h.2 0 hn;have ht:=take6 (by simpa using hk);obtain⟨k1,k2,k3,k4,k5,k6⟩:=hk;have h1:=h.1;rcases id h1.2 with⟨hv,hn⟩|⟨g,cap,cur,hv,p0,p1,-⟩
 ·omega
 ·simp only[Value.slice.injEq]at hv;obtain⟨rfl,-,rfl⟩:=hv;refine⟨g,a2,c2,rfl,p0,⟨_,p1⟩,⟨?_,?_,?_,?_,?_,?_⟩,ht⟩;all_goals (rw[h1.cellAt _ (by omega)];simpa using ‹_›)
theorem ne_ty {w:World} {q g:Nat} {ar1 ar2:Array Value} {T1 T2:TypeId} (h1:w.heap[q]?=some (.cells ar1 T1 (0,0))) (h2:w.heap[g]?=some (.cells ar2 T2 (0,0))) (h:T1≠T2):(some g:Option Nat)≠some q:=fun e=>by
 obtain rfl:g=q:=by simpa using e
 rw[h2]at h1;simp only[Option.some.injEq,Obj.cells.injEq]at h1;exact h h1.2.1.symm
theorem gr_none_some {w w':World} {g:Nat} (h:w.grownBy w' none):w.grownBy w' (some g):=⟨h.os,h.tape,h.output,h.size,fun i hi _=>h.block i hi (by simp)⟩
end Go.Proofs.Ytphfacfjhjcllaa
