/- The reader of drawn numbers: l20Open, pick, odd. | Drawing: the reader within regions; the draws of the first laws. | Drawing: odd, buffers. | Copies of macroblocks. | Drawing: vectors, blocks. | Drawing: blocks of levels. | Drawing: macroblocks. | Drawing: the arguments of RowsRead. | Drawing: indices; the arguments of RequantizeMacro. | Drawing: the arguments of the buffer's laws. | Lists of byte strings: what they read as; bytes and exclusive or. | Drawing: byte strings and lists of them. -/
import Derived.Test.YtphfacfjhjcllaaQb1
import Derived.Deep.Cut
import Derived.Deep.CutRange
set_option linter.unusedVariables false
set_option linter.unusedSimpArgs false
set_option maxRecDepth 100000
set_option maxHeartbeats 16000000
namespace Go.Proofs.Ytphfacfjhjcllaa
open Go.RowKit
/-- Block b is a reader of some bytes, at position p. -/
def Rd (w:World) (b:Nat) (p:Nat):Prop :=
 ∃(a:Option Addr) (m c:Nat) (zs:List Int),w.heap[b]?=some (.cells #[.slice a m c,.int .i64 p] 54 (0,0))∧m≤2000∧Sl w a m (zs.map (Value.int .u8))∧(m=0∨∀ x,a=some x→x.block<b)∧∀ z∈zs,0≤z∧z≤255
theorem Rd.ext {w w':World} {b p:Nat} (h:Rd w b p) (e:Ext w w'):Rd w' b p:=by
 obtain⟨a,m,c,zs,h1,h2,h3,h4⟩:=h;exact⟨a,m,c,zs,e.blk h1,h2,h3.ext e,h4⟩
theorem Rd.lt {w:World} {b p:Nat} (h:Rd w b p):b<w.heap.size:=by
 obtain⟨a,m,c,zs,h1,-⟩:=h;exact lt_of_block h1
theorem nth_byte {zs:List Int} (h:∀ z∈zs,0≤z∧z≤255) (i:Nat):0≤nth zs i∧nth zs i≤255:=by
 by_cases hi:i<zs.length
 ·rw[nth_eq zs i hi];exact h _ (List.getElem_mem hi)
 ·simp[nth,hi]
theorem open_any (a:Option Addr) (c n:Nat) (zs:List Int) (w:World) (hc:n≤c) (hc2:c≤9223372036854775807) (r:Sl w a n (zs.map (Value.int .u8))) (hz:∀ z∈zs,0≤z∧z≤255) :
 Calls Try.prog 14 #[.slice a n c] w fun e w'=>∃ b,e= .returned (.pointer (some ⟨b,0,none⟩))∧Rd w' b 0∧Ext w w'∧w.heap.size≤b:=by
 have ne:∀(k:Nat) (zz:List Value),Sl w a k zz→∀ x,a=some x→k≠0→x.block<w.heap.size:=by
  intro k zz s x hx hk;obtain⟨b1,o1,h1,h2⟩:=s.2 0 (by omega);rw[hx]at h1;simp only[Option.some.injEq]at h1;subst h1;have:=World.block_lt_of_cell? w _ h2;simp at this⊢;omega
 by_cases h:2000<n
 ·obtain⟨b1,o1,rfl,-⟩:=r.2 0 (by omega);have NE:=Lib.hid ne;clear ne;go_enter Try.func14,Try.ntmps14
  go_wp2;go_ret
  have rt:Sl w (some ⟨b1,o1,none⟩) 2000 ((zs.take 2000).map (Value.int .u8)):=by
   refine⟨by have:=r.int_len;simp;omega,fun i hi => ?_⟩;obtain⟨b2,o2,h2,h3⟩:=r.int (show i<n by omega);refine⟨b2,o2,h2,?_⟩;rw[h3,getD_map_int _ _ _ (by have:=r.int_len;simp;omega)];simp[nth,hi]
  exact⟨_,rfl,⟨some ⟨b1,o1,none⟩,2000,c,zs.take 2000,blk_new _ _,by omega,rt.ext ((Below.refl _ _).alloc (Nat.le_refl _) _),.inr fun x hx=>NE.out n _ r x hx (by omega),fun z hz'=>hz z (List.mem_of_mem_take hz')⟩,(Below.refl _ _).alloc (Nat.le_refl _) _,Nat.le_refl _⟩
 ·have NE:=Lib.hid ne;clear ne;go_enter Try.func14,Try.ntmps14
  go_wp2;go_ret
  exact⟨_,rfl,⟨a,n,c,zs,blk_new _ _,by omega,r.ext ((Below.refl _ _).alloc (Nat.le_refl _) _),by
   by_cases h0:n=0
   ·exact .inl h0
   ·exact .inr fun x hx=>NE.out n _ r x hx h0,hz⟩,(Below.refl _ _).alloc (Nat.le_refl _) _,Nat.le_refl _⟩
theorem set_reader {w:World} {b p m c:Nat} {a:Option Addr} {zs:List Int} (h1:w.heap[b]?=some (.cells #[.slice a m c,.int .i64 p] 54 (0,0))) (h2:m≤2000) (h3:Sl w a m (zs.map (Value.int .u8)))
 (h4:m=0∨∀ x,a=some x→x.block<b) (h5:∀ z∈zs,0≤z∧z≤255):Rd (w.setCell ⟨b,1,none⟩ (.int .i64 ((p:Int)+1))) b (p+1)∧w.grownBy (w.setCell ⟨b,1,none⟩ (.int .i64 ((p:Int)+1))) (some b):=by
 have g:w.grownBy (w.setCell ⟨b,1,none⟩ (.int .i64 ((p:Int)+1))) (some b) :=
  ⟨rfl,rfl,rfl,by simp,fun k _ hk=>heap_setCell_other w ⟨b,1,none⟩ k _ (fun e=>hk (by simp[e]))⟩
 refine⟨⟨a,m,c,zs,?_,h2,?_,h4,h5⟩,g⟩
 ·rw[heap_setCell_same w b 1 _ _ _ h1];simp
 ·rcases h4 with h4|h4
  ·subst h4;exact⟨h3.1,fun i hi=>by omega⟩
  ·exact h3.grown g (fun x hx e=>by have:=h4 x hx;simp at e;omega)
theorem grown_set {w wx:World} {r:Option Nat} {q j:Nat} {v:Value} (g:w.grownBy wx r) (hq:w.heap.size≤q):w.grownBy (wx.setCell ⟨q,j,none⟩ v) r :=
 ⟨g.os,g.tape,g.output,by simpa using g.size,fun i hi hne=>by rw[heap_setCell_other wx ⟨q,j,none⟩ i v (by simp;omega)];exact g.block i hi hne⟩
theorem Rd.set {w:World} {b p q j:Nat} {v:Value} (h:Rd w b p) (hq:b<q):Rd (w.setCell ⟨q,j,none⟩ v) b p:=by
 obtain⟨a,m,c,zs,h1,h2,h3,h4,h5⟩:=h;refine⟨a,m,c,zs,blk_set_other h1 (by omega),h2,?_,h4,h5⟩;rcases h4 with h4|h4
 ·subst h4;exact⟨h3.1,fun i hi=>by omega⟩
 ·have g:w.grownBy (w.setCell ⟨q,j,none⟩ v) (some q):=⟨rfl,rfl,rfl,by simp,fun k _ hk=>heap_setCell_other w ⟨q,j,none⟩ k _ (fun e=>hk (by simp[e]))⟩;exact h3.grown g (fun x hx e=>by have:=h4 x hx;simp at e;omega)
theorem pick_some (b:Nat) (p:Nat) (n:Int) (w:World) (hp:p<2^40) (hn0:1≤n) (hn:n≤1000000000) (h:Rd w b p) :
 Calls Try.prog 16 #[.pointer (some ⟨b,0,none⟩),.int .i64 n] w fun e w'=>∃ x:Int,e= .returned (.int .i64 x)∧0≤x∧x<n∧Rd w' b (p+1)∧w.grownBy w' (some b):=by
 obtain⟨a,m,c,zs,h1,h2,h3,h4,h5⟩:=h;obtain⟨g1,g2,g3,g4,g5⟩:=bx2 h1
 by_cases hm:m=0
 ·have hb:((m:Int) == 0)=true:=by simp;omega
  go_enter Try.func16,Try.ntmps16
  go_wp2;go_ret
  have hr:=set_reader h1 h2 h3 h4 h5;exact⟨0,rfl,by omega,by omega,hr.1,hr.2⟩
 ·have hb:((m:Int) == 0)=false:=by simp;omega
  have hr:=set_reader h1 h2 h3 h4 h5;have hbd:=fun i=>nth_byte h5 i
  by_cases hk:p<m
  ·obtain⟨b1,o1,rfl,c1⟩:=h3.int hk;have hne : ¬ b1=b:=by
    rcases h4 with h4|h4
    ·omega
    ·have:=h4 _ rfl;simp at this;omega
   have hB:=hbd p;have HR:=Lib.hid hr;clear hr h4 hbd h5 h3;go_enter Try.func16,Try.ntmps16
   go_wp2;go_ret
   exact⟨_,rfl,Int.emod_nonneg _ (by omega),Int.emod_lt_of_pos _ (by omega),HR.out.1,HR.out.2⟩
  ·have hm1:0<m:=by omega
   obtain⟨q,hq⟩:∃ q,q=p%m:=⟨_,rfl⟩;obtain⟨r,hr2⟩:∃ r,r=(p*7+3)%m:=⟨_,rfl⟩;have hqm:q<m:=by rw[hq];exact Nat.mod_lt p hm1
   have hrm:r<m:=by rw[hr2];exact Nat.mod_lt _ hm1
   have hqi:(p:Int)%(m:Int)=(q:Int):=by rw[hq];simp
   have hri:((p:Int)*7+3)%(m:Int)=(r:Int):=by rw[hr2];simp
   obtain⟨d,hdi⟩:∃ d,d=(p:Int)/(m:Int):=⟨_,rfl⟩;have hd0:0≤d:=by rw[hdi];exact Int.ediv_nonneg (by omega) (by omega)
   have hd1:d≤p:=by rw[hdi];exact Int.ediv_le_self _ (by omega)
   obtain⟨b1,o1,rfl,c1⟩:=h3.int hqm;obtain⟨b2,o2,ha2,c2⟩:=h3.int hrm;simp only[Option.some.injEq,Addr.mk.injEq,and_true]at ha2;obtain⟨rfl,rfl⟩:=ha2;have hne : ¬ b1=b:=by
    rcases h4 with h4|h4
    ·omega
    ·have:=h4 _ rfl;simp at this;omega
   obtain⟨hB0,hB1⟩:=hbd q;obtain⟨hC0,hC1⟩:=hbd r;generalize nth zs q=X at c1 hB0 hB1;generalize nth zs r=Y at c2 hC0 hC1;have HR:=Lib.hid hr;have Hqi:=Lib.hid hqi;have Hri:=Lib.hid hri;have Hdi:=Lib.hid hdi;clear hr h4 hbd h5 h3 hq hr2 hqi hri hdi;have K0:=Lib.hid (show(w.setCell ⟨b,1,none⟩ (.int .i64 ((p:Int)+1))).cell? ⟨b,0,none⟩=some (.slice (some ⟨b1,o1,none⟩) m c)from by rw[World.cell?_setCell_other _ _ _ _ (by intro e;simp at e)];exact g2);have K1:=Lib.hid (show(w.setCell ⟨b,1,none⟩ (.int .i64 ((p:Int)+1))).cell? ⟨b1,o1+q,none⟩=some (.int .u8 X)from by rw[World.cell?_setCell_other _ _ _ _ (by intro e;simp at e <;> omega)];exact c1);have K2:=Lib.hid (show(w.setCell ⟨b,1,none⟩ (.int .i64 ((p:Int)+1))).cell? ⟨b1,o1+r,none⟩=some (.int .u8 Y)from by rw[World.cell?_setCell_other _ _ _ _ (by intro e;simp at e <;> omega)];exact c2);go_enter Try.func16,Try.ntmps16
   go_wp2;generalize w.setCell ⟨b,1,none⟩ (.int .i64 ((p:Int)+1))=W1 at *;have k0:=K0.out;have k1:=K1.out;have k2:=K2.out;clear K0 K1 K2 g1 g2 g3 g4 g5 c1 c2;refine wp_region_inv2 (by kernel_rfl) [(6,45),(47,0),(48,1),(49,2),(50,3),(51,4),(52,5),(53,6),(54,7),(55,8),(56,9),(57,10),(58,11),(59,12),(60,13),(61,14),(62,15),(63,16),(64,17),(65,18),(66,19),(67,20),(68,21),(69,22),(70,23),(71,24),(72,25),(73,26),(74,27),(75,28),(76,29),(77,30),(78,31),(79,32),(80,33),(81,34),(82,35),(83,36),(84,37),(85,38),(86,39),(87,40),(88,41),(89,42),(90,43),(91,44)] [[],[0],[0,1],[0,1,2],[],[],[5],[5,6],[5,6,7],[5,6,7,8],[4,5,6,7,8,9],[0,1,2,3,4,5,6,7,8,9,10],[0,1,2,3,4,5,6,7,8,9,10,11],[0,1,2,3,4,5,6,7,8,9,10,11,12],[0,1,2,3,4,5,6,7,8,9,10,11,12,13],[],[15],[15,16],[15,16,17],[],[19],[19,20],[],[22],[22,23],[22,23,24],[22,23,24,25],[19,20,21,22,23,24,25,26],[15,16,17,18,19,20,21,22,23,24,25,26,27],[15,16,17,18,19,20,21,22,23,24,25,26,27,28],[15,16,17,18,19,20,21,22,23,24,25,26,27,28,29],[15,16,17,18,19,20,21,22,23,24,25,26,27,28,29,30],[0,1,2,3,4,5,6,7,8,9,10,11,12,13,14,15,16,17,18,19,20,21,22,23,24,25,26,27,28,29,30,31],[],[33],[0,1,2,3,4,5,6,7,8,9,10,11,12,13,14,15,16,17,18,19,20,21,22,23,24,25,26,27,28,29,30,31,32,33,34],[],[],[37],[37,38],[37,38,39],[37,38,39,40],[36,37,38,39,40,41],[36,37,38,39,40,41,42],[0,1,2,3,4,5,6,7,8,9,10,11,12,13,14,15,16,17,18,19,20,21,22,23,24,25,26,27,28,29,30,31,32,33,34,35,36,37,38,39,40,41,42,43],[0,1,2,3,4,5,6,7,8,9,10,11,12,13,14,15,16,17,18,19,20,21,22,23,24,25,26,27,28,29,30,31,32,33,34,35,36,37,38,39,40,41,42,43,44]] (fun i own ys wx=>match i with|0=>own= .pointer (some ⟨b,0,none⟩)|1=>own= .pointer (some ⟨b,0,none⟩)|2=>own= .pointer (some ⟨b,0,none⟩)|3=>own= .slice (some ⟨b1,o1,none⟩) m c|4=>own= .int .i64 p|5=>own= .pointer (some ⟨b,0,none⟩)|6=>own= .pointer (some ⟨b,0,none⟩)|7=>own= .pointer (some ⟨b,0,none⟩)|8=>own= .slice (some ⟨b1,o1,none⟩) m c|9=>own= .int .i64 m|10=>own= .int .i64 q|11=>own= .pointer (some ⟨b1,o1+q,none⟩)|12=>own= .int .u8 X|13=>own= .int .i64 X|14=>own= .int .i64 (X*131)|15=>own= .pointer (some ⟨b,0,none⟩)|16=>own= .pointer (some ⟨b,0,none⟩)|17=>own= .pointer (some ⟨b,0,none⟩)|18=>own= .slice (some ⟨b1,o1,none⟩) m c|19=>own= .int .i64 p|20=>own= .int .i64 ((p:Int)*7)|21=>own= .int .i64 ((p:Int)*7+3)|22=>own= .pointer (some ⟨b,0,none⟩)|23=>own= .pointer (some ⟨b,0,none⟩)|24=>own= .pointer (some ⟨b,0,none⟩)|25=>own= .slice (some ⟨b1,o1,none⟩) m c|26=>own= .int .i64 m|27=>own= .int .i64 r|28=>own= .pointer (some ⟨b1,o1+r,none⟩)|29=>own= .int .u8 Y|30=>own= .int .i64 Y|31=>own= .int .i64 (Y*1117)|32=>own= .int .i64 (X*131+Y*1117)|33=>own= .int .i64 p|34=>own= .int .i64 ((p:Int)*29)|35=>own= .int .i64 (X*131+Y*1117+(p:Int)*29)|36=>own= .int .i64 p|37=>own= .pointer (some ⟨b,0,none⟩)|38=>own= .pointer (some ⟨b,0,none⟩)|39=>own= .pointer (some ⟨b,0,none⟩)|40=>own= .slice (some ⟨b1,o1,none⟩) m c|41=>own= .int .i64 m|42=>own= .int .i64 d|43=>own= .int .i64 (d*53)|44=>own= .int .i64 (X*131+Y*1117+(p:Int)*29+d*53)|45=>own= .int .i64 (X*131+Y*1117+(p:Int)*29+d*53)|_=>True) (fun kx wx=>Ext W1 wx) (by kernel_rfl) (by kernel_rfl) (by kernel_rfl) ?g0_r1 ?gop_r1 ?gend_r1
   case g0_r1=>exact Ext.drewN _ 1
   case gop_r1 =>
    refine⟨?_,?o1,?o2,?o3,?_,?_,?o6,?o7,?o8,?o9,?o10,?o11,?o12,?o13,?o14,?_,?o16,?o17,?o18,?_,?o20,?o21,?_,?o23,?o24,?o25,?o26,?o27,?o28,?o29,?o30,?o31,?o32,?_,?o34,?o35,?_,?_,?o38,?o39,?o40,?o41,?o42,?o43,?o44,?o45,trivial⟩ <;> (intro kx xs wx hk hG hD hI Qo Kx hK hQo;simp only[patchS,Nat.reduceAdd,Nat.reduceEqDiff,↓reduceIte]at hQo⊢)
    case o1 =>
     rw[ddq (hD 0 rfl)]at hQo⊢;clear hD hI;go_wp2;exact hK.out _ _ ⟨rfl,hG,kkp⟩
    case o2 =>
     rw[ddq (hD 1 rfl)]at hQo⊢;clear hD hI;go_wp2;exact hK.out _ _ ⟨rfl,hG,kkp⟩
    case o3 =>
     rw[ddq (hD 2 rfl)]at hQo⊢;clear hD hI;have k0':=cell_ext hG k0;go_wp2;exact hK.out _ _ ⟨rfl,hG,kkp⟩
    case o6 =>
     rw[ddq (hD 5 rfl)]at hQo⊢;clear hD hI;go_wp2;exact hK.out _ _ ⟨rfl,hG,kkp⟩
    case o7 =>
     rw[ddq (hD 6 rfl)]at hQo⊢;clear hD hI;go_wp2;exact hK.out _ _ ⟨rfl,hG,kkp⟩
    case o8 =>
     rw[ddq (hD 7 rfl)]at hQo⊢;clear hD hI;have k0':=cell_ext hG k0;go_wp2;exact hK.out _ _ ⟨rfl,hG,kkp⟩
    case o9 =>
     rw[ddq (hD 8 rfl)]at hQo⊢;clear hD hI;go_wp2;exact hK.out _ _ ⟨rfl,hG,kkp⟩
    case o10 =>
     rw[ddq (hD 4 rfl),ddq (hD 9 rfl)]at hQo⊢;clear hD hI;go_wp2;exact hK.out _ _ ⟨by rw[Hqi.out],hG,fun _ _ _ _ _ _ h=>h⟩
    case o11 =>
     rw[ddq (hD 3 rfl),ddq (hD 10 rfl)]at hQo⊢;clear hD hI;go_wp2;exact hK.out _ _ ⟨rfl,hG,kkp⟩
    case o12 =>
     rw[ddq (hD 11 rfl)]at hQo⊢;clear hD hI;have k0':=cell_ext hG k1;go_wp2;exact hK.out _ _ ⟨rfl,hG,kkp⟩
    case o13 =>
     rw[ddq (hD 12 rfl)]at hQo⊢;clear hD hI;go_wp2;exact hK.out _ _ ⟨rfl,hG,kkp⟩
    case o14 =>
     rw[ddq (hD 13 rfl)]at hQo⊢;clear hD hI;go_wp2;exact hK.out _ _ ⟨rfl,hG,kkp⟩
    case o16 =>
     rw[ddq (hD 15 rfl)]at hQo⊢;clear hD hI;go_wp2;exact hK.out _ _ ⟨rfl,hG,kkp⟩
    case o17 =>
     rw[ddq (hD 16 rfl)]at hQo⊢;clear hD hI;go_wp2;exact hK.out _ _ ⟨rfl,hG,kkp⟩
    case o18 =>
     rw[ddq (hD 17 rfl)]at hQo⊢;clear hD hI;have k0':=cell_ext hG k0;go_wp2;exact hK.out _ _ ⟨rfl,hG,kkp⟩
    case o20 =>
     rw[ddq (hD 19 rfl)]at hQo⊢;clear hD hI;go_wp2;exact hK.out _ _ ⟨rfl,hG,kkp⟩
    case o21 =>
     rw[ddq (hD 20 rfl)]at hQo⊢;clear hD hI;go_wp2;exact hK.out _ _ ⟨rfl,hG,kkp⟩
    case o23 =>
     rw[ddq (hD 22 rfl)]at hQo⊢;clear hD hI;go_wp2;exact hK.out _ _ ⟨rfl,hG,kkp⟩
    case o24 =>
     rw[ddq (hD 23 rfl)]at hQo⊢;clear hD hI;go_wp2;exact hK.out _ _ ⟨rfl,hG,kkp⟩
    case o25 =>
     rw[ddq (hD 24 rfl)]at hQo⊢;clear hD hI;have k0':=cell_ext hG k0;go_wp2;exact hK.out _ _ ⟨rfl,hG,kkp⟩
    case o26 =>
     rw[ddq (hD 25 rfl)]at hQo⊢;clear hD hI;go_wp2;exact hK.out _ _ ⟨rfl,hG,kkp⟩
    case o27 =>
     rw[ddq (hD 21 rfl),ddq (hD 26 rfl)]at hQo⊢;clear hD hI;go_wp2;exact hK.out _ _ ⟨by rw[Hri.out],hG,fun _ _ _ _ _ _ h=>h⟩
    case o28 =>
     rw[ddq (hD 18 rfl),ddq (hD 27 rfl)]at hQo⊢;clear hD hI;go_wp2;exact hK.out _ _ ⟨rfl,hG,kkp⟩
    case o29 =>
     rw[ddq (hD 28 rfl)]at hQo⊢;clear hD hI;have k0':=cell_ext hG k2;go_wp2;exact hK.out _ _ ⟨rfl,hG,kkp⟩
    case o30 =>
     rw[ddq (hD 29 rfl)]at hQo⊢;clear hD hI;go_wp2;exact hK.out _ _ ⟨rfl,hG,kkp⟩
    case o31 =>
     rw[ddq (hD 30 rfl)]at hQo⊢;clear hD hI;go_wp2;exact hK.out _ _ ⟨rfl,hG,kkp⟩
    case o32 =>
     rw[ddq (hD 14 rfl),ddq (hD 31 rfl)]at hQo⊢;clear hD hI;go_wp2;exact hK.out _ _ ⟨rfl,hG,kkp⟩
    case o34 =>
     rw[ddq (hD 33 rfl)]at hQo⊢;clear hD hI;go_wp2;exact hK.out _ _ ⟨rfl,hG,kkp⟩
    case o35 =>
     rw[ddq (hD 32 rfl),ddq (hD 34 rfl)]at hQo⊢;clear hD hI;go_wp2;exact hK.out _ _ ⟨rfl,hG,kkp⟩
    case o38 =>
     rw[ddq (hD 37 rfl)]at hQo⊢;clear hD hI;go_wp2;exact hK.out _ _ ⟨rfl,hG,kkp⟩
    case o39 =>
     rw[ddq (hD 38 rfl)]at hQo⊢;clear hD hI;go_wp2;exact hK.out _ _ ⟨rfl,hG,kkp⟩
    case o40 =>
     rw[ddq (hD 39 rfl)]at hQo⊢;clear hD hI;have k0':=cell_ext hG k0;go_wp2;exact hK.out _ _ ⟨rfl,hG,kkp⟩
    case o41 =>
     rw[ddq (hD 40 rfl)]at hQo⊢;clear hD hI;go_wp2;exact hK.out _ _ ⟨rfl,hG,kkp⟩
    case o42 =>
     rw[ddq (hD 36 rfl),ddq (hD 41 rfl)]at hQo⊢;clear hD hI;go_wp2;exact hK.out _ _ ⟨by rw[←Hdi.out];first|rfl|(congr 1;exact IntWalk.wrap64_in d (by omega)),hG,fun _ _ _ _ _ _ h=>h⟩
    case o43 =>
     rw[ddq (hD 42 rfl)]at hQo⊢;clear hD hI;go_wp2;exact hK.out _ _ ⟨rfl,hG,kkp⟩
    case o44 =>
     rw[ddq (hD 35 rfl),ddq (hD 43 rfl)]at hQo⊢;clear hD hI;go_wp2;exact hK.out _ _ ⟨rfl,hG,kkp⟩
    case o45 =>
     rw[ddq (hD 44 rfl)]at hQo⊢;clear hD hI;go_wp2;exact hK.out _ _ ⟨rfl,hG,kkp⟩
    all_goals
     clear hD hI;go_wp2;exact hK.out _ _ ⟨rfl,hG,kkp⟩
   intro xs wx hV hG;have d0:_=_:=hV 0 (by decide);have d1:_=_:=hV 1 (by decide);have d2:_=_:=hV 2 (by decide);have d3:_=_:=hV 3 (by decide);have d4:_=_:=hV 4 (by decide);have d5:_=_:=hV 5 (by decide);have d6:_=_:=hV 6 (by decide);have d7:_=_:=hV 7 (by decide);have d8:_=_:=hV 8 (by decide);have d9:_=_:=hV 9 (by decide);have d10:_=_:=hV 10 (by decide);have d11:_=_:=hV 11 (by decide);have d12:_=_:=hV 12 (by decide);have d13:_=_:=hV 13 (by decide);have d14:_=_:=hV 14 (by decide);have d15:_=_:=hV 15 (by decide);have d16:_=_:=hV 16 (by decide);have d17:_=_:=hV 17 (by decide);have d18:_=_:=hV 18 (by decide);have d19:_=_:=hV 19 (by decide);have d20:_=_:=hV 20 (by decide);have d21:_=_:=hV 21 (by decide);have d22:_=_:=hV 22 (by decide);have d23:_=_:=hV 23 (by decide);have d24:_=_:=hV 24 (by decide);have d25:_=_:=hV 25 (by decide);have d26:_=_:=hV 26 (by decide);have d27:_=_:=hV 27 (by decide);have d28:_=_:=hV 28 (by decide);have d29:_=_:=hV 29 (by decide);have d30:_=_:=hV 30 (by decide);have d31:_=_:=hV 31 (by decide);have d32:_=_:=hV 32 (by decide);have d33:_=_:=hV 33 (by decide);have d34:_=_:=hV 34 (by decide);have d35:_=_:=hV 35 (by decide);have d36:_=_:=hV 36 (by decide);have d37:_=_:=hV 37 (by decide);have d38:_=_:=hV 38 (by decide);have d39:_=_:=hV 39 (by decide);have d40:_=_:=hV 40 (by decide);have d41:_=_:=hV 41 (by decide);have d42:_=_:=hV 42 (by decide);have d43:_=_:=hV 43 (by decide);have d44:_=_:=hV 44 (by decide);have d45:_=_:=hV 45 (by decide);clear hV;simp only[patchS,Nat.reduceAdd,Nat.reduceEqDiff,↓reduceIte];generalize xs 0=y0,xs 1=y1,xs 2=y2,xs 3=y3,xs 4=y4,xs 5=y5,xs 6=y6,xs 7=y7,xs 8=y8,xs 9=y9,xs 10=y10,xs 11=y11,xs 12=y12,xs 13=y13,xs 14=y14,xs 15=y15,xs 16=y16,xs 17=y17,xs 18=y18,xs 19=y19,xs 20=y20,xs 21=y21,xs 22=y22,xs 23=y23,xs 24=y24,xs 25=y25,xs 26=y26,xs 27=y27,xs 28=y28,xs 29=y29,xs 30=y30,xs 31=y31,xs 32=y32,xs 33=y33,xs 34=y34,xs 35=y35,xs 36=y36,xs 37=y37,xs 38=y38,xs 39=y39,xs 40=y40,xs 41=y41,xs 42=y42,xs 43=y43,xs 44=y44,xs 45=y45 at *
   replace hG:Ext W1 wx:=hG
   subst d0 d1 d2 d3 d4 d5 d6 d7 d8 d9 d10 d11 d12 d13 d14 d15 d16 d17 d18 d19 d20 d21 d22 d23 d24 d25 d26 d27 d28 d29 d30 d31 d32 d33 d34 d35 d36 d37 d38 d39 d40 d41 d42 d43 d44 d45;have hS:0≤X*131+Y*1117+(p:Int)*29+d*53∧X*131+Y*1117+(p:Int)*29+d*53<2^50:=by omega
   generalize X*131+Y*1117+(p:Int)*29+d*53=S at hS⊢;clear Hqi Hri Hdi hB0 hB1 hC0 hC1 k0 k1 k2 hd0 hd1;obtain⟨hS0,hS1⟩:=hS;go_wp2;have hx:0≤bits .xor .i64 S (S/64):=i64_xor_range _ _ (by omega) (by omega);have hr:(bits .xor .i64 S (S/64)).tmod n=bits .xor .i64 S (S/64)%n:=Int.tmod_eq_emod_of_nonneg hx;go_ret
   exact⟨_,rfl,by rw[hr];exact Int.emod_nonneg _ (by omega),by rw[hr];exact Int.emod_lt_of_pos _ (by omega),HR.out.1.ext hG,grown_ext HR.out.2 hG⟩
/-- Block b is a reader whose position is at most P. -/
def RdP (w:World) (b P:Nat):Prop:=∃ q,q≤P∧Rd w b q
theorem RdP.ext {w w':World} {b P:Nat} (h:RdP w b P) (e:Ext w w'):RdP w' b P:=by
 obtain⟨q,h1,h2⟩:=h;exact⟨q,h1,h2.ext e⟩
theorem RdP.mono {w:World} {b P P':Nat} (h:RdP w b P) (e:P≤P'):RdP w b P':=by
 obtain⟨q,h1,h2⟩:=h;exact⟨q,by omega,h2⟩
theorem RdP.drew {w:World} {b P:Nat} (h:RdP w b P):RdP w.drew b P:=h
theorem RdP.lt {w:World} {b P:Nat} (h:RdP w b P):b<w.heap.size:=by
 obtain⟨q,h1,h2⟩:=h;exact h2.lt
theorem pick_c (b P:Nat) (n:Int) (w:World) (h:RdP w b P) (hp:P<2^40) (hn0:1≤n) (hn:n≤1000000000) :
 Calls Try.prog 16 #[.pointer (some ⟨b,0,none⟩),.int .i64 n] w fun e w'=>∃ x:Int,e= .returned (.int .i64 x)∧0≤x∧x<n∧RdP w' b (P+1)∧w.grownBy w' (some b):=by
 obtain⟨q,h1,h2⟩:=h;refine(pick_some b q n w (by omega) hn0 hn h2).mono ?_
 rintro e w' ⟨x,h3,h4,h5,h6,h7⟩
 exact⟨x,h3,h4,h5,⟨q+1,by omega,h6⟩,h7⟩
/-- What holds in a region that draws with reader b, k operations in, C places each at the most. -/
def DG (w:World) (b P C k:Nat) (wx:World):Prop:=w.grownBy wx (some b)∧RdP wx b (P+k*C)
theorem DG.zero {w:World} {b P C:Nat} (h:RdP w b P):DG w b P C 0 w.drew:=⟨⟨rfl,rfl,rfl,Nat.le_refl _,fun _ _ _=>rfl⟩,by rw[Nat.zero_mul,Nat.add_zero];exact h⟩
theorem DG.step {w wx:World} {b P C k:Nat} (h:DG w b P C k wx):DG w b P C (k+1) wx:=⟨h.1,h.2.mono (by rw[Nat.succ_mul];omega)⟩
theorem DG.more {w wx wy:World} {b P C k c:Nat} (h:DG w b P C k wx) (g:wx.grownBy wy (some b)) (r:RdP wy b (P+k*C+c)) (hc:c≤C):DG w b P C (k+1) wy:=⟨grown_trans h.1 g,r.mono (by rw[Nat.succ_mul];omega)⟩
theorem DG.ext {w wx wy:World} {b P C k:Nat} (h:DG w b P C k wx) (e:Ext wx wy):DG w b P C (k+1) wy:=⟨grown_ext h.1 e,(h.2.ext e).mono (by rw[Nat.succ_mul];omega)⟩
theorem RdP.set {w:World} {b P q j:Nat} {v:Value} (h:RdP w b P) (hq:b<q):RdP (w.setCell ⟨q,j,none⟩ v) b P:=by
 obtain⟨p,h1,h2⟩:=h;exact⟨p,h1,h2.set hq⟩
theorem DG.set {w wx:World} {b P C k q j:Nat} {v:Value} (h:DG w b P C k wx) (hq:w.heap.size≤q) (hb:b<q):DG w b P C k (wx.setCell ⟨q,j,none⟩ v):=⟨grown_set h.1 hq,h.2.set hb⟩
theorem grown_drew {w wx:World} {r:Option Nat} (g:w.grownBy wx r):w.grownBy wx.drew r:=⟨g.os,g.tape,g.output,g.size,fun i hi hne=>g.block i hi hne⟩
theorem DG.drew {w wx:World} {b P C k:Nat} (h:DG w b P C k wx):DG w b P C k wx.drew:=⟨grown_drew h.1,h.2.drew⟩
theorem DG.reset {w wx:World} {b P C k P':Nat} (h:DG w b P C k wx) (hP:P+k*C≤P') (C':Nat):DG w b P' C' 0 wx:=⟨h.1,h.2.mono (by omega)⟩
theorem DG.small {k n P C:Nat} (h:k<n) (hn:n≤1000) (hC:C≤100000000) (hP:P<2^39):P+k*C<2^40:=by
 have:k*C≤1000*100000000:=Nat.mul_le_mul (by omega) hC;omega
theorem ext_gr {w w':World} {r:Option Nat} (e:Ext w w'):w.grownBy w' r:=⟨e.os,e.tape,e.output,e.size,fun k hk _=>e.block k hk⟩
/-- The same, with a fact of the world that draws do not touch. -/
def DGI (w:World) (b P C:Nat) (I:World→Prop) (k:Nat) (wx:World):Prop:=DG w b P C k wx∧I wx∧∀ wa wb:World,wa.grownBy wb (some b)→I wa→I wb
theorem DGI.step {w wx:World} {b P C k:Nat} {I:World→Prop} (h:DGI w b P C I k wx):DGI w b P C I (k+1) wx:=⟨h.1.step,h.2⟩
theorem DGI.more {w wx wy:World} {b P C k c:Nat} {I:World→Prop} (h:DGI w b P C I k wx) (g:wx.grownBy wy (some b)) (r:RdP wy b (P+k*C+c)) (hc:c≤C):DGI w b P C I (k+1) wy:=⟨h.1.more g r hc,h.2.2 _ _ g h.2.1,h.2.2⟩
theorem DGI.ext {w wx wy:World} {b P C k:Nat} {I:World→Prop} (h:DGI w b P C I k wx) (e:Ext wx wy):DGI w b P C I (k+1) wy:=⟨h.1.ext e,h.2.2 _ _ (ext_gr e) h.2.1,h.2.2⟩
theorem DGI.drew {w wx:World} {b P C k:Nat} {I:World→Prop} (h:DGI w b P C I k wx):DGI w b P C I k wx.drew:=⟨h.1.drew,h.2.2 _ _ (ext_gr (Ext.drewN _ 1)) h.2.1,h.2.2⟩
theorem DGI.reset {w wx:World} {b P C k P':Nat} {I:World→Prop} (h:DGI w b P C I k wx) (hP:P+k*C≤P') (C':Nat):DGI w b P' C' I 0 wx:=⟨h.1.reset hP C',h.2⟩
/-- A list of n numbers in lo..hi, in a block of its own. -/
def SlR (w:World) (b:Nat) (v:Value) (n:Nat) (lo hi:Int):Prop :=
 ∃(g:Nat) (xs:List Int),v= .slice (some ⟨g,0,none⟩) n n∧b≤g∧Sl w (some ⟨g,0,none⟩) n (xs.map (Value.int .i64))∧∀ x∈xs,lo≤x∧x≤hi
theorem SlR.grown {w w':World} {b B:Nat} {v:Value} {n:Nat} {lo hi:Int} (h:SlR w B v n lo hi) (e:w.grownBy w' (some b)) (hb:b<B):SlR w' B v n lo hi:=by
 obtain⟨g,xs,h1,h2,h3,h4⟩:=h;exact⟨g,xs,h1,h2,h3.grown e (fun x hx he=>by simp at hx he;rw[←hx]at he;simp at he;omega),h4⟩
theorem SlR.set {w:World} {B q j:Nat} {u:Value} {v:Value} {n:Nat} {lo hi:Int} (h:SlR w B v n lo hi) (hq:q<B):SlR (w.setCell ⟨q,j,none⟩ u) B v n lo hi :=
 h.grown ⟨rfl,rfl,rfl,by simp,fun k _ hk=>heap_setCell_other w ⟨q,j,none⟩ k _ (fun e=>hk (by simp[e]))⟩ hq
/-- An address of a number in lo..hi. -/
def PtR (w:World) (b:Nat) (v:Value) (lo hi:Int):Prop :=
 ∃(g j:Nat) (y:Int),v= .pointer (some ⟨g,j,none⟩)∧b≤g∧w.cell? ⟨g,j,none⟩=some (.int .i64 y)∧lo≤y∧y≤hi
theorem PtR.grown {w w':World} {b B:Nat} {v:Value} {lo hi:Int} (h:PtR w B v lo hi) (e:w.grownBy w' (some b)) (hb:b<B):PtR w' B v lo hi:=by
 obtain⟨g,j,y,h1,h2,h3,h4,h5⟩:=h;exact⟨g,j,y,h1,h2,e.cell h3 (by intro he;simp at he;omega),h4,h5⟩
theorem PtR.set {w:World} {B q j:Nat} {u:Value} {v:Value} {lo hi:Int} (h:PtR w B v lo hi) (hq:q<B):PtR (w.setCell ⟨q,j,none⟩ u) B v lo hi :=
 h.grown ⟨rfl,rfl,rfl,by simp,fun k _ hk=>heap_setCell_other w ⟨q,j,none⟩ k _ (fun e=>hk (by simp[e]))⟩ hq
theorem cell_of_blk {w:World} {b:Nat} {arr:Array Value} {T:TypeId} {i:Nat} {v:Value} (h:w.heap[b]?=some (.cells arr T (0,0))) (hi:arr[i]?=some v):w.cell? ⟨b,i,none⟩=some v:=by
 simp[World.cell?,h,hi]
theorem Sl_new (w:World) (vs:List Value) (T:TypeId):Sl (w.alloc (.cells vs.toArray T (0,0))) (some ⟨w.heap.size,0,none⟩) vs.length vs:=by
 refine⟨rfl,fun i hi=>⟨w.heap.size,0,rfl,?_⟩⟩;exact cell_of_blk (blk_new _ _) (by simp[hi])
theorem SlR.at {w:World} {g b n:Nat} {l:List Int} {lo hi:Int} {i:Nat} (hne:b≤g) (s:Sl w (some ⟨g,0,none⟩) n (l.map (Value.int .i64))) (h:∀ x∈l,lo≤x∧x≤hi) (hi':i<n):PtR w b (.pointer (some ⟨g,i,none⟩)) lo hi:=by
 obtain⟨b',o',h1,h2⟩:=s.int hi';simp only[Option.some.injEq,Addr.mk.injEq,and_true]at h1;obtain⟨rfl,rfl⟩:=h1;rw[Nat.zero_add]at h2;have hl:i<l.length:=by rw[s.int_len];exact hi'
 have h3:=h (nth l i) (by rw[nth_eq _ _ hl];exact List.getElem_mem hl);exact⟨_,_,_,rfl,hne,h2,h3.1,h3.2⟩
theorem mod_rng {a b:Int} (h1:0≤a) (h2:1≤b):0≤a%b∧a%b<b∧a%b≤a :=
 ⟨Int.emod_nonneg _ (by omega),Int.emod_lt_of_pos _ (by omega),by
  have h3:=Int.mul_ediv_add_emod a b;have h4:=Int.mul_nonneg (show 0≤b by omega) (Int.ediv_nonneg h1 (show 0≤b by omega));omega⟩
theorem odd_c (b P:Nat) (n:Int) (w:World) (h:RdP w b P) (hp:P<2^40) (hn0:1≤n) (hn:n≤1000000000) :
 Calls Try.prog 23 #[.pointer (some ⟨b,0,none⟩),.int .i64 n] w fun e w'=>∃ x:Bool,e= .returned (.bool x)∧RdP w' b (P+1)∧w.grownBy w' (some b):=by
 go_enter Try.func23,Try.ntmps23
 go_wp2_with fail
 refine(pick_c b P n _ h hp hn0 hn).mono ?_
 rintro e w1 ⟨x,rfl,x0,x1,r,g⟩
 go_wp2;go_ret
 exact⟨_,rfl,r,g⟩
theorem odd_0 (b:Nat) (n:Int) (w:World) (hn:n≤0) :
 Calls Try.prog 23 #[.pointer (some ⟨b,0,none⟩),.int .i64 n] w fun e w'=>e= .returned (.bool false)∧w=w':=by
 go_enter Try.func23,Try.ntmps23
 go_wp2;go_ret
 exact⟨rfl,rfl⟩
theorem gr_blk {w w':World} {b q:Nat} {o:Obj} (g:w.grownBy w' (some b)) (h:w.heap[q]?=some o) (hne:q≠b):w'.heap[q]?=some o:=by
 rw[g.block q (lt_of_block h) (by simp;exact fun e=>hne e)];exact h
/-- The first k of xs, behind them what ys has. -/
def mixI (xs ys:List Int) (k:Nat):List Int:=xs.take k++ys.drop k
theorem blk_set2 {w:World} {b:Nat} {x y x' y':Value} {T:TypeId} (h:w.heap[b]?=some (.cells #[x,y] T (0,0))):((w.setCell ⟨b,0,none⟩ x').setCell ⟨b,1,none⟩ y').heap[b]?=some (.cells #[x',y'] T (0,0)):=by
 have h1:=heap_setCell_same w b 0 _ _ x' h;have h2:=heap_setCell_same _ b 1 _ _ y' h1
 simpa using h2
/-- Integers within bounds. -/
def bdI (B:Int) (zs:List Int):Prop:=∀ j,j<zs.length → -B≤nth zs j∧nth zs j≤B
theorem bdI_zero (B:Int) (n:Nat) (h:0≤B):bdI B (List.replicate n 0):=by
 intro j hj;have hj':j<n:=by simpa using hj
 have:nth (List.replicate n 0) j=0:=by simp[nth,hj']
 omega
theorem bdI_set {B:Int} {zs:List Int} {i:Nat} {v:Int} (h:bdI B zs) (h1 : -B≤v) (h2:v≤B):bdI B (zs.set i v):=by
 intro j hj;rw[List.length_set]at hj
 by_cases hij:i=j
 ·subst hij;rw[nth_set_same _ _ _ hj];omega
 ·rw[nth_set_ne _ _ _ _ hij];exact h j hj
theorem bdI_spl {B:Int} {zs ys:List Int} {off:Nat} (h:bdI B zs) (hy:bdI B ys) (hl:off+ys.length≤zs.length):bdI B (spl zs off ys):=by
 intro j hj;rw[spl_len hl]at hj
 by_cases h1:off≤j∧j<off+ys.length
 ·rw[nth_spl_in hl h1.1 h1.2];exact hy _ (by omega)
 ·rw[nth_spl_out hl (by omega)];exact h j hj
/-- Block q holds n integers within bounds. -/
def IQ (B:Int) (w:World) (q T n:Nat):Prop:=∃ zs,IB w q T zs∧zs.length=n∧bdI B zs
theorem IQ.gr {B:Int} {w w':World} {q T n b:Nat} (h:IQ B w q T n) (g:w.grownBy w' (some b)) (hne:q≠b):IQ B w' q T n:=by
 obtain⟨zs,h1,h2,h3⟩:=h;exact⟨zs,h1.gr g (by simp;omega),h2,h3⟩
theorem IQ.ext {B:Int} {w w':World} {q T n:Nat} (h:IQ B w q T n) (e:Ext w w'):IQ B w' q T n:=by
 obtain⟨zs,h1,h2,h3⟩:=h;exact⟨zs,h1.ext e,h2,h3⟩
theorem IQ.set {B:Int} {w:World} {q T n:Nat} (h:IQ B w q T n) (i:Nat) (v:Int) (h1 : -B≤v) (h2:v≤B):IQ B (w.setCell ⟨q,i,none⟩ (.int .i64 v)) q T n:=by
 obtain⟨zs,k1,k2,k3⟩:=h;exact⟨zs.set i v,k1.set i v,by simpa using k2,bdI_set k3 h1 h2⟩
theorem IQ.cell {B:Int} {w:World} {q T n:Nat} (h:IQ B w q T n) {i:Nat} (hi:i<n):∃ v:Int,w.cell? ⟨q,i,none⟩=some (.int .i64 v)∧w.frozen? ⟨q,i,none⟩=false ∧ -B≤v∧v≤B:=by
 obtain⟨zs,k1,rfl,k3⟩:=h;exact⟨_,k1.cell hi,k1.frozen i,k3 i hi⟩
theorem IQ.lt {B:Int} {w:World} {q T n:Nat} (h:IQ B w q T n):q<w.heap.size:=by
 obtain⟨zs,k1,-⟩:=h;exact k1.lt
theorem IQ.set_other {B:Int} {w:World} {q c i T n:Nat} {v:Value} (h:IQ B w q T n) (hne:q≠c):IQ B (w.setCell ⟨c,i,none⟩ v) q T n:=by
 obtain⟨zs,k1,k2,k3⟩:=h;exact⟨zs,k1.set_other hne,k2,k3⟩
theorem gset {w wx:World} {r:Option Nat} {q j:Nat} {v:Value} (g:w.grownBy wx r) (hq:w.heap.size≤q):w.grownBy (wx.setCell ⟨q,j,none⟩ v) r:=grown_set g hq
theorem l20Vector_c (b P:Nat) (n:Int) (w:World) (h:RdP w b P) (hp:P<2^38) (hn0:0≤n) (hn:n≤1000000) :
 Calls Try.prog 58 #[.pointer (some ⟨b,0,none⟩),.int .i64 n] w fun e w'=>∃ x y:Int,e= .returned (.agg #[.int .i64 x,.int .i64 y]) ∧ -100≤x∧x≤100 ∧ -100≤y∧y≤100∧RdP w' b (P+10)∧w.grownBy w' (some b):=by
 have hblt:=h.lt;have hbw:b<w.heap.size:=h.lt;go_enter Try.func58,Try.ntmps58
 have E1:Ext w (w.alloc (.cells #[.int .i64 0,.int .i64 0] 79)):=Ext.alloc w _;have R1:=blk_new w (.cells #[.int .i64 0,.int .i64 0] 79);go_wp2_with fail
 refine(pick_c b P 13 _ (h.ext E1) (by omega) (by omega) (by omega)).mono ?_
 rintro e w1 ⟨x1,rfl,x1a,x1b,r1,g1⟩
 have D1:DG w b (P+1) 0 0 w1:=⟨grown_trans (ext_gr E1) g1,by simpa using r1⟩;have R2:=gr_blk g1 R1 (by omega);clear E1 R1 h r1 g1;go_wp2_with fail
 refine(pick_c b _ 13 _ D1.2 (by omega) (by omega) (by omega)).mono ?_
 rintro e w2 ⟨x2,rfl,x2a,x2b,r2,g2⟩
 have R3:=gr_blk g2 R2 (by omega);have e3:=Ext.alloc w2 (.cells #[.int .i64 (x1-6),.int .i64 (x2-6)] 79);have D3:DG w b (P+2) 0 0 (w2.alloc (.cells #[.int .i64 (x1-6),.int .i64 (x2-6)] 79)):=⟨grown_ext (grown_trans D1.1 g2) e3,(r2.ext e3).mono (by omega)⟩;have R4:=blk_alloc R3 (.cells #[.int .i64 (x1-6),.int .i64 (x2-6)] 79);have hs2:w.heap.size<w2.heap.size:=lt_of_block R3;obtain⟨q,hq⟩:∃ q,q=w2.heap.size:=⟨_,rfl⟩;have V4:=blk_new w2 (.cells #[.int .i64 (x1-6),.int .i64 (x2-6)] 79);rw[←hq]at hs2 V4;clear D1 R2 R3 r2 g2 e3;go_wp2_with fail
 rw[←hq];clear hq;generalize w2.alloc (.cells #[.int .i64 (x1-6),.int .i64 (x2-6)] 79)=w3 at *;refine(pick_c b _ 4 _ D3.2 (by omega) (by omega) (by omega)).mono ?_
 rintro e w4 ⟨x4,rfl,x4a,x4b,r4,g4⟩
 have D4:DG w b (P+3) 0 0 w4:=⟨grown_trans D3.1 g4,r4.mono (by omega)⟩;have R5:=gr_blk g4 R4 (by omega);have V5:=gr_blk g4 V4 (by omega);clear D3 R4 V4 r4 g4;have Q5:IQ 100 w4 q 79 2:=⟨[x1-6,x2-6],V5,rfl,by
  intro j hj
  match j,hj with
  | 0,_=>show -100≤x1-6∧x1-6≤100;omega
  | 1,_=>show -100≤x2-6∧x2-6≤100;omega⟩
 clear V5 x1a x1b x2a x2b;have hqw:w.heap.size<q:=hs2;have hqb:b<q:=by omega
 go_upto_if 15 with(fail)
 go_cut [5]from 6 (fun p wz=>p= .pointer (some ⟨q,0,none⟩)∧DG w b (P+5) 0 0 wz∧IQ 100 wz q 79 2∧wz.heap[w.heap.size]?=some (.cells #[.int .i64 0,.int .i64 0] 79 (0,0)))
 case first =>
  by_cases hx:x4=0
  ·subst hx;go_wp2_with fail
   refine(pick_c b _ 33 _ D4.2 (by omega) (by omega) (by omega)).mono ?_
   rintro e w5 ⟨y1,rfl,y1a,y1b,r5,g5⟩
   have D5:DG w b (P+4) 0 0 w5:=⟨grown_trans D4.1 g5,r5.mono (by omega)⟩;have R6:=gr_blk g5 R5 (by omega);have Q6:=Q5.gr g5 (by omega);clear D4 R5 Q5 r5 g5;go_wp2_with fail
   refine(pick_c b _ 33 _ D5.2 (by omega) (by omega) (by omega)).mono ?_
   rintro e w6 ⟨y2,rfl,y2a,y2b,r6,g6⟩
   have D6:DG w b (P+5) 0 0 w6:=⟨grown_trans D5.1 g6,r6.mono (by omega)⟩;have R7:=gr_blk g6 R6 (by omega);have Q7:=Q6.gr g6 (by omega);clear D5 R6 Q6 r6 g6;obtain⟨u0,c0,f0,-⟩:=Q7.cell (i:=0) (by omega);obtain⟨u1,c1,f1,-⟩:=Q7.cell (i:=1) (by omega);go_wp2;go_meet
   case rel=>exact⟨rfl,(D6.set (by omega) hqb).set (by omega) hqb,(Q7.set 0 _ (by omega) (by omega)).set 1 _ (by omega) (by omega),blk_set_other (blk_set_other R7 (by omega)) (by omega)⟩
  ·have hd:(x4 == 0)=false:=by simpa using hx
   go_wp2;go_meet
   case rel=>exact⟨rfl,⟨D4.1,D4.2.mono (by omega)⟩,Q5,R5⟩
 case rest =>
  obtain⟨rfl,D6,Q6,R6⟩:=hcut;clear D4 Q5 R5;have fin:∀(wz:World),DG w b (P+10) 0 0 wz→IQ 100 wz q 79 2→∃ x y:Int,wz.cell? ⟨q,0,none⟩=some (.int .i64 x)∧wz.cell? ⟨q,1,none⟩=some (.int .i64 y) ∧ -100≤x∧x≤100 ∧ -100≤y∧y≤100:=fun wz _ hq=>by
   obtain⟨u,u1,-,u2,u3⟩:=hq.cell (i:=0) (by omega);obtain⟨v,v1,-,v2,v3⟩:=hq.cell (i:=1) (by omega);exact⟨u,v,u1,v1,u2,u3,v2,v3⟩
  have Fin:=Lib.hid fin;clear fin
  by_cases hn1:n=0
  ·subst hn1;have D7:DG w b (P+10) 0 0 wc:=⟨D6.1,D6.2.mono (by omega)⟩;go_wp2_with fail
   refine(odd_0 b 0 _ (by omega)).mono ?_
   rintro e w7 ⟨rfl,rfl⟩
   obtain⟨x,y,cx,cy,lx1,lx2,ly1,ly2⟩:=Fin.out wc D7 Q6;obtain⟨-,z0,z1,zf0,zf1⟩:=bx2 R6;go_wp2;exact bodyPost_ret (v := .agg #[.int .i64 x,.int .i64 y]) (results_cell_row rfl _ _ w.heap.size 79 #[.int .i64 x,.int .i64 y] (0,0) _ rfl (blk_set2 R6) Try.underlying79 rfl size_Vector) rfl ⟨x,y,rfl,lx1,lx2,ly1,ly2,(D7:DG w b (P+10) 0 0 wc).2.set hbw |>.set hbw,gset (gset (D7:DG w b (P+10) 0 0 wc).1 (Nat.le_refl _)) (Nat.le_refl _)⟩
  ·go_wp2_with fail
   refine(odd_c b _ n _ D6.2 (by omega) (by omega) (by omega)).mono ?_
   rintro e w7 ⟨x7,rfl,r7,g7⟩
   have D7:DG w b (P+6) 0 0 w7:=⟨grown_trans D6.1 g7,r7.mono (by omega)⟩;have R7:=gr_blk g7 R6 (by omega);have Q7:=Q6.gr g7 (by omega);clear D6 R6 Q6 r7 g7;cases x7
   ·have D9:DG w b (P+10) 0 0 w7:=⟨D7.1,D7.2.mono (by omega)⟩;obtain⟨x,y,cx,cy,lx1,lx2,ly1,ly2⟩:=Fin.out w7 D9 Q7;obtain⟨-,z0,z1,zf0,zf1⟩:=bx2 R7;go_wp2;exact bodyPost_ret (v := .agg #[.int .i64 x,.int .i64 y]) (results_cell_row rfl _ _ w.heap.size 79 #[.int .i64 x,.int .i64 y] (0,0) _ rfl (blk_set2 R7) Try.underlying79 rfl size_Vector) rfl ⟨x,y,rfl,lx1,lx2,ly1,ly2,(D9:DG w b (P+10) 0 0 w7).2.set hbw |>.set hbw,gset (gset (D9:DG w b (P+10) 0 0 w7).1 (Nat.le_refl _)) (Nat.le_refl _)⟩
   ·have e8:=Ext.alloc w7 (.cells #[.int .i64 17,.int .i64 (-17)] 3);have S8:=blk_new w7 (.cells #[.int .i64 17,.int .i64 (-17)] 3);have R8:=e8.blk R7;have Q8:=Q7.ext e8;have D8:DG w b (P+6) 0 0 (w7.alloc (.cells #[.int .i64 17,.int .i64 (-17)] 3)):=⟨grown_ext D7.1 e8,D7.2.ext e8⟩;have h7b:=D7.2.lt;clear D7 R7 Q7 e8;go_wp2_with fail
    refine(pick_c b _ 2 _ D8.2 (by omega) (by omega) (by omega)).mono ?_
    rintro e w9 ⟨y9,rfl,y9a,y9b,r9,g9⟩
    have D9:DG w b (P+7) 0 0 w9:=⟨grown_trans D8.1 g9,r9.mono (by omega)⟩;have R9:=gr_blk g9 R8 (by omega);have Q9:=Q8.gr g9 (by omega);have S9:=gr_blk g9 S8 (by omega);clear D8 R8 Q8 S8 r9 g9;obtain⟨-,s0,s1,-,-⟩:=bx2 S9;obtain⟨u0,c0,f0,-⟩:=Q9.cell (i:=0) (by omega);obtain⟨u1,c1,f1,l1⟩:=Q9.cell (i:=1) (by omega);obtain⟨-,z0,z1,zf0,zf1⟩:=bx2 R9;obtain rfl|rfl:y9=0∨y9=1:=by omega
    ·have D10:DG w b (P+10) 0 0 (w9.setCell ⟨q,0,none⟩ (.int .i64 17)):=⟨(D9.set (by omega) hqb).1,(D9.set (by omega) hqb).2.mono (by omega)⟩;have Q10:=Q9.set 0 17 (by omega) (by omega);have R10:(w9.setCell ⟨q,0,none⟩ (.int .i64 17)).heap[w.heap.size]?=_:=blk_set_other R9 (by omega);go_upto_region 6 with(fail)
     generalize w9.setCell ⟨q,0,none⟩ (.int .i64 17)=w10 at *;clear z0 z1 zf0 zf1 c0 f0 c1 f1 s0 s1;obtain⟨x,y,cx,cy,lx1,lx2,ly1,ly2⟩:=Fin.out w10 D10 Q10;obtain⟨-,z0,z1,zf0,zf1⟩:=bx2 R10;go_wp2;exact bodyPost_ret (v := .agg #[.int .i64 x,.int .i64 y]) (results_cell_row rfl _ _ w.heap.size 79 #[.int .i64 x,.int .i64 y] (0,0) _ rfl (blk_set2 R10) Try.underlying79 rfl size_Vector) rfl ⟨x,y,rfl,lx1,lx2,ly1,ly2,(D10:DG w b (P+10) 0 0 w10).2.set hbw |>.set hbw,gset (gset (D10:DG w b (P+10) 0 0 w10).1 (Nat.le_refl _)) (Nat.le_refl _)⟩
    ·have D10:DG w b (P+10) 0 0 (w9.setCell ⟨q,0,none⟩ (.int .i64 (-17))):=⟨(D9.set (by omega) hqb).1,(D9.set (by omega) hqb).2.mono (by omega)⟩;have Q10:=Q9.set 0 (-17) (by omega) (by omega);have R10:(w9.setCell ⟨q,0,none⟩ (.int .i64 (-17))).heap[w.heap.size]?=_:=blk_set_other R9 (by omega);go_upto_region 6 with(fail)
     generalize w9.setCell ⟨q,0,none⟩ (.int .i64 (-17))=w10 at *;clear z0 z1 zf0 zf1 c0 f0 c1 f1 s0 s1;obtain⟨x,y,cx,cy,lx1,lx2,ly1,ly2⟩:=Fin.out w10 D10 Q10;obtain⟨-,z0,z1,zf0,zf1⟩:=bx2 R10;go_wp2;exact bodyPost_ret (v := .agg #[.int .i64 x,.int .i64 y]) (results_cell_row rfl _ _ w.heap.size 79 #[.int .i64 x,.int .i64 y] (0,0) _ rfl (blk_set2 R10) Try.underlying79 rfl size_Vector) rfl ⟨x,y,rfl,lx1,lx2,ly1,ly2,(D10:DG w b (P+10) 0 0 w10).2.set hbw |>.set hbw,gset (gset (D10:DG w b (P+10) 0 0 w10).1 (Nat.le_refl _)) (Nat.le_refl _)⟩
/-- A row written that the call made is as good as what it grew by. -/
theorem gr_new {w w1 w2:World} {r:Option Nat} {q:Nat} (g:w.grownBy w1 r) (h:w1.grownBy w2 (some q)) (hq:w.heap.size≤q):w.grownBy w2 r :=
 ⟨h.os.trans g.os,h.tape.trans g.tape,h.output.trans g.output,Nat.le_trans g.size h.size,fun k hk hne=>(h.block k (Nat.lt_of_lt_of_le hk g.size) (by simp;omega)).trans (g.block k hk hne)⟩
theorem RdP.grq {w w':World} {b P q:Nat} (h:RdP w b P) (g:w.grownBy w' (some q)) (hq:b<q):RdP w' b P:=by
 obtain⟨p,hp,a,m,c,zs,h1,h2,h3,h4,h5⟩:=h;refine⟨p,hp,a,m,c,zs,by rw[g.block b (lt_of_block h1) (by simp;omega)];exact h1,h2,?_,h4,h5⟩;rcases h4 with h4|h4
 ·subst h4;exact⟨h3.1,fun i hi=>by omega⟩
 ·exact h3.grown g (fun x hx e=>by have:=h4 x hx;simp at e;omega)
theorem DG.grq {w wx wy:World} {b P C k q:Nat} (h:DG w b P C k wx) (g:wx.grownBy wy (some q)) (hq:w.heap.size≤q) (hb:b<q):DG w b P C k wy:=⟨gr_new h.1 g hq,h.2.grq g hb⟩
theorem zero_A16 : (Try.prog.info? 81).map (·.zero)=some (some (.agg (ic (zl 16)))):=by kernel_rfl
theorem l20Block_c (b P:Nat) (most n:Int) (w:World) (h:RdP w b P) (hp:P<2^38) (hm0:1≤most) (hm1:most≤5000) (hn0:0≤n) (hn:n≤1000000) :
 Calls Try.prog 59 #[.pointer (some ⟨b,0,none⟩),.int .i64 most,.int .i64 n] w fun e w'=>∃ zs:List Int,e= .returned (.agg (ic zs))∧zs.length=16∧bdI 10000 zs∧RdP w' b (P+100)∧w.grownBy w' (some b):=by
 have hbw:b<w.heap.size:=h.lt;go_enter Try.func59,Try.ntmps59
 have R1:=(IB.new w 81 (zl 16)).alloc (.cells (ic (zl 16)) 81);have Q1:=IB.new (w.alloc (.cells (ic (zl 16)) 81)) 81 (zl 16);have E1:=(Ext.alloc w (.cells (ic (zl 16)) 81)).trans (Ext.alloc _ (.cells (ic (zl 16)) 81));simp only[World.size_alloc]at Q1;go_wp2_with (first|((refine wpList_iallocz 81 rfl rfl 16 zero_A16 ?_);(try simp only[World.size_alloc]))|(refine wpList_izeroz 81 rfl rfl Try.underlying81 size_int 16 zero_A16 ?_)|(refine wpList_istore 81 _ _ rfl rfl Q1 0 16 rfl _ rfl _ rfl size_A16 (zl_len 16) (by simp[zl]) ?_;intro w1 q1 g1;refine Hid.out ?_))
 rw[spl_all (by rw[zl_len])]at q1;have D1:DG w b P 0 0 w1:=⟨gr_new (ext_gr E1) g1 (by omega),(h.ext E1).grq g1 (by omega)⟩;have R2:=R1.gr g1 (by simp);have Q2:IQ 10000 w1 (w.heap.size+1) 81 16:=⟨zl 16,q1,zl_len 16,bdI_zero _ _ (by omega)⟩;clear R1 Q1 E1 q1 g1 h;obtain⟨q,hq⟩:∃ q,q=w.heap.size+1:=⟨_,rfl⟩;refine Lib.hid ?_;rw[←hq]at Q2⊢;have hqw:w.heap.size<q:=by omega
 have hqb:b<q:=by omega
 clear hq;go_wp2_with fail
 refine(pick_c b _ 5 _ D1.2 (by omega) (by omega) (by omega)).mono ?_
 rintro e w2 ⟨kd,rfl,kda,kdb,r2,g2⟩
 have D2:DG w b (P+2) 0 0 w2:=⟨grown_trans D1.1 g2,r2.mono (by omega)⟩;have R3:=R2.gr g2 (by simp;omega);have Q3:=Q2.gr g2 (by omega);clear D1 R2 Q2 r2 g2;go_wp2_with fail
 go_loopw [9] (fun i wr=>∃ k:Nat,k≤16∧i= .int .i64 k∧DG w b (P+2+k*3) 0 0 wr∧IQ 10000 wr q 81 16∧IB wr w.heap.size 81 (zl 16)) (fun i _=>16-(intOf i).toNat)
 case atStart=>exact⟨0,by omega,rfl,⟨D2.1,D2.2.mono (by omega)⟩,Q3,R3⟩
 case round =>
  obtain⟨k,hk,rfl,D_wr,Q_wr,R_wr⟩:=hrel;clear D2 Q3 R3
  by_cases hlt:k<16
  ·obtain rfl|rfl|rfl|rfl|rfl:kd=0∨kd=1∨kd=2∨kd=3∨kd=4:=by omega
   ·go_wp2_with fail
    refine(pick_c b _ 7 _ D_wr.2 (by omega) (by omega) (by omega)).mono ?_
    rintro e wa ⟨ya,rfl,yaa,yab,r_wa,g_wa⟩
    have D_wa:DG w b (P+2+k*3+1) 0 0 wa:=⟨grown_trans D_wr.1 g_wa,r_wa.mono (by omega)⟩;have Q_wa:=Q_wr.gr g_wa (by omega);have R_wa:=R_wr.gr g_wa (by simp;omega);clear D_wr Q_wr R_wr r_wa g_wa;obtain⟨u,cu,fu,-⟩:=Q_wa.cell (i:=k) (by omega);go_wp2;go_roundw
    case rel=>exact⟨k+1,by omega,by go_num,⟨(D_wa.set (by omega) hqb).1,(D_wa.set (by omega) hqb).2.mono (by omega)⟩,Q_wa.set k _ (by omega) (by omega),R_wa.set_other (by omega)⟩
    case measure=>simp[intOf];omega
   ·go_wp2_with fail
    refine(pick_c b _ 256 _ D_wr.2 (by omega) (by omega) (by omega)).mono ?_
    rintro e wa ⟨ya,rfl,yaa,yab,r_wa,g_wa⟩
    have D_wa:DG w b (P+2+k*3+1) 0 0 wa:=⟨grown_trans D_wr.1 g_wa,r_wa.mono (by omega)⟩;have Q_wa:=Q_wr.gr g_wa (by omega);have R_wa:=R_wr.gr g_wa (by simp;omega);clear D_wr Q_wr R_wr r_wa g_wa;go_wp2_with fail
    refine(pick_c b _ 256 _ D_wa.2 (by omega) (by omega) (by omega)).mono ?_
    rintro e wb ⟨yb,rfl,yba,ybb,r_wb,g_wb⟩
    have D_wb:DG w b (P+2+k*3+2) 0 0 wb:=⟨grown_trans D_wa.1 g_wb,r_wb.mono (by omega)⟩;have Q_wb:=Q_wa.gr g_wb (by omega);have R_wb:=R_wa.gr g_wb (by simp;omega);clear D_wa Q_wa R_wa r_wb g_wb;have hmr:=mod_rng (a:=ya*256+yb) (b:=2*most+1) (by omega) (by omega);obtain⟨u,cu,fu,-⟩:=Q_wb.cell (i:=k) (by omega);go_wp2;go_roundw
    case rel=>exact⟨k+1,by omega,by go_num,⟨(D_wb.set (by omega) hqb).1,(D_wb.set (by omega) hqb).2.mono (by omega)⟩,Q_wb.set k _ (by omega) (by omega),R_wb.set_other (by omega)⟩
    case measure=>simp[intOf];omega
   ·have e5:=Ext.alloc wr (.cells #[.int .i64 most,.int .i64 (-most),.int .i64 0] 3);have S5:=blk_new wr (.cells #[.int .i64 most,.int .i64 (-most),.int .i64 0] 3);have hb5:=D_wr.2.lt;have D_w5:DG w b (P+2+k*3) 0 0 (wr.alloc (.cells #[.int .i64 most,.int .i64 (-most),.int .i64 0] 3)):=⟨grown_ext D_wr.1 e5,D_wr.2.ext e5⟩;have Q_w5:=Q_wr.ext e5;have R_w5:=R_wr.ext e5;clear D_wr Q_wr R_wr e5;go_wp2_with fail
    refine(pick_c b _ 3 _ D_w5.2 (by omega) (by omega) (by omega)).mono ?_
    rintro e wa ⟨ya,rfl,yaa,yab,r_wa,g_wa⟩
    have D_wa:DG w b (P+2+k*3+1) 0 0 wa:=⟨grown_trans D_w5.1 g_wa,r_wa.mono (by omega)⟩;have Q_wa:=Q_w5.gr g_wa (by omega);have R_wa:=R_w5.gr g_wa (by simp;omega);have S6:=gr_blk g_wa S5 (by omega);obtain⟨-,s0,s1,s2,-,-,-⟩:=bx3 S6;clear S5 S6 D_w5 Q_w5 R_w5 r_wa g_wa;obtain rfl|rfl|rfl:ya=0∨ya=1∨ya=2:=by omega
    ·obtain⟨u,cu,fu,-⟩:=Q_wa.cell (i:=k) (by omega);go_wp2;go_roundw
     case rel=>exact⟨k+1,by omega,by go_num,⟨(D_wa.set (by omega) hqb).1,(D_wa.set (by omega) hqb).2.mono (by omega)⟩,Q_wa.set k _ (by omega) (by omega),R_wa.set_other (by omega)⟩
     case measure=>simp[intOf];omega
    ·obtain⟨u,cu,fu,-⟩:=Q_wa.cell (i:=k) (by omega);go_wp2;go_roundw
     case rel=>exact⟨k+1,by omega,by go_num,⟨(D_wa.set (by omega) hqb).1,(D_wa.set (by omega) hqb).2.mono (by omega)⟩,Q_wa.set k _ (by omega) (by omega),R_wa.set_other (by omega)⟩
     case measure=>simp[intOf];omega
    ·obtain⟨u,cu,fu,-⟩:=Q_wa.cell (i:=k) (by omega);go_wp2;go_roundw
     case rel=>exact⟨k+1,by omega,by go_num,⟨(D_wa.set (by omega) hqb).1,(D_wa.set (by omega) hqb).2.mono (by omega)⟩,Q_wa.set k _ (by omega) (by omega),R_wa.set_other (by omega)⟩
     case measure=>simp[intOf];omega
   ·go_wp2_with fail
    refine(pick_c b _ 3 _ D_wr.2 (by omega) (by omega) (by omega)).mono ?_
    rintro e wa ⟨ya,rfl,yaa,yab,r_wa,g_wa⟩
    have D_wa:DG w b (P+2+k*3+1) 0 0 wa:=⟨grown_trans D_wr.1 g_wa,r_wa.mono (by omega)⟩;have Q_wa:=Q_wr.gr g_wa (by omega);have R_wa:=R_wr.gr g_wa (by simp;omega);clear D_wr Q_wr R_wr r_wa g_wa;obtain⟨u,cu,fu,-⟩:=Q_wa.cell (i:=k) (by omega);go_wp2;go_roundw
    case rel=>exact⟨k+1,by omega,by go_num,⟨(D_wa.set (by omega) hqb).1,(D_wa.set (by omega) hqb).2.mono (by omega)⟩,Q_wa.set k _ (by omega) (by omega),R_wa.set_other (by omega)⟩
    case measure=>simp[intOf];omega
   ·go_wp2_with fail
    refine(pick_c b _ 4 _ D_wr.2 (by omega) (by omega) (by omega)).mono ?_
    rintro e wa ⟨ya,rfl,yaa,yab,r_wa,g_wa⟩
    have D_wa:DG w b (P+2+k*3+1) 0 0 wa:=⟨grown_trans D_wr.1 g_wa,r_wa.mono (by omega)⟩;have Q_wa:=Q_wr.gr g_wa (by omega);have R_wa:=R_wr.gr g_wa (by simp;omega);clear D_wr Q_wr R_wr r_wa g_wa
    by_cases hy:ya=0
    ·subst hy;have Hm1:=Lib.hid hm1;clear hm1;go_wp2_with fail
     ·refine(pick_c b _ 121 _ D_wa.2 (by omega) (by omega) (by omega)).mono ?_
      rintro e wb ⟨yb,rfl,yba,ybb,r_wb,g_wb⟩
      have D_wb:DG w b (P+2+k*3+2) 0 0 wb:=⟨grown_trans D_wa.1 g_wb,r_wb.mono (by omega)⟩;have Q_wb:=Q_wa.gr g_wb (by omega);have R_wb:=R_wa.gr g_wb (by simp;omega);clear D_wa Q_wa R_wa r_wb g_wb;obtain⟨u,cu,fu,-⟩:=Q_wb.cell (i:=k) (by omega);go_wp2;go_roundw
      case rel=>exact⟨k+1,by omega,by go_num,⟨(D_wb.set (by omega) hqb).1,(D_wb.set (by omega) hqb).2.mono (by omega)⟩,Q_wb.set k _ (by omega) (by omega),R_wb.set_other (by omega)⟩
      case measure=>simp[intOf];omega
     ·refine(pick_c b _ (2*most+1) _ D_wa.2 (by omega) (by omega) (by have:=Hm1.out;omega)).mono ?_
      rintro e wb ⟨yb,rfl,yba,ybb,r_wb,g_wb⟩
      have D_wb:DG w b (P+2+k*3+2) 0 0 wb:=⟨grown_trans D_wa.1 g_wb,r_wb.mono (by omega)⟩;have Q_wb:=Q_wa.gr g_wb (by omega);have R_wb:=R_wa.gr g_wb (by simp;omega);clear D_wa Q_wa R_wa r_wb g_wb;obtain⟨u,cu,fu,-⟩:=Q_wb.cell (i:=k) (by omega);go_wp2;go_roundw
      case rel=>exact⟨k+1,by omega,by go_num,⟨(D_wb.set (by omega) hqb).1,(D_wb.set (by omega) hqb).2.mono (by omega)⟩,Q_wb.set k _ (by omega) (by omega),R_wb.set_other (by omega)⟩
      case measure=>simp[intOf];omega
    ·have hd:(ya == 0)=false:=by simpa using hy
     go_wp2;go_roundw
     case rel=>exact⟨k+1,by omega,by go_num,⟨D_wa.1,D_wa.2.mono (by omega)⟩,Q_wa,R_wa⟩
     case measure=>simp[intOf];omega
  ·obtain rfl:k=16:=by omega
   have D4:DG w b (P+60) 0 0 wr:=⟨D_wr.1,D_wr.2.mono (by omega)⟩;clear D_wr
   by_cases hn1:n=0
   ·subst hn1;go_wp2_with fail
    refine(odd_0 b 0 _ (by omega)).mono ?_
    rintro e w7 ⟨rfl,rfl⟩
    obtain⟨zs,z1,z2,z3⟩:=Q_wr;have Z2:=Lib.hid z2;clear z2;go_wp2_with (first|(refine wpList_iload 81 _ rfl rfl z1 0 16 rfl _ Try.underlying81 rfl size_A16 (by rw[Z2.out];omega) _ (by rw[sub_all _ _ Z2.out]) ?_)|(refine wpList_istore 81 _ _ rfl rfl R_wr 0 16 rfl _ rfl zs rfl size_A16 Z2.out (by simp[zl]) ?_;intro wf pf gf;refine Hid.out ?_))
    rw[spl_all (by rw[Z2.out,zl_len])]at pf;have D9:=D4.grq gf (Nat.le_refl _) hbw;refine Lib.hid ?_;go_wp2;exact bodyPost_ret (v := .agg (ic zs)) (results_cell_row rfl _ _ w.heap.size 81 (ic zs) (0,0) _ rfl pf Try.underlying81 rfl (by rw[ic_size,Z2.out];exact size_A16)) rfl ⟨zs,rfl,Z2.out,z3,D9.2.mono (by omega),D9.1⟩
   ·go_wp2_with fail
    refine(odd_c b _ n _ D4.2 (by omega) (by omega) (by omega)).mono ?_
    rintro e w7 ⟨x7,rfl,r7,g7⟩
    have D7:DG w b (P+61) 0 0 w7:=⟨grown_trans D4.1 g7,r7.mono (by omega)⟩;have Q7:=Q_wr.gr g7 (by omega);have R7:=R_wr.gr g7 (by simp;omega);clear D4 Q_wr R_wr r7 g7;cases x7
    ·skip
     obtain⟨zs,z1,z2,z3⟩:=Q7;have Z2:=Lib.hid z2;clear z2;go_wp2_with (first|(refine wpList_iload 81 _ rfl rfl z1 0 16 rfl _ Try.underlying81 rfl size_A16 (by rw[Z2.out];omega) _ (by rw[sub_all _ _ Z2.out]) ?_)|(refine wpList_istore 81 _ _ rfl rfl R7 0 16 rfl _ rfl zs rfl size_A16 Z2.out (by simp[zl]) ?_;intro wf pf gf;refine Hid.out ?_))
     rw[spl_all (by rw[Z2.out,zl_len])]at pf;have D9:=D7.grq gf (Nat.le_refl _) hbw;refine Lib.hid ?_;go_wp2;exact bodyPost_ret (v := .agg (ic zs)) (results_cell_row rfl _ _ w.heap.size 81 (ic zs) (0,0) _ rfl pf Try.underlying81 rfl (by rw[ic_size,Z2.out];exact size_A16)) rfl ⟨zs,rfl,Z2.out,z3,D9.2.mono (by omega),D9.1⟩
    ·go_wp2_with fail
     refine(pick_c b _ 16 _ D7.2 (by omega) (by omega) (by omega)).mono ?_
     rintro e w8 ⟨y8,rfl,y8a,y8b,r8,g8⟩
     have D8:DG w b (P+62) 0 0 w8:=⟨grown_trans D7.1 g8,r8.mono (by omega)⟩;have Q8:=Q7.gr g8 (by omega);have R8:=R7.gr g8 (by simp;omega);clear D7 Q7 R7 r8 g8;have e9:=Ext.alloc w8 (.cells #[.int .i64 (most+1),.int .i64 (-most-1)] 3);have S9:=blk_new w8 (.cells #[.int .i64 (most+1),.int .i64 (-most-1)] 3);have D9:DG w b (P+62) 0 0 (w8.alloc (.cells #[.int .i64 (most+1),.int .i64 (-most-1)] 3)):=⟨grown_ext D8.1 e9,D8.2.ext e9⟩;have hb9:=D8.2.lt;have Q9:=Q8.ext e9;have R9:=R8.ext e9;clear D8 Q8 R8 e9;go_wp2_with fail
     refine(pick_c b _ 2 _ D9.2 (by omega) (by omega) (by omega)).mono ?_
     rintro e wa ⟨y9,rfl,y9a,y9b,ra,ga⟩
     have DA:DG w b (P+63) 0 0 wa:=⟨grown_trans D9.1 ga,ra.mono (by omega)⟩;have SA:=gr_blk ga S9 (by omega);have QA:=Q9.gr ga (by omega);have RA:=R9.gr ga (by simp;omega);clear D9 Q9 R9 S9 ra ga;obtain⟨-,s0,s1,-,-⟩:=bx2 SA;obtain⟨j,rfl⟩:=Int.eq_ofNat_of_zero_le y8a;obtain⟨u0,c0,f0,-⟩:=QA.cell (i:=j) (by omega);obtain rfl|rfl:y9=0∨y9=1:=by omega
     ·have DB:=DA.set (q:=q) (j:=j) (v := .int .i64 (most+1)) (by omega) hqb;have QB:=QA.set j (most+1) (by omega) (by omega);have RB:=RA.set_other (c:=q) (i:=j) (v := .int .i64 (most+1)) (by omega);go_upto_region 19 with(fail)
      generalize wa.setCell ⟨q,j,none⟩ (.int .i64 (most+1))=wb at *;clear c0 f0 s0 s1 SA DA QA RA;obtain⟨zs,z1,z2,z3⟩:=QB;have Z2:=Lib.hid z2;clear z2;go_wp2_with (first|(refine wpList_iload 81 _ rfl rfl z1 0 16 rfl _ Try.underlying81 rfl size_A16 (by rw[Z2.out];omega) _ (by rw[sub_all _ _ Z2.out]) ?_)|(refine wpList_istore 81 _ _ rfl rfl RB 0 16 rfl _ rfl zs rfl size_A16 Z2.out (by simp[zl]) ?_;intro wf pf gf;refine Hid.out ?_))
      rw[spl_all (by rw[Z2.out,zl_len])]at pf;have D9:=DB.grq gf (Nat.le_refl _) hbw;refine Lib.hid ?_;go_wp2;exact bodyPost_ret (v := .agg (ic zs)) (results_cell_row rfl _ _ w.heap.size 81 (ic zs) (0,0) _ rfl pf Try.underlying81 rfl (by rw[ic_size,Z2.out];exact size_A16)) rfl ⟨zs,rfl,Z2.out,z3,D9.2.mono (by omega),D9.1⟩
     ·have DB:=DA.set (q:=q) (j:=j) (v := .int .i64 (-most-1)) (by omega) hqb;have QB:=QA.set j (-most-1) (by omega) (by omega);have RB:=RA.set_other (c:=q) (i:=j) (v := .int .i64 (-most-1)) (by omega);go_upto_region 19 with(fail)
      generalize wa.setCell ⟨q,j,none⟩ (.int .i64 (-most-1))=wb at *;clear c0 f0 s0 s1 SA DA QA RA;obtain⟨zs,z1,z2,z3⟩:=QB;have Z2:=Lib.hid z2;clear z2;go_wp2_with (first|(refine wpList_iload 81 _ rfl rfl z1 0 16 rfl _ Try.underlying81 rfl size_A16 (by rw[Z2.out];omega) _ (by rw[sub_all _ _ Z2.out]) ?_)|(refine wpList_istore 81 _ _ rfl rfl RB 0 16 rfl _ rfl zs rfl size_A16 Z2.out (by simp[zl]) ?_;intro wf pf gf;refine Hid.out ?_))
      rw[spl_all (by rw[Z2.out,zl_len])]at pf;have D9:=DB.grq gf (Nat.le_refl _) hbw;refine Lib.hid ?_;go_wp2;exact bodyPost_ret (v := .agg (ic zs)) (results_cell_row rfl _ _ w.heap.size 81 (ic zs) (0,0) _ rfl pf Try.underlying81 rfl (by rw[ic_size,Z2.out];exact size_A16)) rfl ⟨zs,rfl,Z2.out,z3,D9.2.mono (by omega),D9.1⟩
section
variable {P : Program}
/-- T{..}, T of integers alone. -/
theorem wpList_ibuild {ops:Array Oper} {rest:List Oper} {o:Oper} {a:Act} {w:World} {Q:Exit→Act→World→Prop} (t:TypeId) (parts:Array (Nat×Operand)) (ho:o.op= .build t parts) (hgd:Region.wanted o (yielded ops a.tmps)=true)
 (zs:List Int) (hb:P.built t (parts.map fun(i,x)=>(i,a.eval x)).toList=some (ic zs))
 (hK:wpList P ops Q rest (a.put o.dst (.agg (ic zs))) w):wpList P ops Q (o::rest) a w:=by
 refine wpList_wanted hgd fun _ hK' => ?_
 unfold Oper.wp execOp;simp only[ho,Sem.run_bind,run_build w t _ _ hb,Result.andThen_ok];exact hK' _ _ hK
end
theorem bdI_cons {B:Int} {z:Int} {zs:List Int} (h1 : -B≤z) (h2:z≤B) (h:bdI B zs):bdI B (z::zs):=by
 intro j hj;cases j with
 | zero=>exact⟨h1,h2⟩
 | succ j=>exact h j (by simpa using hj)
theorem IQ.splq {B:Int} {w:World} {q T n off:Nat} {zs ys:List Int} (p:IB w q T (spl zs off ys)) (hl:zs.length=n) (hz:bdI B zs) (hy:bdI B ys) (ho:off+ys.length≤n):IQ B w q T n :=
 ⟨_,p,by rw[spl_len (by omega),hl],bdI_spl hz hy (by omega)⟩
theorem bdI_two {B x y:Int} (h1 : -B≤x) (h2:x≤B) (h3 : -B≤y) (h4:y≤B):bdI B [x,y]:=bdI_cons h1 h2 (bdI_cons h3 h4 (fun j hj=>by simp at hj))
theorem odd_any (b P:Nat) (n:Int) (w:World) (h:RdP w b P) (hp:P<2^40) (hn0:0≤n) (hn:n≤1000000000) :
 Calls Try.prog 23 #[.pointer (some ⟨b,0,none⟩),.int .i64 n] w fun e w'=>∃ x:Bool,e= .returned (.bool x)∧RdP w' b (P+1)∧w.grownBy w' (some b):=by
 by_cases hz:n=0
 ·subst hz;refine(odd_0 b 0 _ (by omega)).mono ?_
  rintro e w' ⟨rfl,rfl⟩
  exact⟨false,rfl,h.mono (by omega),grown_refl _ _⟩
 ·refine(odd_c b P n _ h hp (by omega) hn).mono ?_
  rintro e w' ⟨x,rfl,r,g⟩
  exact⟨x,rfl,r,g⟩
theorem zero_Macz : (Try.prog.info? 84).map (·.zero)=some (some (.agg (ic (zl 71)))):=by kernel_rfl
theorem built_Macz (x:Int):Try.prog.built 84 [(0,.int .i64 x)]=some (ic (x::zl 70)):=by kernel_rfl
theorem built_Vec1 (x:Int):Try.prog.built 79 [(0,.int .i64 x)]=some (ic [x,0]):=by kernel_rfl
theorem built_Vec2 (x:Int):Try.prog.built 79 [(1,.int .i64 x)]=some (ic [0,x]):=by kernel_rfl
/-- What holds while a macroblock is drawn. -/
def MG (w:World) (b P k q:Nat) (wx:World):Prop:=DG w b P 1 k wx∧IQ 10000 wx q 84 71∧IB wx w.heap.size 84 (zl 71)∧b<w.heap.size∧w.heap.size<q
theorem MG.step {w wx:World} {b P k q:Nat} (h:MG w b P k q wx):MG w b P (k+1) q wx:=⟨h.1.step,h.2⟩
theorem MG.more {w wx wy:World} {b P k q:Nat} (h:MG w b P k q wx) (e:wx.grownBy wy (some b)) (r:RdP wy b (P+k*1+1)) (_:1≤1):MG w b P (k+1) q wy:=⟨h.1.more e r (Nat.le_refl _),h.2.1.gr e (by have:=h.2.2.2;omega),h.2.2.1.gr e (by have:=h.2.2.2;simp;omega),h.2.2.2⟩
theorem MG.moren {w wx wy:World} {b P k q n:Nat} (h:MG w b P k q wx) (e:wx.grownBy wy (some b)) (r:RdP wy b (P+k*1+n)):MG w b P (k+n) q wy:=⟨⟨grown_trans h.1.1 e,r.mono (by omega)⟩,h.2.1.gr e (by have:=h.2.2.2;omega),h.2.2.1.gr e (by have:=h.2.2.2;simp;omega),h.2.2.2⟩
theorem MG.ext {w wx wy:World} {b P k q:Nat} (h:MG w b P k q wx) (e:Ext wx wy):MG w b P (k+1) q wy:=⟨h.1.ext e,h.2.1.ext e,h.2.2.1.ext e,h.2.2.2⟩
theorem MG.ext0 {w wx wy:World} {b P k q:Nat} (h:MG w b P k q wx) (e:Ext wx wy):MG w b P k q wy:=⟨⟨grown_ext h.1.1 e,h.1.2.ext e⟩,h.2.1.ext e,h.2.2.1.ext e,h.2.2.2⟩
theorem MG.drew {w wx:World} {b P k q:Nat} (h:MG w b P k q wx):MG w b P k q wx.drew:=⟨h.1.drew,h.2.1.ext (Ext.drewN _ 1),h.2.2.1.ext (Ext.drewN _ 1),h.2.2.2⟩
theorem MG.up {w wx:World} {b P k k' q:Nat} (h:MG w b P k q wx) (hk:k≤k'):MG w b P k' q wx:=⟨⟨h.1.1,h.1.2.mono (by omega)⟩,h.2⟩
theorem MG.re {w wx:World} {b P k q P':Nat} (h:MG w b P k q wx) (hP:P+k≤P'):MG w b P' 0 q wx:=⟨h.1.reset (by omega) 1,h.2⟩
theorem MG.set {w wx:World} {b P k q:Nat} (h:MG w b P k q wx) (i:Nat) (v:Int) (h1 : -10000≤v) (h2:v≤10000):MG w b P k q (wx.setCell ⟨q,i,none⟩ (.int .i64 v)) :=
 ⟨h.1.set (Nat.le_of_lt h.2.2.2.2) (Nat.lt_trans h.2.2.2.1 h.2.2.2.2),h.2.1.set i v h1 h2,h.2.2.1.set_other (by have:=h.2.2.2;omega),h.2.2.2⟩
theorem MG.spl {w wx wy:World} {b P k q off:Nat} {zs ys:List Int} (h:MG w b P k q wx) (g:wx.grownBy wy (some q)) (p:IB wy q 84 (spl zs off ys)) (hl:zs.length=71) (hz:bdI 10000 zs) (hy:bdI 10000 ys) (ho:off+ys.length≤71):MG w b P k q wy :=
 ⟨h.1.grq g (Nat.le_of_lt h.2.2.2.2) (Nat.lt_trans h.2.2.2.1 h.2.2.2.2),IQ.splq p hl hz hy ho,h.2.2.1.gr g (by have:=h.2.2.2;simp;omega),h.2.2.2⟩
theorem MG.cell {w wx:World} {b P k q:Nat} (h:MG w b P k q wx) {i:Nat} (hi:i<71):∃ v:Int,wx.cell? ⟨q,i,none⟩=some (.int .i64 v)∧wx.frozen? ⟨q,i,none⟩=false ∧ -10000≤v∧v≤10000:=h.2.1.cell hi
theorem l20Macro_c (b P:Nat) (intra:Bool) (n:Int) (w:World) (h:RdP w b P) (hp:P<2^37) (hn0:0≤n) (hn:n≤1000000) :
 Calls Try.prog 45 #[.pointer (some ⟨b,0,none⟩),.bool intra,.int .i64 n] w fun e w'=>∃ zs:List Int,e= .returned (.agg (ic zs))∧zs.length=71∧bdI 10000 zs∧RdP w' b (P+600)∧w.grownBy w' (some b):=by
 have hbw:b<w.heap.size:=h.lt;go_enter Try.func45,Try.ntmps45
 have R1:=IB.new w 84 (zl 71);have E1:=Ext.alloc w (.cells (ic (zl 71)) 84);go_wp2_with (refine wpList_iallocz 84 rfl rfl 71 zero_Macz ?_;(try simp only[World.size_alloc]))
 refine(pick_c b P 3 _ (h.ext E1) (by omega) (by omega) (by omega)).mono ?_
 rintro e w1 ⟨kd,rfl,kda,kdb,r1,g1⟩
 have hw1:w.heap.size<w1.heap.size:=by have:=g1.size;simp at this;omega
 have R2:=(R1.gr g1 (by simp;omega)).alloc (.cells (ic (zl 71)) 84);have D2:DG w b P 1 1 (w1.alloc (.cells (ic (zl 71)) 84)):=⟨grown_ext (grown_trans (ext_gr E1) g1) (Ext.alloc _ _),(r1.mono (by omega)).ext (Ext.alloc _ _)⟩;have Q2:=IB.new w1 84 (zl 71);clear R1 E1 r1 g1 h;go_wp2_with (first|(refine wpList_ibuild 84 _ rfl rfl (kd::zl 70) (built_Macz _) ?_)|(refine wpList_iallocz 84 rfl rfl 71 zero_Macz ?_;(try simp only[World.size_alloc]))|(refine wpList_istore 84 _ _ rfl rfl Q2 0 71 rfl _ rfl (kd::zl 70) rfl size_Macro (by simp[zl]) (by simp[zl]) ?_;intro w3 q3 g3;refine Hid.out ?_))
 rw[spl_all (by simp[zl])]at q3;obtain⟨q,hq⟩:∃ q,q=w1.heap.size:=⟨_,rfl⟩;rw[←hq]at q3 g3 hw1⊢;have M3:MG w b P 1 q w3:=⟨D2.grq g3 (by omega) (by omega),⟨_,q3,by simp[zl],bdI_cons (by omega) (by omega) (bdI_zero _ _ (by omega))⟩,R2.gr g3 (by simp;omega),hbw,hw1⟩;clear R2 D2 Q2 q3 g3 hq;refine Lib.hid ?_;go_upto_if 12 with(fail)
 go_cut [7]from 9 (fun p wz=>p= .pointer (some ⟨q,0,none⟩)∧MG w b P 1 q wz)
 case first =>
  obtain⟨u0,c0,f0,-⟩:=M3.cell (i:=0) (by omega);cases intra
  ·go_wp2;go_meet
   case rel=>exact⟨rfl,M3⟩
  ·go_wp2;go_meet
   case rel=>exact⟨rfl,M3.set 0 2 (by omega) (by omega)⟩
 case rest =>
  obtain⟨rfl,M4⟩:=hcut;clear M3;obtain⟨u0,c0,f0,-⟩:=M4.cell (i:=0) (by omega);go_upto_if 16 with(fail)
  go_cut [7]from 9 (fun p wz=>p= .pointer (some ⟨q,0,none⟩)∧MG w b P 12 q wz)
  case first =>
   by_cases hu:u0=1
   ·subst hu;go_wp2_with fail
    refine(l20Vector_c b _ 0 _ M4.1.2 (by omega) (by omega) (by omega)).mono ?_
    rintro e w5 ⟨vx,vy,rfl,v1,v2,v3,v4,r5,g5⟩
    have M5:=M4.moren g5 (r5.mono (Nat.le_refl _));obtain⟨zs,z1,z2,z3⟩:=M5.2.1;have Z2:=Lib.hid z2;clear z2;go_wp2_with (refine wpList_istore 79 _ _ rfl rfl z1 1 2 rfl _ rfl [vx,vy] rfl size_Vector rfl (by rw[Z2.out];simp) ?_;intro w6 p6 g6;refine Hid.out ?_)
    have M6:=M5.spl g6 p6 Z2.out z3 (bdI_two (by omega) (by omega) (by omega) (by omega)) (by simp);refine Lib.hid ?_;go_wp2;go_meet
    case rel=>exact⟨rfl,M6.up (by omega)⟩
   ·have hd:(u0 == 1)=false:=by simpa using hu
    go_wp2;go_meet
    case rel=>exact⟨rfl,M4.up (by omega)⟩
  case rest =>
   obtain⟨rfl,M5⟩:=hcut;clear M4 c0 f0;go_wp2_with fail
   go_loopw [8] (fun i wr=>∃ k:Nat,k≤4∧i= .int .i64 k∧MG w b (P+12+k*120) 0 q wr) (fun i _=>4-(intOf i).toNat)
   case atStart=>exact⟨0,by omega,rfl,M5.re (by omega)⟩
   case round =>
    obtain⟨k,hk,rfl,Mr⟩:=hrel;clear M5
    by_cases hlt:k<4
    ·obtain⟨u0,c0,f0,-⟩:=Mr.cell (i:=0) (by omega);go_upto_if 26 with(fail)
     go_cut [7,8]from 20 to 49 (fun p i wz=>p= .pointer (some ⟨q,0,none⟩)∧i= .int .i64 k∧MG w b (P+12+k*120) 1 q wz)
     case first =>
      by_cases hu:u0=2
      ·subst hu;go_wp2_with fail
       refine(pick_c b _ 5 _ Mr.1.2 (by omega) (by omega) (by omega)).mono ?_
       rintro e wa ⟨ya,rfl,yaa,yab,ra,ga⟩
       have Ma:=Mr.moren ga (ra.mono (Nat.le_refl _));obtain⟨u1,c1,f1,-⟩:=Ma.cell (i:=3+k) (by omega);go_wp2;go_meet
       case rel=>exact⟨rfl,rfl,(Ma.set (3+k) ya (by omega) (by omega)).up (by omega)⟩
      ·have hd:(u0 == 2)=false:=by simpa using hu
       go_wp2;go_meet
       case rel=>exact⟨rfl,rfl,Mr.up (by omega)⟩
     case rest =>
      obtain⟨rfl,rfl,Ms⟩:=hcut;clear Mr c0 f0;obtain⟨u0,c0,f0,-⟩:=Ms.cell (i:=0) (by omega)
      by_cases hu:u0=0
      ·subst hu;go_wp2;go_roundw
       case rel=>exact⟨k+1,by omega,by go_num,Ms.re (by omega)⟩
       case measure=>simp[intOf];omega
      ·have hd:(u0 != 0)=true:=by simpa using hu
       go_wp2_with fail
       refine(pick_c b _ 3 _ Ms.1.2 (by omega) (by omega) (by omega)).mono ?_
       rintro e wa ⟨ya,rfl,yaa,yab,ra,ga⟩
       have M_wa:=Ms.moren ga (ra.mono (Nat.le_refl _));clear Ms c0 f0 ra ga
       by_cases hy:ya=0
       ·subst hy;go_wp2;go_roundw
        case rel=>exact⟨k+1,by omega,by go_num,M_wa.re (by omega)⟩
        case measure=>simp[intOf];omega
       ·have hy2:0<ya:=by omega
        have e5:=Ext.alloc wa (.cells #[.int .i64 3,.int .i64 40,.int .i64 4080] 3);have S5:=blk_new wa (.cells #[.int .i64 3,.int .i64 40,.int .i64 4080] 3);have hb5:=M_wa.1.2.lt;have M_w5:=M_wa.ext0 e5;clear M_wa e5;go_wp2_with fail
        refine(pick_c b _ 3 _ M_w5.1.2 (by omega) (by omega) (by omega)).mono ?_
        rintro e wb ⟨yb,rfl,yba,ybb,r_wb,g_wb⟩
        have M_wb:=M_w5.moren g_wb (r_wb.mono (Nat.le_refl _));clear M_w5 r_wb;have S6:=gr_blk g_wb S5 (by omega);obtain⟨-,s0,s1,s2,-,-,-⟩:=bx3 S6;clear S5 S6 g_wb;obtain⟨jb,rfl⟩:=Int.eq_ofNat_of_zero_le yba;obtain⟨mo,hmo,hmo1,hmo2⟩:∃ mo:Int,wb.cell? ⟨wa.heap.size,jb,none⟩=some (.int .i64 mo)∧1≤mo∧mo≤5000:=by
         obtain rfl|rfl|rfl:jb=0∨jb=1∨jb=2:=by omega
         ·exact⟨_,s0,by omega,by omega⟩
         ·exact⟨_,s1,by omega,by omega⟩
         ·exact⟨_,s2,by omega,by omega⟩
        have hjb:jb<3:=by omega
        clear s0 s1 s2;go_wp2_with fail
        refine(l20Block_c b _ mo 0 _ M_wb.1.2 (by omega) hmo1 hmo2 (by omega) (by omega)).mono ?_
        rintro e wd ⟨ys,rfl,yl,yb,rd,gd⟩
        have M_wd:=M_wb.moren gd (rd.mono (Nat.le_refl _));obtain⟨zs,z1,z2,z3⟩:=M_wd.2.1;have Z2:=Lib.hid z2;have Yl:=Lib.hid yl;clear z2 yl M_wb rd gd hmo;go_wp2_with (refine wpList_istore 81 _ _ rfl rfl z1 (7+k*16) 16 rfl _ rfl ys rfl size_A16 Yl.out (by rw[Z2.out];omega) ?_;intro we pe ge;refine Hid.out ?_)
        have M_we:=M_wd.spl ge pe Z2.out z3 yb (by rw[Yl.out];omega);refine Lib.hid ?_;go_wp2;go_roundw
        case rel=>exact⟨k+1,by omega,by go_num,M_we.re (by omega)⟩
        case measure=>simp[intOf];omega
    ·obtain rfl:k=4:=by omega
     go_wp2_with fail
     refine(odd_any b _ n _ Mr.1.2 (by omega) hn0 (by omega)).mono ?_
     rintro e wo ⟨x,rfl,ro,go⟩
     have M_wo:=(Mr.moren go (ro.mono (Nat.le_refl _))).re (P':=P+500) (by omega);clear Mr ro go;go_upto_if 52 with(fail)
     go_cut [7]from 9 (fun p wz=>p= .pointer (some ⟨q,0,none⟩)∧MG w b (P+600) 0 q wz)
     case first =>
      cases x
      ·go_wp2;go_meet
       case rel=>exact⟨rfl,M_wo.re (by omega)⟩
      ·go_wp2_with fail
       refine(pick_c b _ 5 _ M_wo.1.2 (by omega) (by omega) (by omega)).mono ?_
       rintro e wsw ⟨ysw,rfl,yswa,yswb,r_wsw,g_wsw⟩
       have M_wsw:=M_wo.moren g_wsw (r_wsw.mono (Nat.le_refl _));clear M_wo r_wsw g_wsw;obtain rfl|rfl|rfl|rfl|rfl:ysw=0∨ysw=1∨ysw=2∨ysw=3∨ysw=4:=by omega
       ·have e5:=Ext.alloc wsw (.cells #[.int .i64 (-1),.int .i64 3,.int .i64 0] 3);have S5:=blk_new wsw (.cells #[.int .i64 (-1),.int .i64 3,.int .i64 0] 3);have hb5:=M_wsw.1.2.lt;have M_w5:=M_wsw.ext0 e5;clear M_wsw e5;go_wp2_with fail
        refine(pick_c b _ 3 _ M_w5.1.2 (by omega) (by omega) (by omega)).mono ?_
        rintro e wb ⟨yb,rfl,yba,ybb,r_wb,g_wb⟩
        have M_wb:=M_w5.moren g_wb (r_wb.mono (Nat.le_refl _));clear M_w5 r_wb;have S6:=gr_blk g_wb S5 (by omega);obtain⟨-,s0,s1,s2,-,-,-⟩:=bx3 S6;clear S5 S6 g_wb;obtain⟨u1,c1,f1,-⟩:=M_wb.cell (i:=0) (by omega);obtain rfl|rfl|rfl:yb=0∨yb=1∨yb=2:=by omega
        ·go_wp2;go_meet
         case rel=>exact⟨rfl,(M_wb.set 0 (-1) (by omega) (by omega)).re (by omega)⟩
        ·go_wp2;go_meet
         case rel=>exact⟨rfl,(M_wb.set 0 3 (by omega) (by omega)).re (by omega)⟩
        ·go_wp2;go_meet
         case rel=>exact⟨rfl,(M_wb.set 0 0 (by omega) (by omega)).re (by omega)⟩
       ·obtain⟨zs,z1,z2,z3⟩:=M_wsw.2.1;have Z2:=Lib.hid z2;clear z2;go_wp2_with (first|(refine wpList_ibuild 79 _ rfl rfl [17,0] (built_Vec1 _) ?_)|(refine wpList_istore 79 _ _ rfl rfl z1 1 2 rfl _ rfl [17,0] rfl size_Vector rfl (by rw[Z2.out];simp) ?_;intro w6 p6 g6;refine Hid.out ?_))
        have M_w6:=M_wsw.spl g6 p6 Z2.out z3 (bdI_two (by omega) (by omega) (by omega) (by omega)) (by simp);refine Lib.hid ?_;go_wp2;go_meet
        case rel=>exact⟨rfl,M_w6.re (by omega)⟩
       ·go_wp2_with fail
        refine(pick_c b _ 4 _ M_wsw.1.2 (by omega) (by omega) (by omega)).mono ?_
        rintro e wa ⟨ya,rfl,yaa,yab,r_wa,g_wa⟩
        have M_wa:=M_wsw.moren g_wa (r_wa.mono (Nat.le_refl _));clear M_wsw r_wa g_wa;obtain⟨ja,rfl⟩:=Int.eq_ofNat_of_zero_le yaa;have e5:=Ext.alloc wa (.cells #[.int .i64 (-1),.int .i64 5,.int .i64 1] 3);have S5:=blk_new wa (.cells #[.int .i64 (-1),.int .i64 5,.int .i64 1] 3);have hb5:=M_wa.1.2.lt;have M_w5:=M_wa.ext0 e5;clear M_wa e5;go_wp2_with fail
        refine(pick_c b _ 3 _ M_w5.1.2 (by omega) (by omega) (by omega)).mono ?_
        rintro e wb ⟨yb,rfl,yba,ybb,r_wb,g_wb⟩
        have M_wb:=M_w5.moren g_wb (r_wb.mono (Nat.le_refl _));clear M_w5 r_wb;have S6:=gr_blk g_wb S5 (by omega);obtain⟨-,s0,s1,s2,-,-,-⟩:=bx3 S6;clear S5 S6 g_wb;obtain⟨u1,c1,f1,-⟩:=M_wb.cell (i:=3+ja) (by omega);obtain rfl|rfl|rfl:yb=0∨yb=1∨yb=2:=by omega
        ·go_wp2;go_meet
         case rel=>exact⟨rfl,(M_wb.set (3+ja) (-1) (by omega) (by omega)).re (by omega)⟩
        ·go_wp2;go_meet
         case rel=>exact⟨rfl,(M_wb.set (3+ja) 5 (by omega) (by omega)).re (by omega)⟩
        ·go_wp2;go_meet
         case rel=>exact⟨rfl,(M_wb.set (3+ja) 1 (by omega) (by omega)).re (by omega)⟩
       ·go_upto_region 23 with fail
        have hext:Stab (fun wa wb=>wa.grownBy wb (some b)) (fun i own ys wx=>match i with|0=>own= .pointer (some ⟨b,0,none⟩)|1=>∃ x:Int,own= .int .i64 x∧0≤x∧x<4|2=>own= .pointer (some ⟨b,0,none⟩)|3=>∃ x:Int,own= .int .i64 x∧0≤x∧x<16|4=>SlR wx (q+1) own 3 (-4081) (4081)|5=>own= .pointer (some ⟨b,0,none⟩)|6=>∃ x:Int,own= .int .i64 x∧0≤x∧x<3|7=>PtR wx (q+1) own (-4081) (4081)|8=>∃ x:Int,own= .int .i64 x ∧ -4081≤x∧x≤4081|9=>own= .pointer (some ⟨q,7,none⟩)|10=>∃ j:Nat,own= .pointer (some ⟨q,7+j*16,none⟩)∧j<4|11=>∃ j:Nat,own= .pointer (some ⟨q,j,none⟩)∧j<71|12=>True|_=>True):=by
         intro i own ys wa wb e h
         match i,h with
         | 0,h|1,h|2,h|3,h|5,h|6,h|8,h|9,h|10,h|11,h|12,h=>exact h
         | 4,h|7,h=>exact h.grown e (by omega)
         | _+13,_=>trivial
        have Hext:=Lib.hid hext;clear hext;refine wp_region_inv2 (by kernel_rfl) [(82,0),(83,1),(84,2),(85,3),(86,4),(87,5),(88,6),(89,7),(90,8),(91,9),(92,10),(93,11)] [[],[0],[],[0,1,2],[],[],[0,1,2,3,5],[0,1,2,3,4,5,6],[0,1,2,3,4,5,6,7],[],[0,1,9],[0,1,2,3,4,5,6,7,8,9,10],[0,1,2,3,4,5,6,7,8,9,10,11]] (fun i own ys wx=>match i with|0=>own= .pointer (some ⟨b,0,none⟩)|1=>∃ x:Int,own= .int .i64 x∧0≤x∧x<4|2=>own= .pointer (some ⟨b,0,none⟩)|3=>∃ x:Int,own= .int .i64 x∧0≤x∧x<16|4=>SlR wx (q+1) own 3 (-4081) (4081)|5=>own= .pointer (some ⟨b,0,none⟩)|6=>∃ x:Int,own= .int .i64 x∧0≤x∧x<3|7=>PtR wx (q+1) own (-4081) (4081)|8=>∃ x:Int,own= .int .i64 x ∧ -4081≤x∧x≤4081|9=>own= .pointer (some ⟨q,7,none⟩)|10=>∃ j:Nat,own= .pointer (some ⟨q,7+j*16,none⟩)∧j<4|11=>∃ j:Nat,own= .pointer (some ⟨q,j,none⟩)∧j<71|12=>True|_=>True) (fun kx wx=>MG w b (P+510) kx q wx) (by kernel_rfl) (by kernel_rfl) (by kernel_rfl) ?g0_r1 ?gop_r1 ?gend_r1
        case g0_r1=>exact(M_wsw.re (P':=P+510) (by omega)).drew
        case gop_r1 =>
         refine⟨?_,?o1,?_,?o3,?o4,?_,?o6,?o7,?o8,?_,?o10,?o11,?o12,trivial⟩ <;> (intro kx xs wx hk hG hD hI Qo Kx hK hQo;simp only[patchS,Nat.reduceAdd,Nat.reduceEqDiff,↓reduceIte]at hQo⊢)
         case o1 =>
          rw[ddq (hD 0 rfl)]at hQo⊢;clear hD hI;go_wp2_with fail
          refine(pick_c _ _ _ _ hG.1.2 (DG.small hk (by decide) (by decide) (by omega)) (by omega) (by omega)).mono ?_
          rintro e w4 ⟨xx,rfl,xa,xb,rd,gr⟩
          go_wp2;exact hK.out _ _ ⟨⟨xx,rfl,xa,by omega⟩,hG.more gr rd (by decide),fun i _ _ _ own ys h=>Hext.out i own ys _ _ gr h⟩
         case o3 =>
          rw[ddq (hD 2 rfl)]at hQo⊢;clear hD hI;go_wp2_with fail
          refine(pick_c _ _ _ _ hG.1.2 (DG.small hk (by decide) (by decide) (by omega)) (by omega) (by omega)).mono ?_
          rintro e w4 ⟨xx,rfl,xa,xb,rd,gr⟩
          go_wp2;exact hK.out _ _ ⟨⟨xx,rfl,xa,by omega⟩,hG.more gr rd (by decide),fun i _ _ _ own ys h=>Hext.out i own ys _ _ gr h⟩
         case o4 =>
          clear hD hI;have e5:=Ext.alloc wx (.cells #[.int .i64 4081,.int .i64 (-4081),.int .i64 1] 3);go_wp2;exact hK.out _ _ ⟨⟨_,[4081,(-4081),1],rfl,by have:=hG.2.1.lt;omega,Sl_new _ _ _,by simp <;> omega⟩,hG.ext e5,fun i _ _ _ own ys h=>Hext.out i own ys _ _ (ext_gr e5) h⟩
         case o6 =>
          rw[ddq (hD 5 rfl)]at hQo⊢;clear hD hI;go_wp2_with fail
          refine(pick_c _ _ _ _ hG.1.2 (DG.small hk (by decide) (by decide) (by omega)) (by omega) (by omega)).mono ?_
          rintro e w4 ⟨xx,rfl,xa,xb,rd,gr⟩
          go_wp2;exact hK.out _ _ ⟨⟨xx,rfl,xa,by omega⟩,hG.more gr rd (by decide),fun i _ _ _ own ys h=>Hext.out i own ys _ _ gr h⟩
         case o7 =>
          have d4:SlR wx (q+1) (xs 4) 3 (-4081) (4081):=hD 4 rfl;have d6:∃ x:Int,(xs 6) = .int .i64 x∧0≤x∧x<3:=hD 6 rfl;clear hD hI;generalize xs 4=y4 at *;generalize xs 6=y6 at *;obtain⟨g4,l4,rfl,n4,s4,r4⟩:=d4;obtain⟨x6,rfl,x6a,x6b⟩:=d6;go_wp2;exact hK.out _ _ ⟨SlR.at n4 s4 r4 (by omega),hG.step,kkp⟩
         case o8 =>
          have d7:PtR wx (q+1) (xs 7) (-4081) (4081):=hD 7 rfl;clear hD hI;generalize xs 7=y7 at *;obtain⟨g7,j7,y7,rfl,n7,c7,y7a,y7b⟩:=d7;go_wp2;exact hK.out _ _ ⟨⟨_,rfl,by omega,by omega⟩,hG.step,kkp⟩
         case o10 =>
          rw[ddq (hD 9 rfl)]at hQo⊢;have d1:∃ x:Int,(xs 1) = .int .i64 x∧0≤x∧x<4:=hD 1 rfl;clear hD hI;generalize xs 1=y1 at *;obtain⟨x1,rfl,x1a,x1b⟩:=d1;obtain⟨j1,rfl⟩:=Int.eq_ofNat_of_zero_le x1a;go_wp2;exact hK.out _ _ ⟨⟨j1,rfl,by omega⟩,hG.step,fun _ _ _ _ _ _ h=>h⟩
         case o11 =>
          have d3:∃ x:Int,(xs 3) = .int .i64 x∧0≤x∧x<16:=hD 3 rfl;have d10:∃ j:Nat,(xs 10) = .pointer (some ⟨q,7+j*16,none⟩)∧j<4:=hD 10 rfl;clear hD hI;generalize xs 3=y3 at *;generalize xs 10=y10 at *;obtain⟨x3,rfl,x3a,x3b⟩:=d3;obtain⟨j10,rfl,h10⟩:=d10;obtain⟨j3,rfl⟩:=Int.eq_ofNat_of_zero_le x3a;go_wp2;exact hK.out _ _ ⟨⟨_,rfl,by omega⟩,hG.step,fun _ _ _ _ _ _ h=>h⟩
         case o12 =>
          have d8:∃ x:Int,(xs 8) = .int .i64 x ∧ -4081≤x∧x≤4081:=hD 8 rfl;have d11:∃ j:Nat,(xs 11) = .pointer (some ⟨q,j,none⟩)∧j<71:=hD 11 rfl;clear hD hI;generalize xs 8=y8 at *;generalize xs 11=y11 at *;obtain⟨x8,rfl,x8a,x8b⟩:=d8;obtain⟨j11,rfl,h11⟩:=d11;obtain⟨u1,c1,f1,-⟩:=hG.cell h11;go_wp2;have hst:∀(wy:World),(∀(B:Nat) (v:Value) (n:Nat) (lo hi:Int),q<B→(SlR wx B v n lo hi→SlR wy B v n lo hi)∧(PtR wx B v lo hi→PtR wy B v lo hi))→Stbn 13 12 [[],[0],[],[0,1,2],[],[],[0,1,2,3,5],[0,1,2,3,4,5,6],[0,1,2,3,4,5,6,7],[],[0,1,9],[0,1,2,3,4,5,6,7,8,9,10],[0,1,2,3,4,5,6,7,8,9,10,11]] (fun i own ys wx=>match i with|0=>own= .pointer (some ⟨b,0,none⟩)|1=>∃ x:Int,own= .int .i64 x∧0≤x∧x<4|2=>own= .pointer (some ⟨b,0,none⟩)|3=>∃ x:Int,own= .int .i64 x∧0≤x∧x<16|4=>SlR wx (q+1) own 3 (-4081) (4081)|5=>own= .pointer (some ⟨b,0,none⟩)|6=>∃ x:Int,own= .int .i64 x∧0≤x∧x<3|7=>PtR wx (q+1) own (-4081) (4081)|8=>∃ x:Int,own= .int .i64 x ∧ -4081≤x∧x≤4081|9=>own= .pointer (some ⟨q,7,none⟩)|10=>∃ j:Nat,own= .pointer (some ⟨q,7+j*16,none⟩)∧j<4|11=>∃ j:Nat,own= .pointer (some ⟨q,j,none⟩)∧j<71|12=>True|_=>True) wx wy:=by
           intro wy hy ii hii hne hc own ys h
           match ii,h with
           | 0,h|1,h|2,h|3,h|5,h|6,h|8,h|9,h|10,h|11,h=>exact h
           | 4,h=>exact(hy _ _ _ _ _ (by omega)).1 h
           | 7,h=>exact(hy _ _ 0 _ _ (by omega)).2 h
           | 12,h=>exact absurd rfl hne
           | _+13,_=>trivial
          exact hQo undef _ (hK.out _ _ ⟨trivial,hG.step.set _ _ (by omega) (by omega),hst _ (fun B v n lo hi hB=>⟨fun h=>h.set hB,fun h=>h.set hB⟩)⟩)
         all_goals
          clear hD hI;go_wp2;exact hK.out _ _ ⟨rfl,hG.step,kkp⟩
        clear Hext;intro xs wx hV hG;have d1:∃ x:Int,(xs 1) = .int .i64 x∧0≤x∧x<4:=hV 1 (by decide);clear hV;simp only[patchS,Nat.reduceAdd,Nat.reduceEqDiff,↓reduceIte];generalize xs 0=y0,xs 1=y1,xs 2=y2,xs 3=y3,xs 4=y4,xs 5=y5,xs 6=y6,xs 7=y7,xs 8=y8,xs 9=y9,xs 10=y10,xs 11=y11,xs 12=y12 at *
        replace hG:MG w b (P+510) 13 q wx:=hG
        obtain⟨x1,rfl,x1a,x1b⟩:=d1;go_wp2;go_meet
        case rel=>exact⟨rfl,hG.re (by omega)⟩
       ·obtain⟨zs,z1,z2,z3⟩:=M_wsw.2.1;have Z2:=Lib.hid z2;clear z2;go_wp2_with (first|(refine wpList_ibuild 79 _ rfl rfl [0,1] (built_Vec2 _) ?_)|(refine wpList_istore 79 _ _ rfl rfl z1 1 2 rfl _ rfl [0,1] rfl size_Vector rfl (by rw[Z2.out];simp) ?_;intro w6 p6 g6;refine Hid.out ?_))
        have M_w6:=M_wsw.spl g6 p6 Z2.out z3 (bdI_two (by omega) (by omega) (by omega) (by omega)) (by simp);refine Lib.hid ?_;go_wp2;go_meet
        case rel=>exact⟨rfl,M_w6.re (by omega)⟩
     case rest =>
      obtain⟨rfl,M_wc⟩:=hcut;clear M_wo;obtain⟨⟨gz,rz⟩,⟨zs,z1,z2,z3⟩,RB,hz4⟩:=M_wc;have Z2:=Lib.hid z2;clear z2;go_wp2_with (first|(refine wpList_iload 84 _ rfl rfl z1 0 71 rfl _ Try.underlying84 rfl size_Macro (by rw[Z2.out];omega) _ (by rw[sub_all _ _ Z2.out]) ?_)|(refine wpList_istore 84 _ _ rfl rfl RB 0 71 rfl _ rfl zs rfl size_Macro Z2.out (by simp[zl]) ?_;intro wf pf gf;refine Hid.out ?_))
      rw[spl_all (by rw[Z2.out,zl_len])]at pf;have rf:=rz.grq gf hz4.1;have gg:=gr_new gz gf (Nat.le_refl _);refine Lib.hid ?_;go_wp2;exact bodyPost_ret (v := .agg (ic zs)) (results_cell_row rfl _ _ w.heap.size 84 (ic zs) (0,0) _ rfl pf Try.underlying84 rfl (by rw[ic_size,Z2.out];exact size_Macro)) rfl ⟨zs,rfl,Z2.out,z3,rf.mono (by omega),gg⟩
end Go.Proofs.Ytphfacfjhjcllaa
namespace Go.Proofs.Ytphfacfjhjcllaa
open Go.RowKit
section
variable {P : Program}
end
/-- A block of integers is not the reader's data. -/
theorem RdP.grI {w w':World} {b P r T:Nat} {zs:List Int} (h:RdP w b P) (i:IB w r T zs) (g:w.grownBy w' (some r)) (hne:r≠b):RdP w' b P:=by
 obtain⟨p,hp,a,m,c,ds,h1,h2,h3,h4,h5⟩:=h;refine⟨p,hp,a,m,c,ds,by rw[g.block b (lt_of_block h1) (by simp;omega)];exact h1,h2,?_,h4,h5⟩
 by_cases hm:m=0
 ·subst hm;exact⟨h3.1,fun i hi=>by omega⟩
 ·refine h3.grown g (fun x hx e => ?_);obtain⟨b1,o1,h6,h7⟩:=h3.int (show 0<m by omega);rw[hx]at h6;simp at h6 e;subst h6;simp at e;subst e;unfold IB at i;simp[World.cell?,i,ic]at h7
theorem Mac.of {zs:List Int} (h:zs.length=71):∃ m:Mac,m.ok∧m.zs=zs:=by
 match zs,h with
 | a::b::c::t,h =>
  refine⟨⟨a,b,c,t.take 4,t.drop 4⟩,⟨by simp at h⊢;omega,by simp at h⊢;omega⟩,?_⟩;simp[Mac.zs]
/-- What holds while the arguments of RowsRead are drawn. -/
def RGd (w:World) (b P k q:Nat) (wx:World):Prop:=DG w b P 1 k wx∧IQ 10000 wx q 84 71∧IQ 10000 wx w.heap.size 84 71∧w.heap.size<b∧b<q
theorem RGd.step {w wx:World} {b P k q:Nat} (h:RGd w b P k q wx):RGd w b P (k+1) q wx:=⟨h.1.step,h.2⟩
theorem RGd.more {w wx wy:World} {b P k q:Nat} (h:RGd w b P k q wx) (e:wx.grownBy wy (some b)) (r:RdP wy b (P+k*1+1)) (_:1≤1):RGd w b P (k+1) q wy:=⟨h.1.more e r (Nat.le_refl _),h.2.1.gr e (by have:=h.2.2.2;omega),h.2.2.1.gr e (by have:=h.2.2.2;omega),h.2.2.2⟩
theorem RGd.drew {w wx:World} {b P k q:Nat} (h:RGd w b P k q wx):RGd w b P k q wx.drew:=⟨h.1.drew,h.2.1.ext (Ext.drewN _ 1),h.2.2.1.ext (Ext.drewN _ 1),h.2.2.2⟩
theorem RGd.re {w wx:World} {b P k q P':Nat} (h:RGd w b P k q wx) (hP:P+k≤P'):RGd w b P' 0 q wx:=⟨h.1.reset (by omega) 1,h.2⟩
theorem RGd.set {w wx:World} {b P k q:Nat} (h:RGd w b P k q wx) (i:Nat) (v:Int) (h1 : -10000≤v) (h2:v≤10000):RGd w b P k q (wx.setCell ⟨q,i,none⟩ (.int .i64 v)) :=
 ⟨h.1.set (by have:=h.2.2.2;omega) h.2.2.2.2,h.2.1.set i v h1 h2,h.2.2.1.set_other (by have:=h.2.2.2;omega),h.2.2.2⟩
theorem RGd.put {w wx wy:World} {b P k q:Nat} {zs:List Int} (h:RGd w b P k q wx) (g:wx.grownBy wy (some w.heap.size)) (p:IB wy w.heap.size 84 zs) (hl:zs.length=71) (hz:bdI 10000 zs):RGd w b P k q wy:=by
 obtain⟨r0,z1,-⟩:=id h.2.2.1;exact⟨⟨gr_new h.1.1 g (Nat.le_refl _),h.1.2.grI z1 g (by have:=h.2.2.2;omega)⟩,h.2.1.gr g (by have:=h.2.2.2;omega),⟨zs,p,hl,hz⟩,h.2.2.2⟩
theorem RGd.cell {w wx:World} {b P k q:Nat} (h:RGd w b P k q wx) {i:Nat} (hi:i<71):∃ v:Int,wx.cell? ⟨q,i,none⟩=some (.int .i64 v)∧wx.frozen? ⟨q,i,none⟩=false ∧ -10000≤v∧v≤10000:=h.2.1.cell hi
theorem IQ.of {B:Int} {w:World} {q T n:Nat} (h:IQ B w q T n):∃ zs,IB w q T zs∧zs.length=n∧bdI B zs:=h
end Go.Proofs.Ytphfacfjhjcllaa
namespace Go.Proofs.Ytphfacfjhjcllaa
open Go.RowKit
theorem l20Q_c (b P:Nat) (n:Int) (w:World) (h:RdP w b P) (hp:P<2^38) (hn0:0≤n) (hn:n≤1000000) :
 Calls Try.prog 36 #[.pointer (some ⟨b,0,none⟩),.int .i64 n] w fun e w'=>∃ x:Int,e= .returned (.int .i64 x) ∧ -1≤x∧x≤16∧RdP w' b (P+4)∧w.grownBy w' (some b):=by
 have hbw:b<w.heap.size:=h.lt;go_enter Try.func36,Try.ntmps36
 go_wp2_with fail
 refine(odd_any b _ n _ h (by omega) hn0 (by omega)).mono ?_
 rintro e w1 ⟨x1,rfl,r1,g1⟩
 clear h;cases x1
 ·go_wp2_with fail
  refine(pick_c b _ 16 _ r1 (by omega) (by omega) (by omega)).mono ?_
  rintro e w2 ⟨x2,rfl,x2a,x2b,r2,g2⟩
  go_wp2_with fail
  refine(pick_c b _ 5 _ r2 (by omega) (by omega) (by omega)).mono ?_
  rintro e w3 ⟨x3,rfl,x3a,x3b,r3,g3⟩
  have e4:=Ext.alloc w3 (.cells #[.int .i64 x2,.int .i64 x3] 3);have S4:=blk_new w3 (.cells #[.int .i64 x2,.int .i64 x3] 3);have r4:=r3.ext e4;have g4:=grown_ext (grown_trans (grown_trans g1 g2) g3) e4;have hb3:=r3.lt;clear r1 r2 r3 g1 g2 g3 e4;go_wp2_with fail
  refine(pick_c b _ 2 _ r4 (by omega) (by omega) (by omega)).mono ?_
  rintro e w5 ⟨x5,rfl,x5a,x5b,r5,g5⟩
  have S5:=gr_blk g5 S4 (by omega);obtain⟨-,s0,s1,-,-⟩:=bx2 S5;have g6:=grown_trans g4 g5;clear S4 S5 g4 g5 r4;obtain rfl|rfl:x5=0∨x5=1:=by omega
  ·go_wp2;go_ret
   exact⟨x2,rfl,by omega,by omega,r5.mono (by omega),g6⟩
  ·go_wp2;go_ret
   exact⟨x3,rfl,by omega,by omega,r5.mono (by omega),g6⟩
 ·have e2:=Ext.alloc w1 (.cells #[.int .i64 (-1),.int .i64 16] 3);have S2:=blk_new w1 (.cells #[.int .i64 (-1),.int .i64 16] 3);have r2:=r1.ext e2;have g2:=grown_ext g1 e2;have hb3:=r1.lt;clear r1 g1 e2;go_wp2_with fail
  refine(pick_c b _ 2 _ r2 (by omega) (by omega) (by omega)).mono ?_
  rintro e w5 ⟨x5,rfl,x5a,x5b,r5,g5⟩
  have S5:=gr_blk g5 S2 (by omega);obtain⟨-,s0,s1,-,-⟩:=bx2 S5;have g6:=grown_trans g2 g5;clear S2 S5 g2 g5 r2;obtain rfl|rfl:x5=0∨x5=1:=by omega
  ·go_wp2;go_ret
   exact⟨-1,rfl,by omega,by omega,r5.mono (by omega),g6⟩
  ·go_wp2;go_ret
   exact⟨16,rfl,by omega,by omega,r5.mono (by omega),g6⟩
theorem Rd.gr {w w':World} {b p:Nat} {row:Option Nat} (h:Rd w b p) (g:w.grownBy w' row) (hr:∀ k,row=some k→b<k):Rd w' b p:=by
 obtain⟨a,m,c,zs,h1,h2,h3,h4,h5⟩:=h;refine⟨a,m,c,zs,by rw[g.block b (lt_of_block h1) (fun e=>by have:=hr b e.symm;omega)];exact h1,h2,?_,h4,h5⟩;rcases h4 with h4|h4
 ·subst h4;exact⟨h3.1,fun i hi=>by omega⟩
 ·exact h3.grown g (fun x hx e=>by have:=h4 x hx;have:=hr _ e.symm;omega)
theorem grown_any {a b c:World} {r row:Option Nat} (h:a.grownBy b r) (k:b.grownBy c row) (hr:∀ q,row=some q→a.heap.size≤q):a.grownBy c r :=
 ⟨k.os.trans h.os,k.tape.trans h.tape,k.output.trans h.output,Nat.le_trans h.size k.size,fun i hi hne=>(k.block i (Nat.lt_of_lt_of_le hi h.size) (fun e=>by have:=hr i e.symm;omega)).trans (h.block i hi hne)⟩
theorem DG.own {w wx wy:World} {b P C k:Nat} {row:Option Nat} (h:DG w b P C k wx) (g:wx.grownBy wy row) (hv:∀ q,row=some q→w.heap.size≤q) (hb:b<w.heap.size):DG w b P C k wy:=by
 obtain⟨h1,q,h2,h3⟩:=h;exact⟨grown_any h1 g hv,q,h2,h3.gr g (fun k hk=>by have:=hv k hk;omega)⟩
/-- The i-th string. -/
def lget (L:List (List Int)) (i:Nat):List Int:=L.getD i []
/-- The cell at b, o is a slice that reads as the bytes xs. -/
def BsAt (w:World) (b o:Nat) (xs:List Int):Prop :=
 ∃(a:Option Addr) (c:Nat),w.cell? ⟨b,o,none⟩=some (.slice a xs.length c)∧Sl w a xs.length (xs.map (Value.int .u8))∧xs.length≤c∧c≤maxLen
/-- The slice at a of n byte strings reads as L. -/
def SS (w:World) (a:Option Addr) (n:Nat) (L:List (List Int)):Prop :=
 L.length=n∧∀ i,i<n→∃ b off,a=some ⟨b,off,none⟩∧BsAt w b (off+i) (lget L i)
theorem BsAt.ext {w w':World} {b o:Nat} {xs:List Int} (h:BsAt w b o xs) (e:Ext w w'):BsAt w' b o xs:=by
 obtain⟨a,c,h1,h2,h3⟩:=h;exact⟨a,c,cell_ext e h1,h2.ext e,h3⟩
theorem SS.ext {w w':World} {a:Option Addr} {n:Nat} {L:List (List Int)} (h:SS w a n L) (e:Ext w w'):SS w' a n L:=by
 refine⟨h.1,fun i hi => ?_⟩;obtain⟨b,off,ha,hs⟩:=h.2 i hi;exact⟨b,off,ha,hs.ext e⟩
theorem SS.drewN {w:World} {a:Option Addr} {n:Nat} {L:List (List Int)} (h:SS w a n L) (m:Nat):SS (w.drewN m) a n L:=h
/-- Exclusive or of bytes. -/
def bx (a b:Int):Int:=bits .xor .u8 a b
theorem wrap_u8 (n:Int):IntKind.u8.wrap n=n%256:=by simp[IntKind.wrap,IntKind.signed,IntKind.bits]
/-- A byte. -/
def byt (z:Int):Prop:=0≤z∧z≤255
/-- The list of f's values. -/
def tab (n:Nat) (f:Nat→Int):List Int:=(List.range n).map f
/-- A string's frame: its length, its bytes, zeros. -/
def fr (s:List Int) (i:Nat):Int:=if i=0 then(s.length:Int)else nth s (i-1)
/-- The first t frames together. -/
def parT (L:List (List Int)):Nat→Nat→Int
 | 0,_=>0
 | t+1,i=>bx (parT L t i) (fr (lget L t) i)
/-- The longest of the first t frames. -/
def sizeT (L:List (List Int)):Nat→Nat
 | 0=>0
 | t+1=>max (sizeT L t) ((lget L t).length+1)
/-- Strings of bytes, none too long. -/
def small (L:List (List Int)):Prop:=∀ s∈L,s.length≤255∧∀ z∈s,byt z
def gvalid (L:List (List Int)):Bool:=decide (1≤L.length) && decide (L.length≤8) && L.all fun s=>decide (s.length≤255)
/-- The parity string. -/
def parity (L:List (List Int)):List Int:=if gvalid L=true then tab (sizeT L L.length) (parT L L.length)else []
theorem l20Bytes_c (b P most:Nat) (w:World) (h:RdP w b P) (hp:P<2^38) (hmost:most≤100) :
 Calls Try.prog 34 #[.pointer (some ⟨b,0,none⟩),.int .i64 most] w fun e w'=>∃(v:Value) (xs:List Int),e= .returned v∧w'.ownsRow w.heap.size 5 1 v xs.length (xs.map (Value.int .u8))∧xs.length≤most∧(∀ x∈xs,byt x)∧RdP w' b (P+400)∧w.grownBy w' (some b):=by
 have hblt:=h.lt;go_enter Try.func34,Try.ntmps34
 have E1:Ext w (w.alloc (.cells #[] 5)):=(Below.refl _ _).alloc (Nat.le_refl _) _;have hown:=World.ownsRow_made (base:=w.heap.size) (e:=5) (size:=1) w #[] 0 (Nat.le_refl _) (by simp) rfl;go_wp2_with fail
 refine(pick_c b P _ _ (h.ext E1) (by omega) (by omega) (by omega)).mono ?_
 rintro e w1 ⟨x,rfl,x0,x1,r1,g1⟩
 have D1:DG w b (P+1) 0 0 w1:=⟨grown_trans (ext_gr E1) g1,by simpa using r1⟩;have own1:=own_gr hown g1 hblt;obtain⟨k0,rfl⟩:=Int.eq_ofNat_of_zero_le x0;have hk0:k0≤most:=by omega
 clear hown E1 h r1 g1 x0 x1;go_wp2_with fail
 go_loopw [5,6] (fun v i wr=>∃(k:Nat) (xs:List Int),k≤k0∧i= .int .i64 k∧DG w b (P+305-3*k) 0 0 wr∧wr.ownsRow w.heap.size 5 1 v xs.length (xs.map (Value.int .u8))∧Hid (xs.length+k=k0∧∀ x∈xs,byt x)) (fun _ i _=>(intOf i).toNat)
 case atStart=>exact⟨k0,[],by omega,rfl,⟨D1.1,D1.2.mono (by omega)⟩,own1,Lib.hid ⟨by simp,by simp⟩⟩
 case round =>
  obtain⟨k,xs,hk,rfl,D2,own2,hx⟩:=hrel;clear own1 D1
  by_cases hlt:0<k
  ·go_wp2_with fail
   refine(pick_c b _ 256 _ D2.2 (by omega) (by omega) (by omega)).mono ?_
   rintro e w2 ⟨y,rfl,y0,y1,r2,g2⟩
   have own3:=own_gr own2 g2 hblt;have D3:DG w b (P+306-3*k) 0 0 w2:=⟨grown_trans D2.1 g2,r2.mono (by omega)⟩;clear own2 D2 r2 g2;go_wp2_with fail
   refine(pick_c b _ 256 _ D3.2 (by omega) (by omega) (by omega)).mono ?_
   rintro e w3 ⟨y',rfl,y0',y1',r3,g3⟩
   have own4:=own_gr own3 g3 hblt;have D4:DG w b (P+307-3*k) 0 0 w3:=⟨grown_trans D3.1 g3,r3.mono (by omega)⟩;have e4:=Ext.alloc w3 (.cells #[.int .i64 0,.int .i64 255,.int .i64 y,.int .i64 y'] 3);have s4:SlR (w3.alloc (.cells #[.int .i64 0,.int .i64 255,.int .i64 y,.int .i64 y'] 3)) (b+1) (.slice (some ⟨w3.heap.size,0,none⟩) 4 4) 4 0 255:=⟨_,[0,255,y,y'],rfl,by have:=D4.2.lt;omega,Sl_new _ _ _,by simp;omega⟩;clear own3 D3 r3 g3;go_wp2_with fail
   refine(pick_c b _ 4 _ (D4.2.ext e4) (by omega) (by omega) (by omega)).mono ?_
   rintro e w5 ⟨z,rfl,z0,z1,r5,g5⟩
   have own5:=own_gr (owns_ext own4 e4) g5 hblt;have D5:DG w b (P+308-3*k) 0 0 w5:=⟨grown_trans (grown_ext D4.1 e4) g5,r5.mono (by omega)⟩;have s5:=s4.grown g5 (by omega);clear own4 D4 e4 s4 r5 g5;generalize w3.heap.size=B at *;obtain⟨gg,l,hv,n5,s6,r6⟩:=s5;simp only[Value.slice.injEq,Option.some.injEq,Addr.mk.injEq,and_true]at hv;subst hv;obtain⟨g6,j6,y6,h6,n6,c6,y6a,y6b⟩:=SlR.at n5 s6 r6 (show z.toNat<4 by omega);simp only[Value.pointer.injEq,Option.some.injEq,Addr.mk.injEq,and_true]at h6;obtain⟨rfl,rfl⟩:=h6;have hwr:IntKind.u8.wrap y6=y6:=by rw[wrap_u8];omega
   have hlen:xs.length≤100:=by have:=hx.out.1;omega
   have hwb:w.heap.size≤w5.heap.size:=D5.1.size;go_wp2_with (at_builtin;refine wpList_app _ own5 hwb _ rfl _ _ 22 rfl (.int .u8 0) 1 Try.underlying22 info_uint8 rfl rfl rfl rfl (by omega) (by omega) ?_;intro v2 w6 own6 gr6 _)
   have D6:=D5.own gr6 (owns_ge own5) hblt;clear own5 D5 gr6 s6 hwr;go_roundw
   case rel =>
    refine⟨k-1,xs ++ [y6],by omega,by go_num,⟨D6.1,D6.2.mono (by omega)⟩,by simpa using own6,Lib.hid ⟨by have:=hx.out.1;simp;omega,fun x hxm => ?_⟩⟩;rcases List.mem_append.1 hxm with hxm|hxm
    ·exact hx.out.2 x hxm
    ·simp at hxm;subst hxm;exact⟨by omega,by omega⟩
   case measure=>simp[intOf];omega
  ·have hk0':k=0:=by omega
   have hlen:xs.length≤most:=by have:=hx.out.1;omega
   go_wp2;go_ret
   exact⟨_,xs,rfl,own2,hlen,hx.out.2,D2.2.mono (by omega),D2.1⟩
end Go.Proofs.Ytphfacfjhjcllaa
