/- Part 5 of the proof. -/
import Derived.Test.YtijnbalgnhigbaaGreatDoorQe4
set_option linter.unusedVariables false
set_option linter.unusedSimpArgs false
set_option maxRecDepth 100000
set_option maxHeartbeats 4000000
namespace Go.Proofs.YtijnbalgnhigbaaGreatDoor
open Go.RowKit
def sqS (t D:Pic)(x y:Int):Nat→Int
 | 0=>0
 | k+1=>sqS t D x y k+(pat t (x+(k%8:Nat)) (y+(k/8:Nat))-pat D (x+(k%8:Nat)) (y+(k/8:Nat)))*(pat t (x+(k%8:Nat)) (y+(k/8:Nat))-pat D (x+(k%8:Nat)) (y+(k/8:Nat)))
theorem No {d:Int}(h1 : -255≤d)(h2:d≤255):0≤d*d∧d*d≤65025:=by
 have h:=Int.mul_nonneg (show 0≤255-d by omega) (show 0≤255+d by omega);rw[Int.sub_mul,Int.mul_add,Int.mul_add,Int.mul_comm d 255]at h;have h0:0≤d*d:=by
  rcases Int.le_total 0 d with h3|h3
  ·exact Int.mul_nonneg h3 h3
  ·have:=Int.mul_nonneg (show 0 ≤ -d by omega) (show 0 ≤ -d by omega)
   rwa [Int.neg_mul_neg]at this
 exact⟨h0,by omega⟩
theorem Nh {t D:Pic}(ht:t.valid)(hD:D.valid)(x y:Int): -255≤pat t x y-pat D x y∧pat t x y-pat D x y≤255:=by
 have h1:=AM ht x y;have h2:=AM hD x y;omega
theorem Jl {t D:Pic}(ht:t.valid)(hD:D.valid)(x y:Int)(k:Nat):0≤sqS t D x y k∧sqS t D x y k≤65025*k:=by
 induction k with
 | zero=>exact⟨Int.le_refl _,Int.le_refl _⟩
 | succ k ih =>
  rw[sqS];have hd:=Nh ht hD (x+(k%8:Nat)) (y+(k/8:Nat));have:=No hd.1 hd.2;generalize (pat t (x+(k%8:Nat)) (y+(k/8:Nat))-pat D (x+(k%8:Nat)) (y+(k/8:Nat)))*(pat t (x+(k%8:Nat)) (y+(k/8:Nat))-pat D (x+(k%8:Nat)) (y+(k/8:Nat)))=z at *;omega
theorem JP {m:Mac}{q:Nat}(hm:m.ok)(hv:m.valid)(hq:q<16):0≤stp q*(macN m:Int)∧stp q*(macN m:Int)≤2560000:=by
 have h1:=Do hq;have h2:=Jb hm hv;have h3:=Int.mul_nonneg (show 0≤stp q by omega) (show(0:Int)≤(macN m:Int) by omega);have h4:=Int.mul_le_mul h1.2 (show(macN m:Int)≤5000 by omega) (by omega) (by omega);exact⟨h3,by omega⟩
noncomputable def recD (ref p : Pic)(x y : Int)(m : Mac)(q top : Int): Pic := ⟨p.w, p.h, bldS ref p x.toNat y.toNat m q.toNat top 4⟩
noncomputable def Rl (t ref p : Pic)(x y : Int)(m : Mac)(q top : Int): Int := if AS t p ∧ okR ref p x y m q top then sqS t (recD ref p x y m q top) x y 64 + stp q.toNat * (macN m : Int) else -1
theorem Lw {w:World}{g n k:Nat}{xs:List Int}{z:Int}(h:Sl w (some ⟨g,0,none⟩) n (xs.map (Value.int .i64)))(hk:k<n)(hz:nth xs k=z):w.cell? ⟨g,k,none⟩=some (.int .i64 z):=by
 obtain⟨b,off,ha,hc⟩:=h.int hk;simp only[Option.some.injEq,Addr.mk.injEq]at ha;obtain⟨rfl,rfl,-⟩:=ha;rw[Nat.zero_add,hz]at hc;exact hc
theorem GT (q:Nat)(w:World)(hT:TabQ w)(hq:q<16):
 Calls Tryz.prog 101 #[.int .i64 q] w fun e w'=>e= .returned (.int .i64 (stp q))∧w=w':=by
 have ht:=hT q hq;have hs:=Do hq;generalize stp q=s at *;go_enter Tryz.func101,Tryz.ntmps101
 go_wp2_with fail
 refine(Bw _ _ (by omega) (by omega)).mono ?_
 rintro e w1 ⟨rfl,rfl⟩
 go_wp2;go_ret
 exact⟨rfl,rfl⟩
theorem KY (t ref:Pic)(W H x y:Nat)(px:List Int)(m:Mac)(q:Nat)(top:Int)(at1 a b:Option Addr)(tc c d tn n l:Nat)(w:World)(hT:TabQ w)(htn:tn=t.px.length)(hn:n=ref.px.length)(hl:l=px.length)(nc:n≤9223372036854775807)(rt:Sl w at1 tn (t.px.map (Value.int .i64)))(r:Sl w a n (ref.px.map (Value.int .i64)))(s:Sl w b l (px.map (Value.int .i64)))(hm:m.ok)(htv:t.valid)(ho:okR ref ⟨W,H,px⟩ x y m q top):
 Calls Tryz.prog 58 #[.agg #[.int .i64 t.w,.int .i64 t.h,.slice at1 tn tc],.agg #[.int .i64 ref.w,.int .i64 ref.h,.slice a n c],.agg #[.int .i64 W,.int .i64 H,.slice b l d],.int .i64 (x:Nat),.int .i64 (y:Nat),.agg (ic m.zs),.int .i64 q,.int .i64 top] w fun e w'=>e= .returned (.int .i64 (sqS t ⟨W,H,bldS ref ⟨W,H,px⟩ x y m q top 4⟩ x y 64+stp q*(macN m:Int)))∧Ext w w':=by
 have hlen:=Pic.len_le ho.1.1;simp only at hlen;rw[←hl]at hlen;obtain⟨bl,hbl⟩:∃ bl,bl=bldS ref ⟨W,H,px⟩ x y m q top 4:=⟨_,rfl⟩;have hDv:Pic.valid ⟨W,H,bl⟩:=by rw[hbl];exact BM ho.1.1 ref x y m q top 4
 have hxy:(x:Int)<40∧(y:Int)<40:=by
  have h1:=ho.1.1.1;have h2:=ho.1.1.2.1;have h3:=ho.1.2.2.1;have h4:=ho.1.2.2.2.2.2.1;simp only[side]at h1 h2 h3 h4;omega
 have HDn:=Aa (show l=bl.length by rw[hbl,CR];exact hl);have Hbl:=Aa hbl;clear hbl;have hrt:=JP hm ho.2.1 (show q<16 by have:=ho.2.2.1;omega);have Htn:=Aa htn;have Hn:=Aa hn;have HL:=Aa hl;have Hm:=Aa hm;have Hl:=Aa (Mac.zs_len hm);have Hok:=Aa ho;have HTV:=Aa htv;have HDv:=Aa hDv;have hq:q<16:=by have:=ho.2.2.1;omega
 have ht0:0≤top:=ho.2.2.2.1.1;clear hn hl hm ho htn htv hDv;have a2:=Ext.alloc (w.alloc (.cells #[.int .i64 t.w,.int .i64 t.h,.slice at1 tn tc] 30)) (.cells #[.int .i64 ref.w,.int .i64 ref.h,.slice a n c] 30);have a3:=Ext.alloc ((w.alloc (.cells #[.int .i64 t.w,.int .i64 t.h,.slice at1 tn tc] 30)).alloc (.cells #[.int .i64 ref.w,.int .i64 ref.h,.slice a n c] 30)) (.cells #[.int .i64 W,.int .i64 H,.slice b l d] 30);have a4:=Ext.alloc (((w.alloc (.cells #[.int .i64 t.w,.int .i64 t.h,.slice at1 tn tc] 30)).alloc (.cells #[.int .i64 ref.w,.int .i64 ref.h,.slice a n c] 30)).alloc (.cells #[.int .i64 W,.int .i64 H,.slice b l d] 30)) (.cells (ic m.zs) 50);have p0:=a4.blk (a3.blk (a2.blk (Aj w (.cells #[.int .i64 t.w,.int .i64 t.h,.slice at1 tn tc] 30))));have p1:=a4.blk (a3.blk (Aj (w.alloc (.cells #[.int .i64 t.w,.int .i64 t.h,.slice at1 tn tc] 30)) (.cells #[.int .i64 ref.w,.int .i64 ref.h,.slice a n c] 30)));have p2:=a4.blk (Aj ((w.alloc (.cells #[.int .i64 t.w,.int .i64 t.h,.slice at1 tn tc] 30)).alloc (.cells #[.int .i64 ref.w,.int .i64 ref.h,.slice a n c] 30)) (.cells #[.int .i64 W,.int .i64 H,.slice b l d] 30));have p3:=IB.new (((w.alloc (.cells #[.int .i64 t.w,.int .i64 t.h,.slice at1 tn tc] 30)).alloc (.cells #[.int .i64 ref.w,.int .i64 ref.h,.slice a n c] 30)).alloc (.cells #[.int .i64 W,.int .i64 H,.slice b l d] 30)) 50 m.zs;have E1:=(((Ext.alloc w (.cells #[.int .i64 t.w,.int .i64 t.h,.slice at1 tn tc] 30)).trans a2).trans a3).trans a4;simp only[World.size_alloc]at p1 p2 p3;clear a2 a3 a4;obtain⟨B,hB⟩:∃ B,B=w.heap.size:=⟨_,rfl⟩;rw[←hB]at p0 p1 p2 p3;have hwB:w.heap.size≤B:=by omega
 have HB:=Aa hB;have hb1:=p3.lt;go_enter Tryz.func58,Tryz.ntmps58
 go_upto_region 1 with fail
 try simp only[World.size_alloc]
 rw[←hB];clear hB;generalize (((w.alloc (.cells #[.int .i64 t.w,.int .i64 t.h,.slice at1 tn tc] 30)).alloc (.cells #[.int .i64 ref.w,.int .i64 ref.h,.slice a n c] 30)).alloc (.cells #[.int .i64 W,.int .i64 H,.slice b l d] 30)).alloc (.cells (ic m.zs) 50)=w1 at *;obtain⟨-,i0,i1,i2,-⟩:=bx3 p2;go_wp2_with fail
 refine(Kq W H b d l px _ (by omega) (s.ext E1)).mono ?_
 rintro e wa ⟨a1,c1,rfl,own1,e2⟩
 have r0:=e2.blk p0;have r1:=e2.blk p1;have r2:=e2.blk p2;have r3:=p3.ext e2;have E2:=E1.trans e2;clear p0 p1 p2 p3 E1 e2 i0 i1 i2;have hgo:∃ g,a1=some ⟨g,0,none⟩∧g<wa.heap.size∧w1.heap.size≤g:=by
  rcases own1.2 with⟨-,h0⟩|⟨g,cc,cur,hv,hb,hb2,-⟩
  ·omega
  ·simp only[Value.slice.injEq]at hv;exact⟨g,hv.1,lt_of_block hb2,hb⟩
 obtain⟨g,rfl,hg1,hg2⟩:=hgo;have a5:=Ext.alloc wa (.cells #[.int .i64 W,.int .i64 H,.slice (some ⟨g,0,none⟩) l c1] 30);have z0:=a5.blk r0;have z1:=a5.blk r1;have z3:=r3.ext a5;have z4:=Aj wa (.cells #[.int .i64 W,.int .i64 H,.slice (some ⟨g,0,none⟩) l c1] 30);have own2:=Ae own1 a5;have E3:=E2.trans a5;have hO:=r3.lt;obtain⟨O,hOe⟩:∃ O,O=wa.heap.size:=⟨_,rfl⟩;rw[←hOe]at z4 hg1 hO;have HO2:=Aa hOe;clear r0 r1 r2 r3 own1 E2 a5;obtain⟨-,i0,i1,i2,-⟩:=bx3 z1;obtain⟨-,o0,o1,o2,-⟩:=bx3 z4;have hOlt:=lt_of_block z4;go_upto_region 2 with fail
 rw[←hOe];clear hOe;generalize wa.alloc (.cells #[.int .i64 W,.int .i64 H,.slice (some ⟨g,0,none⟩) l c1] 30)=w2 at *;go_wp2_with (refine Ab 50 _ rfl rfl z3 0 71 rfl _ Ro rfl Ah (by rw[Hl.out];omega) _ (by rw[Ak _ _ Hl.out]) ?_)
 have hrz : ¬ m.kind=2→∀ z,a=some z→z.block≠g:=fun hk z hz=>by
  have h9:=Pic.len_le (Jg Hok.out hk);rw[←Hn.out]at h9;have:=Cs r z hz (by omega);omega
 have hT0:=World.block_lt_of_cell? w _ (hT 0 (by omega));refine(FV ref W H x y px m q top a n c w1.heap.size g l c1 _ (hT.ext E3) (by simp only at hT0;omega) own2 Hok.out.1 Hm.out Hok.out.2.1 hq (fun hk=>Jg Hok.out hk) Hn.out (r.ext E3) hrz).mono ?_
 rintro e w3 ⟨rfl,own3,g3⟩
 rw[←Hbl.out]at own3;have u0:=Ar z0 g3 (by simp;omega);have u3:=z3.gr g3 (by simp;omega);have u4:=Ar z4 g3 (by simp;omega);have hs1:B≤w1.heap.size:=by omega
 have E4:Ext w w3:=Ext.grown E3 g3 (fun k e=>by cases e;omega);have SD:=Sl.of_owns own3;clear z0 z1 z3 z4 own2 own3 E3 g3 i0 i1 i2 o0 o1 o2;have RT:=rt.ext E4;obtain⟨s0,hs0⟩:∃ s0,s0=stp q:=⟨_,rfl⟩;obtain⟨N0,hN0⟩:∃ N0,N0=macN m:=⟨_,rfl⟩;obtain⟨C,hC⟩:∃ C,C=stp q*(macN m:Int):=⟨_,rfl⟩;rw[←hC]at hrt;have HC:=Aa (show s0*(N0:Int)=C by rw[hs0,hN0,hC]);have HW:=Aa (show wrap64 (s0*(N0:Int))=C by rw[hs0,hN0,←hC];unfold wrap64;omega);have HS0:=Aa hs0;have HN0:=Aa hN0;have HC0:=Aa hC;have hs0r:=Do hq;rw[←hs0]at hs0r;have hN0r:=Jb Hm.out Hok.out.2.1;rw[←hN0]at hN0r;have hTe:=hT.ext E4;clear hs0 hN0 hC;go_upto_region 3 with fail
 refine An (by kernel_rfl) [(18,6),(31,0),(32,1),(33,2),(34,3),(35,4),(36,5)] [[],[0],[],[0,1,2],[0,1,2,3],[0,1,2,3,4],[0,1,2,3,4,5]] (fun i own ys wx=>match i with|0=>own= .int .i64 (q:Nat)|1=>own= .int .i64 s0|2=>own= .agg (ic m.zs)|3=>∃(a3:Option Addr) (c3:Nat),own= .slice a3 N0 c3|4=>own= .int .i64 (N0:Nat)|5=>own= .int .i64 C|6=>own= .int .i64 C|_=>True) (fun kx wx=>Ext w3 wx) (by kernel_rfl) (by kernel_rfl) (by kernel_rfl) ?g0_r1 ?gop_r1 ?gend_r1
 case g0_r1=>exact Ext.drewN _ 1
 case gop_r1 =>
  refine⟨?o0,?o1,?o2,?o3,?o4,?o5,?o6,trivial⟩ <;> (intro kx xs wx hk hG hD hI Qo Kx hK hQo;simp only[Ad,Nat.reduceAdd,Nat.reduceEqDiff,↓reduceIte]at hQo⊢)
  case o0 =>
   clear hD hI;go_wp2;exact hK.out _ _ ⟨rfl,hG,kkp⟩
  case o1 =>
   rw[ddq (hD 0 rfl)]at hQo⊢;clear hD hI;go_wp2_with fail
   refine(GT q _ (hTe.ext hG) hq).mono ?_
   rintro e wz ⟨rfl,rfl⟩
   rw[←HS0.out];go_wp2;exact hK.out _ _ ⟨rfl,hG,kkp⟩
  case o2 =>
   clear hD hI;go_wp2_with (refine Ab 50 _ rfl rfl (u3.ext hG) 0 71 rfl _ Ro rfl Ah (by rw[Hl.out];omega) _ (by rw[Ak _ _ Hl.out]) ?_)
   exact hK.out _ _ ⟨rfl,hG,kkp⟩
  case o3 =>
   rw[ddq (hD 2 rfl)]at hQo⊢;clear hD hI;go_wp2_with fail
   refine(H7 m _ Hm.out Hok.out.2.1).mono ?_
   rintro e wz ⟨az,cz,rfl,-,ez⟩
   rw[←HN0.out];go_wp2;exact hK.out _ _ ⟨⟨az,cz,rfl⟩,hG.trans ez,fun _ _ _ _ _ _ h=>h⟩
  case o4 =>
   have d3:∃(a3:Option Addr) (c3:Nat),(xs 3) = .slice a3 N0 c3:=hD 3 rfl;clear hD hI;generalize xs 3=y3 at *;obtain⟨a3,c3,rfl⟩:=d3;go_wp2;exact hK.out _ _ ⟨rfl,hG,kkp⟩
  case o5 =>
   rw[ddq (hD 1 rfl),ddq (hD 4 rfl)]at hQo⊢;clear hD hI;go_wp2;exact hK.out _ _ ⟨by first|rw[HW.out]|rw[HC.out],hG,fun _ _ _ _ _ _ h=>h⟩
  case o6 =>
   rw[ddq (hD 5 rfl)]at hQo⊢;clear hD hI;go_wp2;exact hK.out _ _ ⟨rfl,hG,kkp⟩
 intro xs wx hV hG;have d6:_=_:=hV 6 (by decide);clear hV;simp only[Ad,Nat.reduceAdd,Nat.reduceEqDiff,↓reduceIte];generalize xs 0=y0,xs 1=y1,xs 2=y2,xs 3=y3,xs 4=y4,xs 5=y5,xs 6=y6 at *
 replace hG:Ext w3 wx:=hG
 subst d6;have E5:=E4.trans hG;have x0:=hG.blk u0;have x4:=hG.blk u4;have SD5:=SD.ext hG;have RT5:=RT.ext hG;clear hG u0 u3 u4 SD RT hTe E4;generalize wx=w5 at *;go_wp2_with fail
 go_loopw [18,37] (fun v i wr=>∃ k:Nat,k≤64∧i= .int .i64 k∧v= .int .i64 (C+sqS t ⟨W,H,bl⟩ x y k)∧Ext w5 wr) (fun _ i _=>64-(intOf i).toNat)
 case atStart=>exact⟨0,by omega,rfl,by simp[sqS],Below.refl _ _⟩
 case round =>
  obtain⟨k,hk,rfl,rfl,Ek⟩:=hrel;have hsr:=Jl HTV.out HDv.out x y k
  by_cases hlt:k<64
  ·have hd:decide ((k:Int)<64)=true:=by simp;omega
   obtain⟨ii,hi⟩:∃ ii,ii=k%8:=⟨_,rfl⟩;obtain⟨jj,hj⟩:∃ jj,jj=k/8:=⟨_,rfl⟩;have hpd:=Nh HTV.out HDv.out ((x:Int)+(ii:Nat)) ((y:Int)+(jj:Nat));have hsq:=No hpd.1 hpd.2;have Hnx:=Aa (show sqS t ⟨W,H,bl⟩ x y (k+1)=_ by rw[sqS,←hi,←hj]);obtain⟨pt,hpt⟩:∃ z,z=pat t ((x:Int)+(ii:Nat)) ((y:Int)+(jj:Nat)):=⟨_,rfl⟩;obtain⟨pd,hpD⟩:∃ z,z=pat ⟨W,H,bl⟩ ((x:Int)+(ii:Nat)) ((y:Int)+(jj:Nat)):=⟨_,rfl⟩;have hp1:=AM HTV.out ((x:Int)+(ii:Nat)) ((y:Int)+(jj:Nat));have hp2:=AM HDv.out ((x:Int)+(ii:Nat)) ((y:Int)+(jj:Nat));rw[←hpt]at hp1;rw[←hpD]at hp2;rw[←hpt,←hpD]at hpd hsq Hnx;have HPT:=Aa hpt;have HPD:=Aa hpD;have Hi:=Aa (show(k:Int)%8=(ii:Int) by omega);have Hj:=Aa (show(k:Int)/8=(jj:Int) by omega);have hib:ii<8:=by omega
   have hjb:jj<8:=by omega
   have Hwq:=Aa (show wrap64 ((pt-pd)*(pt-pd))=(pt-pd)*(pt-pd) by generalize (pt-pd)*(pt-pd)=z at hsq⊢;unfold wrap64;omega);clear hi hj hpt hpD;have X0:=Aa (Ek.blk x0);have X4:=Aa (Ek.blk x4);go_upto_region 7 with fail
   refine An (by kernel_rfl) [(20,21),(40,0),(41,1),(42,2),(43,3),(44,4),(45,5),(46,6),(47,7),(48,8),(49,9),(50,10),(51,11),(52,12),(53,13),(54,14),(55,15),(56,16),(57,17),(58,18),(59,19),(60,20)] [[],[],[],[2],[1,2,3],[],[],[6],[5,6,7],[0,1,2,3,4,5,6,7,8],[],[],[],[12],[11,12,13],[],[],[16],[15,16,17],[0,1,2,3,4,5,6,7,8,9,10,11,12,13,14,15,16,17,18],[0,1,2,3,4,5,6,7,8,9,10,11,12,13,14,15,16,17,18,19],[0,1,2,3,4,5,6,7,8,9,10,11,12,13,14,15,16,17,18,19,20]] (fun i own ys wx=>match i with|0=>own= .agg #[.int .i64 t.w,.int .i64 t.h,.slice at1 tn tc]|1=>own= .int .i64 (x:Nat)|2=>own= .int .i64 (k:Nat)|3=>own= .int .i64 ((k:Int)%8)|4=>own= .int .i64 ((x:Int)+(ii:Nat))|5=>own= .int .i64 (y:Nat)|6=>own= .int .i64 (k:Nat)|7=>own= .int .i64 ((k:Int)/8)|8=>own= .int .i64 ((y:Int)+(jj:Nat))|9=>own= .int .i64 pt|10=>own= .agg #[.int .i64 W,.int .i64 H,.slice (some ⟨g,0,none⟩) l c1]|11=>own= .int .i64 (x:Nat)|12=>own= .int .i64 (k:Nat)|13=>own= .int .i64 ((k:Int)%8)|14=>own= .int .i64 ((x:Int)+(ii:Nat))|15=>own= .int .i64 (y:Nat)|16=>own= .int .i64 (k:Nat)|17=>own= .int .i64 ((k:Int)/8)|18=>own= .int .i64 ((y:Int)+(jj:Nat))|19=>own= .int .i64 pd|20=>own= .int .i64 (pt-pd)|21=>own= .int .i64 (pt-pd)|_=>True) (fun kx wx=>Ext wr wx) (by kernel_rfl) (by kernel_rfl) (by kernel_rfl) ?g0_r2 ?gop_r2 ?gend_r2
   case g0_r2=>exact Ext.drewN _ 1
   case gop_r2 =>
    refine⟨?o0,?_,?_,?o3,?o4,?_,?_,?o7,?o8,?o9,?o10,?_,?_,?o13,?o14,?_,?_,?o17,?o18,?o19,?o20,?o21,trivial⟩ <;> (intro kx xs wx hk hG hD hI Qo Kx hK hQo;simp only[Ad,Nat.reduceAdd,Nat.reduceEqDiff,↓reduceIte]at hQo⊢)
    case o0 =>
     clear hD hI;obtain⟨-,k0,k1,k2,-⟩:=bx3 (hG.blk X0.out);go_wp2;exact hK.out _ _ ⟨rfl,hG,kkp⟩
    case o3 =>
     rw[ddq (hD 2 rfl)]at hQo⊢;clear hD hI;go_wp2;exact hK.out _ _ ⟨rfl,hG,kkp⟩
    case o4 =>
     rw[ddq (hD 1 rfl),ddq (hD 3 rfl)]at hQo⊢;clear hD hI;go_wp2;exact hK.out _ _ ⟨by rw[←Hi.out],hG,fun _ _ _ _ _ _ h=>h⟩
    case o7 =>
     rw[ddq (hD 6 rfl)]at hQo⊢;clear hD hI;go_wp2;exact hK.out _ _ ⟨rfl,hG,kkp⟩
    case o8 =>
     rw[ddq (hD 5 rfl),ddq (hD 7 rfl)]at hQo⊢;clear hD hI;go_wp2;exact hK.out _ _ ⟨by rw[←Hj.out],hG,fun _ _ _ _ _ _ h=>h⟩
    case o9 =>
     rw[ddq (hD 0 rfl),ddq (hD 4 rfl),ddq (hD 8 rfl)]at hQo⊢;clear hD hI;go_wp2_with fail
     refine(BS t ((x:Int)+(ii:Nat)) ((y:Int)+(jj:Nat)) at1 tc tn _ HTV.out Htn.out (RT5.ext (Ek.trans hG))).mono ?_
     rintro e wz ⟨rfl,ez⟩
     rw[←HPT.out];go_wp2;exact hK.out _ _ ⟨rfl,hG.trans ez,fun _ _ _ _ _ _ h=>h⟩
    case o10 =>
     clear hD hI;obtain⟨-,k0,k1,k2,-⟩:=bx3 (hG.blk X4.out);go_wp2;exact hK.out _ _ ⟨rfl,hG,kkp⟩
    case o13 =>
     rw[ddq (hD 12 rfl)]at hQo⊢;clear hD hI;go_wp2;exact hK.out _ _ ⟨rfl,hG,kkp⟩
    case o14 =>
     rw[ddq (hD 11 rfl),ddq (hD 13 rfl)]at hQo⊢;clear hD hI;go_wp2;exact hK.out _ _ ⟨by rw[←Hi.out],hG,fun _ _ _ _ _ _ h=>h⟩
    case o17 =>
     rw[ddq (hD 16 rfl)]at hQo⊢;clear hD hI;go_wp2;exact hK.out _ _ ⟨rfl,hG,kkp⟩
    case o18 =>
     rw[ddq (hD 15 rfl),ddq (hD 17 rfl)]at hQo⊢;clear hD hI;go_wp2;exact hK.out _ _ ⟨by rw[←Hj.out],hG,fun _ _ _ _ _ _ h=>h⟩
    case o19 =>
     rw[ddq (hD 10 rfl),ddq (hD 14 rfl),ddq (hD 18 rfl)]at hQo⊢;clear hD hI;go_wp2_with fail
     refine(BS ⟨W,H,bl⟩ ((x:Int)+(ii:Nat)) ((y:Int)+(jj:Nat)) (some ⟨g,0,none⟩) c1 l _ HDv.out HDn.out (SD5.ext (Ek.trans hG))).mono ?_
     rintro e wz ⟨rfl,ez⟩
     rw[←HPD.out];go_wp2;exact hK.out _ _ ⟨rfl,hG.trans ez,fun _ _ _ _ _ _ h=>h⟩
    case o20 =>
     rw[ddq (hD 9 rfl),ddq (hD 19 rfl)]at hQo⊢;clear hD hI;go_wp2;exact hK.out _ _ ⟨rfl,hG,kkp⟩
    case o21 =>
     rw[ddq (hD 20 rfl)]at hQo⊢;clear hD hI;go_wp2;exact hK.out _ _ ⟨rfl,hG,kkp⟩
    all_goals
     clear hD hI;go_wp2;exact hK.out _ _ ⟨rfl,hG,kkp⟩
   intro xs wx hV hG;have d21:_=_:=hV 21 (by decide);clear hV;simp only[Ad,Nat.reduceAdd,Nat.reduceEqDiff,↓reduceIte];generalize xs 0=y0,xs 1=y1,xs 2=y2,xs 3=y3,xs 4=y4,xs 5=y5,xs 6=y6,xs 7=y7,xs 8=y8,xs 9=y9,xs 10=y10,xs 11=y11,xs 12=y12,xs 13=y13,xs 14=y14,xs 15=y15,xs 16=y16,xs 17=y17,xs 18=y18,xs 19=y19,xs 20=y20,xs 21=y21 at *
   replace hG:Ext wr wx:=hG
   subst d21;obtain⟨dv,hdv⟩:∃ dv,dv=pt-pd:=⟨_,rfl⟩;rw[←hdv]at hpd hsq Hnx Hwq⊢;have HDV:=Aa hdv;clear hdv;obtain⟨S,hS⟩:∃ S,S=sqS t ⟨W,H,bl⟩ x y k:=⟨_,rfl⟩;rw[←hS]at hsr Hnx⊢;clear hS;go_wp2;go_roundw
   case rel=>exact⟨k+1,by omega,by go_num,by rw[Hnx.out];congr 1;generalize dv*dv=z at *;first|omega|(unfold wrap64;omega),Ek.trans hG⟩
   case measure=>simp[intOf];omega
  ·obtain rfl:k=64:=by omega
   obtain⟨S,hS⟩:∃ S,S=sqS t ⟨W,H,bl⟩ x y 64:=⟨_,rfl⟩;rw[←hS]at hsr⊢;have HS:=Aa hS;clear hS;go_wp2;go_ret
   exact⟨BY (by rw[←Hbl.out,←HS.out,←HC0.out];omega),E5.trans Ek⟩
theorem JK (p:Pic)(x y:Int){k:Nat}(h:k<64):nth (blkL p x y 0 0) k=pat p (x+(k%8:Nat)) (y+(k/8:Nat)):=by
 rw[Ih p x y 0 0 h,Int.add_zero,Int.add_zero,NG]
theorem LL (t D:Pic)(x y:Nat)(a b:Option Addr)(c d n l:Nat)(w:World)(htv:t.valid)(hDv:D.valid)(hn:n=t.px.length)(hl:l=D.px.length)(s:Sl w a n (t.px.map (Value.int .i64)))(u:Sl w b l (D.px.map (Value.int .i64)))(hx:x≤100)(hy:y≤100):
 Calls Tryz.prog 123 #[.agg #[.int .i64 t.w,.int .i64 t.h,.slice a n c],.agg #[.int .i64 D.w,.int .i64 D.h,.slice b l d],.int .i64 (x:Nat),.int .i64 (y:Nat)] w fun e w'=>e= .returned (.int .i64 (sqS t D x y 64))∧Ext w w':=by
 have HN:=Aa hn;have HL:=Aa hl;clear hn hl;have Y0:=(Ext.alloc (w.alloc (.cells #[.int .i64 t.w,.int .i64 t.h,.slice a n c] 30)) (.cells #[.int .i64 D.w,.int .i64 D.h,.slice b l d] 30)).blk (Aj w (.cells #[.int .i64 t.w,.int .i64 t.h,.slice a n c] 30));have Y1:=Aj (w.alloc (.cells #[.int .i64 t.w,.int .i64 t.h,.slice a n c] 30)) (.cells #[.int .i64 D.w,.int .i64 D.h,.slice b l d] 30);have F1:=(Ext.alloc w (.cells #[.int .i64 t.w,.int .i64 t.h,.slice a n c] 30)).trans (Ext.alloc _ (.cells #[.int .i64 D.w,.int .i64 D.h,.slice b l d] 30));simp only[World.size_alloc]at Y1;obtain⟨B,hB⟩:∃ B,B=w.heap.size:=⟨_,rfl⟩;rw[←hB]at Y0 Y1;have HB:=Aa hB;go_enter Tryz.func123,Tryz.ntmps123
 go_upto_region 1 with fail
 try simp only[World.size_alloc]
 rw[←hB];clear hB;generalize (w.alloc (.cells #[.int .i64 t.w,.int .i64 t.h,.slice a n c] 30)).alloc (.cells #[.int .i64 D.w,.int .i64 D.h,.slice b l d] 30)=w1 at *;obtain⟨-,k1,k2,k3,-⟩:=bx3 Y0;go_wp2_with fail
 refine(BE t x y 0 0 a c n _ htv HN.out (s.ext F1) (by omega) (by omega) (by omega) (by omega) (by omega) (by omega) (by omega) (by omega)).mono ?_
 rintro e w4 ⟨a4,c4,rfl,o4,e4⟩
 obtain⟨g4,rfl⟩:=Bq o4 (by omega);have S4:=Sl.of_owns o4;have G1:=e4.blk Y1;have F2:=F1.trans e4;clear Y0 Y1 F1 e4 o4 k1 k2 k3;obtain⟨-,k1,k2,k3,-⟩:=bx3 G1;go_wp2_with fail
 refine(BE D x y 0 0 b d l _ hDv HL.out (u.ext F2) (by omega) (by omega) (by omega) (by omega) (by omega) (by omega) (by omega) (by omega)).mono ?_
 rintro e w6 ⟨a6,c6,rfl,o6,e6⟩
 obtain⟨g6,rfl⟩:=Bq o6 (by omega);have S6:=Sl.of_owns o6;have S5:=S4.ext e6;have F3:=F2.trans e6;clear G1 F2 e6 o6 S4 k1 k2 k3;go_wp2_with fail
 go_loopw [11,12] (fun v i wr=>∃ k:Nat,k≤64∧i= .int .i64 k∧v= .int .i64 (sqS t D x y k)∧Ext w6 wr) (fun _ i _=>64-(intOf i).toNat)
 case atStart=>exact⟨0,by omega,rfl,by simp[sqS],Below.refl _ _⟩
 case round =>
  obtain⟨k,hk,rfl,rfl,Ek⟩:=hrel;have hsr:=Jl htv hDv x y k
  by_cases hlt:k<64
  ·have hd:decide ((k:Int)<64)=true:=by simp;omega
   have hpd:=Nh htv hDv ((x:Int)+(k%8:Nat)) ((y:Int)+(k/8:Nat));have hsq:=No hpd.1 hpd.2;have Hnx:=Aa (show sqS t D x y (k+1)=_ by rw[sqS]);obtain⟨u,hu⟩:∃ u,u=pat t ((x:Int)+(k%8:Nat)) ((y:Int)+(k/8:Nat)):=⟨_,rfl⟩;obtain⟨v,hv⟩:∃ v,v=pat D ((x:Int)+(k%8:Nat)) ((y:Int)+(k/8:Nat)):=⟨_,rfl⟩;have hp1:=AM htv ((x:Int)+(k%8:Nat)) ((y:Int)+(k/8:Nat));have hp2:=AM hDv ((x:Int)+(k%8:Nat)) ((y:Int)+(k/8:Nat));rw[←hu]at hp1;rw[←hv]at hp2;rw[←hu,←hv]at hpd hsq Hnx;obtain⟨S,hS⟩:∃ S,S=sqS t D x y k:=⟨_,rfl⟩;rw[←hS]at hsr Hnx;rw[←hS];have HcU:=Aa (fun(wx:World) (h:Ext wr wx)=>Lw (S5.ext (Ek.trans h)) hlt ((JK t x y hlt).trans hu.symm));have HcV:=Aa (fun(wx:World) (h:Ext wr wx)=>Lw (S6.ext (Ek.trans h)) hlt ((JK D x y hlt).trans hv.symm));obtain⟨P,hP⟩:∃ P,P=(u-v)*(u-v):=⟨_,rfl⟩;rw[←hP]at hsq Hnx;have HP:=Aa (show(u-v)*(u-v)=P from hP.symm);have HPw:=Aa (show wrap64 ((u-v)*(u-v))=P by rw[←hP];unfold wrap64;omega);clear hu hv hS hP;go_upto_region 7 with fail
   refine An (by kernel_rfl) [(11,21),(29,0),(30,1),(31,2),(32,3),(33,4),(34,5),(35,6),(36,7),(37,8),(38,9),(39,10),(40,11),(41,12),(42,13),(43,14),(44,15),(45,16),(46,17),(47,18),(48,19),(49,20)] [[],[],[],[1,2],[1,2,3],[],[],[5,6],[5,6,7],[1,2,3,4,5,6,7,8],[],[],[10,11],[10,11,12],[],[],[14,15],[14,15,16],[10,11,12,13,14,15,16,17],[1,2,3,4,5,6,7,8,9,10,11,12,13,14,15,16,17,18],[0,1,2,3,4,5,6,7,8,9,10,11,12,13,14,15,16,17,18,19],[0,1,2,3,4,5,6,7,8,9,10,11,12,13,14,15,16,17,18,19,20]] (fun i own ys wx=>match i with|0=>own= .int .i64 S|1=>own= .slice (some ⟨g4,0,none⟩) 64 c4|2=>own= .int .i64 (k:Nat)|3=>own= .pointer (some ⟨g4,k,none⟩)|4=>own= .int .i64 u|5=>own= .slice (some ⟨g6,0,none⟩) 64 c6|6=>own= .int .i64 (k:Nat)|7=>own= .pointer (some ⟨g6,k,none⟩)|8=>own= .int .i64 v|9=>own= .int .i64 (u-v)|10=>own= .slice (some ⟨g4,0,none⟩) 64 c4|11=>own= .int .i64 (k:Nat)|12=>own= .pointer (some ⟨g4,k,none⟩)|13=>own= .int .i64 u|14=>own= .slice (some ⟨g6,0,none⟩) 64 c6|15=>own= .int .i64 (k:Nat)|16=>own= .pointer (some ⟨g6,k,none⟩)|17=>own= .int .i64 v|18=>own= .int .i64 (u-v)|19=>own= .int .i64 P|20=>own= .int .i64 (S+P)|21=>own= .int .i64 (S+P)|_=>True) (fun kx wx=>Ext wr wx) (by kernel_rfl) (by kernel_rfl) (by kernel_rfl) ?g0_r1 ?gop_r1 ?gend_r1
   case g0_r1=>exact Ext.drewN _ 1
   case gop_r1 =>
    refine⟨?o0,?_,?_,?o3,?o4,?_,?_,?o7,?o8,?o9,?_,?_,?o12,?o13,?_,?_,?o16,?o17,?o18,?o19,?o20,?o21,trivial⟩ <;> (intro kx xs wx hk hG hD hI Qo Kx hK hQo;simp only[Ad,Nat.reduceAdd,Nat.reduceEqDiff,↓reduceIte]at hQo⊢)
    case o0 =>
     have i21:=hI 21 11 rfl rfl;simp only[List.getD_cons_succ,List.getD_cons_zero]at i21;clear hD hI;rw[i21]at hQo⊢;clear i21;go_wp2;exact hK.out _ _ ⟨rfl,hG,kkp⟩
    case o3 =>
     rw[ddq (hD 1 rfl),ddq (hD 2 rfl)]at hQo⊢;clear hD hI;go_wp2;exact hK.out _ _ ⟨rfl,hG,kkp⟩
    case o4 =>
     rw[ddq (hD 3 rfl)]at hQo⊢;clear hD hI;have cx:=HcU.out wx hG;go_wp2;exact hK.out _ _ ⟨rfl,hG,kkp⟩
    case o7 =>
     rw[ddq (hD 5 rfl),ddq (hD 6 rfl)]at hQo⊢;clear hD hI;go_wp2;exact hK.out _ _ ⟨rfl,hG,kkp⟩
    case o8 =>
     rw[ddq (hD 7 rfl)]at hQo⊢;clear hD hI;have cx:=HcV.out wx hG;go_wp2;exact hK.out _ _ ⟨rfl,hG,kkp⟩
    case o9 =>
     rw[ddq (hD 4 rfl),ddq (hD 8 rfl)]at hQo⊢;clear hD hI;go_wp2;exact hK.out _ _ ⟨rfl,hG,kkp⟩
    case o12 =>
     rw[ddq (hD 10 rfl),ddq (hD 11 rfl)]at hQo⊢;clear hD hI;go_wp2;exact hK.out _ _ ⟨rfl,hG,kkp⟩
    case o13 =>
     rw[ddq (hD 12 rfl)]at hQo⊢;clear hD hI;have cx:=HcU.out wx hG;go_wp2;exact hK.out _ _ ⟨rfl,hG,kkp⟩
    case o16 =>
     rw[ddq (hD 14 rfl),ddq (hD 15 rfl)]at hQo⊢;clear hD hI;go_wp2;exact hK.out _ _ ⟨rfl,hG,kkp⟩
    case o17 =>
     rw[ddq (hD 16 rfl)]at hQo⊢;clear hD hI;have cx:=HcV.out wx hG;go_wp2;exact hK.out _ _ ⟨rfl,hG,kkp⟩
    case o18 =>
     rw[ddq (hD 13 rfl),ddq (hD 17 rfl)]at hQo⊢;clear hD hI;go_wp2;exact hK.out _ _ ⟨rfl,hG,kkp⟩
    case o19 =>
     rw[ddq (hD 9 rfl),ddq (hD 18 rfl)]at hQo⊢;clear hD hI;go_wp2;exact hK.out _ _ ⟨by first|rw[HPw.out]|rw[HP.out],hG,fun _ _ _ _ _ _ h=>h⟩
    case o20 =>
     rw[ddq (hD 0 rfl),ddq (hD 19 rfl)]at hQo⊢;clear hD hI;go_wp2;exact hK.out _ _ ⟨rfl,hG,kkp⟩
    case o21 =>
     rw[ddq (hD 20 rfl)]at hQo⊢;clear hD hI;go_wp2;exact hK.out _ _ ⟨rfl,hG,kkp⟩
    all_goals
     clear hD hI;go_wp2;exact hK.out _ _ ⟨rfl,hG,kkp⟩
   intro xs wx hV hG;have d21:_=_:=hV 21 (by decide);clear hV;simp only[Ad,Nat.reduceAdd,Nat.reduceEqDiff,↓reduceIte];generalize xs 0=y0,xs 1=y1,xs 2=y2,xs 3=y3,xs 4=y4,xs 5=y5,xs 6=y6,xs 7=y7,xs 8=y8,xs 9=y9,xs 10=y10,xs 11=y11,xs 12=y12,xs 13=y13,xs 14=y14,xs 15=y15,xs 16=y16,xs 17=y17,xs 18=y18,xs 19=y19,xs 20=y20,xs 21=y21 at *
   replace hG:Ext wr wx:=hG
   subst d21;go_wp2;go_roundw
   case rel=>exact⟨k+1,by omega,by go_num,by rw[Hnx.out],Ek.trans hG⟩
   case measure=>simp[intOf];omega
  ·obtain rfl:k=64:=by omega
   obtain⟨S,hS⟩:∃ S,S=sqS t D x y 64:=⟨_,rfl⟩;rw[←hS]at hsr⊢;have HS:=Aa hS;clear hS;go_wp2;go_ret
   exact⟨BY (by rw[←HS.out]),F3.trans Ek⟩
theorem EX (t ref:Pic)(W H x y:Nat)(px:List Int)(m:Mac)(q:Nat)(top:Int)(at1 a b:Option Addr)(tc c d tn n l:Nat)(w:World)(htn:tn=t.px.length)(hn:n=ref.px.length)(hl:l=px.length)(nc:n≤9223372036854775807)(rt:Sl w at1 tn (t.px.map (Value.int .i64)))(r:Sl w a n (ref.px.map (Value.int .i64)))(s:Sl w b l (px.map (Value.int .i64)))(hm:m.ok)(htv:t.valid)(ho:okR ref ⟨W,H,px⟩ x y m q top):
 Calls Tryz.prog 78 #[.agg #[.int .i64 t.w,.int .i64 t.h,.slice at1 tn tc],.agg #[.int .i64 ref.w,.int .i64 ref.h,.slice a n c],.agg #[.int .i64 W,.int .i64 H,.slice b l d],.int .i64 (x:Nat),.int .i64 (y:Nat),.agg (ic m.zs),.int .i64 q,.int .i64 top] w fun e w'=>e= .returned (.int .i64 (sqS t ⟨W,H,bldS ref ⟨W,H,px⟩ x y m q top 4⟩ x y 64+stp q*(macN m:Int)))∧Ext w w':=by
 have hlen:=Pic.len_le ho.1.1;simp only at hlen;rw[←hl]at hlen;obtain⟨bl,hbl⟩:∃ bl,bl=bldS ref ⟨W,H,px⟩ x y m q top 4:=⟨_,rfl⟩;have hDv:Pic.valid ⟨W,H,bl⟩:=by rw[hbl];exact BM ho.1.1 ref x y m q top 4
 have hxy:(x:Int)<40∧(y:Int)<40:=by
  have h1:=ho.1.1.1;have h2:=ho.1.1.2.1;have h3:=ho.1.2.2.1;have h4:=ho.1.2.2.2.2.2.1;simp only[side]at h1 h2 h3 h4;omega
 have HDn:=Aa (show l=bl.length by rw[hbl,CR];exact hl);have Hbl:=Aa hbl;clear hbl;have hrt:=JP hm ho.2.1 (show q<16 by have:=ho.2.2.1;omega);have Htn:=Aa htn;have Hn:=Aa hn;have HL:=Aa hl;have Hm:=Aa hm;have Hl:=Aa (Mac.zs_len hm);have Hok:=Aa ho;have HTV:=Aa htv;have HDv:=Aa hDv;have hq:q<16:=by have:=ho.2.2.1;omega
 have ht0:0≤top:=ho.2.2.2.1.1;clear hn hl hm ho htn htv hDv;have a2:=Ext.alloc (w.alloc (.cells #[.int .i64 t.w,.int .i64 t.h,.slice at1 tn tc] 30)) (.cells #[.int .i64 ref.w,.int .i64 ref.h,.slice a n c] 30);have a3:=Ext.alloc ((w.alloc (.cells #[.int .i64 t.w,.int .i64 t.h,.slice at1 tn tc] 30)).alloc (.cells #[.int .i64 ref.w,.int .i64 ref.h,.slice a n c] 30)) (.cells #[.int .i64 W,.int .i64 H,.slice b l d] 30);have a4:=Ext.alloc (((w.alloc (.cells #[.int .i64 t.w,.int .i64 t.h,.slice at1 tn tc] 30)).alloc (.cells #[.int .i64 ref.w,.int .i64 ref.h,.slice a n c] 30)).alloc (.cells #[.int .i64 W,.int .i64 H,.slice b l d] 30)) (.cells (ic m.zs) 50);have p0:=a4.blk (a3.blk (a2.blk (Aj w (.cells #[.int .i64 t.w,.int .i64 t.h,.slice at1 tn tc] 30))));have p1:=a4.blk (a3.blk (Aj (w.alloc (.cells #[.int .i64 t.w,.int .i64 t.h,.slice at1 tn tc] 30)) (.cells #[.int .i64 ref.w,.int .i64 ref.h,.slice a n c] 30)));have p2:=a4.blk (Aj ((w.alloc (.cells #[.int .i64 t.w,.int .i64 t.h,.slice at1 tn tc] 30)).alloc (.cells #[.int .i64 ref.w,.int .i64 ref.h,.slice a n c] 30)) (.cells #[.int .i64 W,.int .i64 H,.slice b l d] 30));have p3:=IB.new (((w.alloc (.cells #[.int .i64 t.w,.int .i64 t.h,.slice at1 tn tc] 30)).alloc (.cells #[.int .i64 ref.w,.int .i64 ref.h,.slice a n c] 30)).alloc (.cells #[.int .i64 W,.int .i64 H,.slice b l d] 30)) 50 m.zs;have E1:=(((Ext.alloc w (.cells #[.int .i64 t.w,.int .i64 t.h,.slice at1 tn tc] 30)).trans a2).trans a3).trans a4;simp only[World.size_alloc]at p1 p2 p3;clear a2 a3 a4;obtain⟨B,hB⟩:∃ B,B=w.heap.size:=⟨_,rfl⟩;rw[←hB]at p0 p1 p2 p3;have hwB:w.heap.size≤B:=by omega
 have HB:=Aa hB;have hb1:=p3.lt;go_enter Tryz.func78,Tryz.ntmps78
 go_upto_region 1 with fail
 try simp only[World.size_alloc]
 rw[←hB];clear hB;generalize (((w.alloc (.cells #[.int .i64 t.w,.int .i64 t.h,.slice at1 tn tc] 30)).alloc (.cells #[.int .i64 ref.w,.int .i64 ref.h,.slice a n c] 30)).alloc (.cells #[.int .i64 W,.int .i64 H,.slice b l d] 30)).alloc (.cells (ic m.zs) 50)=w1 at *;obtain⟨-,i0,i1,i2,-⟩:=bx3 p2;go_wp2_with fail
 refine(JE W H b d l px _ (by omega) (by omega) (s.ext E1)).mono ?_
 rintro e wa ⟨a1,c1,rfl,own1,e2⟩
 have r0:=e2.blk p0;have r1:=e2.blk p1;have r2:=e2.blk p2;have r3:=p3.ext e2;have E2:=E1.trans e2;clear p0 p1 p2 p3 E1 e2 i0 i1 i2;have hgo:∃ g,a1=some ⟨g,0,none⟩∧g<wa.heap.size∧w1.heap.size≤g:=by
  rcases own1.2 with⟨-,h0⟩|⟨g,cc,cur,hv,hb,hb2,-⟩
  ·omega
  ·simp only[Value.slice.injEq]at hv;exact⟨g,hv.1,lt_of_block hb2,hb⟩
 obtain⟨g,rfl,hg1,hg2⟩:=hgo;have a5:=Ext.alloc wa (.cells #[.int .i64 W,.int .i64 H,.slice (some ⟨g,0,none⟩) l c1] 30);have z0:=a5.blk r0;have z1:=a5.blk r1;have z3:=r3.ext a5;have z4:=Aj wa (.cells #[.int .i64 W,.int .i64 H,.slice (some ⟨g,0,none⟩) l c1] 30);have own2:=Ae own1 a5;have E3:=E2.trans a5;have hO:=r3.lt;obtain⟨O,hOe⟩:∃ O,O=wa.heap.size:=⟨_,rfl⟩;rw[←hOe]at z4 hg1 hO;have HO2:=Aa hOe;clear r0 r1 r2 r3 own1 E2 a5;obtain⟨-,i0,i1,i2,-⟩:=bx3 z1;obtain⟨-,o0,o1,o2,-⟩:=bx3 z4;have hOlt:=lt_of_block z4;go_upto_region 2 with fail
 rw[←hOe];clear hOe;generalize wa.alloc (.cells #[.int .i64 W,.int .i64 H,.slice (some ⟨g,0,none⟩) l c1] 30)=w2 at *;go_wp2_with (refine Ab 50 _ rfl rfl z3 0 71 rfl _ Ro rfl Ah (by rw[Hl.out];omega) _ (by rw[Ak _ _ Hl.out]) ?_)
 have hrz : ¬ m.kind=2→∀ z,a=some z→z.block≠g:=fun hk z hz=>by
  have h9:=Pic.len_le (Jg Hok.out hk);rw[←Hn.out]at h9;have:=Cs r z hz (by omega);omega
 refine(FM ref W H x y px m q top a n c w1.heap.size g l c1 _ own2 Hok.out.1 Hm.out Hok.out.2.1 hq ht0 (fun hk=>Jg Hok.out hk) Hn.out (r.ext E3) hrz).mono ?_
 rintro e w3 ⟨rfl,own3,g3⟩
 rw[←Hbl.out]at own3;have u0:=Ar z0 g3 (by simp;omega);have u3:=z3.gr g3 (by simp;omega);have u4:=Ar z4 g3 (by simp;omega);have hs1:B≤w1.heap.size:=by omega
 have E4:Ext w w3:=Ext.grown E3 g3 (fun k e=>by cases e;omega);have SD:=Sl.of_owns own3;clear z0 z1 z3 z4 own2 own3 E3 g3 i0 i1 i2 o0 o1 o2;have RT:=rt.ext E4;obtain⟨s0,hs0⟩:∃ s0,s0=stp q:=⟨_,rfl⟩;obtain⟨N0,hN0⟩:∃ N0,N0=macN m:=⟨_,rfl⟩;obtain⟨C,hC⟩:∃ C,C=stp q*(macN m:Int):=⟨_,rfl⟩;rw[←hC]at hrt;have HC:=Aa (show s0*(N0:Int)=C by rw[hs0,hN0,hC]);have HW:=Aa (show wrap64 (s0*(N0:Int))=C by rw[hs0,hN0,←hC];unfold wrap64;omega);have HS0:=Aa hs0;have HN0:=Aa hN0;have HC0:=Aa hC;have hs0r:=Do hq;rw[←hs0]at hs0r;have hN0r:=Jb Hm.out Hok.out.2.1;rw[←hN0]at hN0r;obtain⟨S,hS⟩:∃ S,S=sqS t ⟨W,H,bl⟩ x y 64:=⟨_,rfl⟩;have hsr:=Jl HTV.out HDv.out x y 64;rw[←hS]at hsr;have HS:=Aa hS;clear hS hs0 hN0 hC;go_upto_region 3 with fail
 refine An (by kernel_rfl) [(16,12),(28,0),(29,1),(30,2),(31,3),(32,4),(33,5),(34,6),(35,7),(36,8),(37,9),(38,10),(39,11)] [[],[],[],[],[0,1,2,3],[],[0,1,2,3,4,5],[],[0,1,2,3,4,5,6,7],[0,1,2,3,4,5,6,7,8],[0,1,2,3,4,5,6,7,8,9],[0,1,2,3,4,5,6,7,8,9,10],[0,1,2,3,4,5,6,7,8,9,10,11]] (fun i own ys wx=>match i with|0=>own= .agg #[.int .i64 t.w,.int .i64 t.h,.slice at1 tn tc]|1=>own= .agg #[.int .i64 W,.int .i64 H,.slice (some ⟨g,0,none⟩) l c1]|2=>own= .int .i64 (x:Nat)|3=>own= .int .i64 (y:Nat)|4=>own= .int .i64 S|5=>own= .int .i64 (q:Nat)|6=>own= .int .i64 s0|7=>own= .agg (ic m.zs)|8=>∃(a3:Option Addr) (c3:Nat),own= .slice a3 N0 c3|9=>own= .int .i64 (N0:Nat)|10=>own= .int .i64 C|11=>own= .int .i64 (S+C)|12=>own= .int .i64 (S+C)|_=>True) (fun kx wx=>Ext w3 wx) (by kernel_rfl) (by kernel_rfl) (by kernel_rfl) ?g0_r2 ?gop_r2 ?gend_r2
 case g0_r2=>exact Ext.drewN _ 1
 case gop_r2 =>
  refine⟨?o0,?o1,?_,?_,?o4,?_,?o6,?o7,?o8,?o9,?o10,?o11,?o12,trivial⟩ <;> (intro kx xs wx hk hG hD hI Qo Kx hK hQo;simp only[Ad,Nat.reduceAdd,Nat.reduceEqDiff,↓reduceIte]at hQo⊢)
  case o0 =>
   clear hD hI;obtain⟨-,k0,k1,k2,-⟩:=bx3 (hG.blk u0);go_wp2;exact hK.out _ _ ⟨rfl,hG,kkp⟩
  case o1 =>
   clear hD hI;obtain⟨-,k0,k1,k2,-⟩:=bx3 (hG.blk u4);go_wp2;exact hK.out _ _ ⟨rfl,hG,kkp⟩
  case o4 =>
   rw[ddq (hD 0 rfl),ddq (hD 1 rfl),ddq (hD 2 rfl),ddq (hD 3 rfl)]at hQo⊢;clear hD hI;go_wp2_with fail
   refine(LL t ⟨W,H,bl⟩ x y at1 (some ⟨g,0,none⟩) tc c1 tn l _ HTV.out HDv.out Htn.out HDn.out (RT.ext hG) (SD.ext hG) (by omega) (by omega)).mono ?_
   rintro e wz ⟨rfl,ez⟩
   rw[←HS.out];go_wp2;exact hK.out _ _ ⟨rfl,hG.trans ez,fun _ _ _ _ _ _ h=>h⟩
  case o6 =>
   rw[ddq (hD 5 rfl)]at hQo⊢;clear hD hI;go_wp2_with fail
   refine(Cu q _ hq).mono ?_
   rintro e wz ⟨rfl,ez⟩
   rw[←HS0.out];go_wp2;exact hK.out _ _ ⟨rfl,hG.trans ez,fun _ _ _ _ _ _ h=>h⟩
  case o7 =>
   clear hD hI;go_wp2_with (refine Ab 50 _ rfl rfl (u3.ext hG) 0 71 rfl _ Ro rfl Ah (by rw[Hl.out];omega) _ (by rw[Ak _ _ Hl.out]) ?_)
   exact hK.out _ _ ⟨rfl,hG,kkp⟩
  case o8 =>
   rw[ddq (hD 7 rfl)]at hQo⊢;clear hD hI;go_wp2_with fail
   refine(Ia m _ Hm.out Hok.out.2.1).mono ?_
   rintro e wz ⟨az,cz,rfl,-,ez⟩
   rw[←HN0.out];go_wp2;exact hK.out _ _ ⟨⟨az,cz,rfl⟩,hG.trans ez,fun _ _ _ _ _ _ h=>h⟩
  case o9 =>
   have d8:∃(a3:Option Addr) (c3:Nat),(xs 8) = .slice a3 N0 c3:=hD 8 rfl;clear hD hI;generalize xs 8=y8 at *;obtain⟨a3,c3,rfl⟩:=d8;go_wp2;exact hK.out _ _ ⟨rfl,hG,kkp⟩
  case o10 =>
   rw[ddq (hD 6 rfl),ddq (hD 9 rfl)]at hQo⊢;clear hD hI;go_wp2;exact hK.out _ _ ⟨by first|rw[HW.out]|rw[HC.out],hG,fun _ _ _ _ _ _ h=>h⟩
  case o11 =>
   rw[ddq (hD 4 rfl),ddq (hD 10 rfl)]at hQo⊢;clear hD hI;go_wp2;exact hK.out _ _ ⟨rfl,hG,kkp⟩
  case o12 =>
   rw[ddq (hD 11 rfl)]at hQo⊢;clear hD hI;go_wp2;exact hK.out _ _ ⟨rfl,hG,kkp⟩
  all_goals
   clear hD hI;go_wp2;exact hK.out _ _ ⟨rfl,hG,kkp⟩
 intro xs wx hV hG;have d12:_=_:=hV 12 (by decide);clear hV;simp only[Ad,Nat.reduceAdd,Nat.reduceEqDiff,↓reduceIte];generalize xs 0=y0,xs 1=y1,xs 2=y2,xs 3=y3,xs 4=y4,xs 5=y5,xs 6=y6,xs 7=y7,xs 8=y8,xs 9=y9,xs 10=y10,xs 11=y11,xs 12=y12 at *
 replace hG:Ext w3 wx:=hG
 subst d12;go_wp2;go_ret
 exact⟨BY (by rw[←Hbl.out,←HS.out,←HC0.out]),E4.trans hG⟩
def sadS (a b:List Int):Nat→Int
 | 0=>0
 | k+1=>sadS a b k+max (nth a k-nth b k) (nth b k-nth a k)
theorem JS {a b:List Int}(ha:smp a)(hb:smp b)(la:a.length=64)(lb:b.length=64){k:Nat}(hk:k≤64):0≤sadS a b k∧sadS a b k≤255*k:=by
 induction k with
 | zero=>simp[sadS]
 | succ k ih =>
  have h:=ih (by omega);have h1:=AD ha (i:=k) (by omega);have h2:=AD hb (i:=k) (by omega);unfold sadS;omega
def cV (t r:Pic)(x y:Int)(vx vy:Int):Int:=sadS (blkL t x y 0 0) (blkL r x y vx vy) 64
theorem KP {t r:Pic}(ht:t.valid)(hr:r.valid)(x y vx vy:Int):0≤cV t r x y vx vy∧cV t r x y vx vy≤16320 :=
 JS (Bz ht x y 0 0) (Bz hr x y vx vy) (AQ _ _ _ _ _) (AQ _ _ _ _ _) (Nat.le_refl 64)
theorem Re {c:Int→Int→Int}{k:Nat}(hk:k≤81):(stS c k).2=c (stS c k).1.1 (stS c k).1.2∧boxV (stS c k).1.1 (stS c k).1.2:=⟨(Lo c k hk).1,(Lo c k hk).2.1⟩
theorem Kz (xs ys:List Int)(g4 g6 c4 c6:Nat)(w:World)(S5:Sl w (some ⟨g4,0,none⟩) 64 (xs.map (Value.int .i64)))(S6:Sl w (some ⟨g6,0,none⟩) 64 (ys.map (Value.int .i64)))(hx:smp xs)(hy:smp ys)(lx:xs.length=64)(ly:ys.length=64):
 Calls Tryz.prog 124 #[.slice (some ⟨g4,0,none⟩) 64 c4,.slice (some ⟨g6,0,none⟩) 64 c6] w fun e w'=>e= .returned (.int .i64 (sadS xs ys 64))∧Ext w w':=by
 have HS:=Aa (fun k (hk:k≤64)=>JS hx hy lx ly hk);have HX:=Aa (fun k (hk:k<64)=>AD hx (i:=k) (by omega));have HY:=Aa (fun k (hk:k<64)=>AD hy (i:=k) (by omega));clear hx hy lx ly;go_enter Tryz.func124,Tryz.ntmps124
 go_wp2_with fail
 go_loopw [5,6] (fun v i wr=>∃ k:Nat,k≤64∧i= .int .i64 k∧v= .int .i64 (sadS xs ys k)∧Ext w wr) (fun _ i _=>64-(intOf i).toNat)
 case atStart=>exact⟨0,by omega,rfl,by simp[sadS],Below.refl _ _⟩
 case round =>
  obtain⟨k,hk,rfl,rfl,Ek⟩:=hrel;have hsr:=HS.out k hk
  by_cases hlt:k<64
  ·have hd:decide ((k:Int)<64)=true:=by simp;omega
   have hp1:=HX.out k hlt;have hp2:=HY.out k hlt;have Hnx:=Aa (show sadS xs ys (k+1)=_ by rw[sadS]);obtain⟨u,hu⟩:∃ u,u=nth xs k:=⟨_,rfl⟩;obtain⟨v,hv⟩:∃ v,v=nth ys k:=⟨_,rfl⟩;rw[←hu]at hp1;rw[←hv]at hp2;rw[←hu,←hv]at Hnx;obtain⟨S,hS⟩:∃ S,S=sadS xs ys k:=⟨_,rfl⟩;rw[←hS]at hsr Hnx;rw[←hS];have HcU:=Aa (fun(wx:World) (h:Ext wr wx)=>Lw (S5.ext (Ek.trans h)) hlt hu.symm);have HcV:=Aa (fun(wx:World) (h:Ext wr wx)=>Lw (S6.ext (Ek.trans h)) hlt hv.symm);obtain⟨P,hP⟩:∃ P,P=max (u-v) (v-u):=⟨_,rfl⟩;rw[←hP]at Hnx;have hPr:0≤P∧P≤255:=by omega
   have HP:=Aa hP;clear hu hv hS hP;go_upto_region 5 with fail
   refine An (by kernel_rfl) [(5,21),(13,0),(14,1),(15,2),(16,3),(17,4),(18,5),(19,6),(20,7),(21,8),(22,9),(23,10),(24,11),(25,12),(26,13),(27,14),(28,15),(29,16),(30,17),(31,18),(32,19),(33,20)] [[],[],[],[1,2],[1,2,3],[],[],[5,6],[5,6,7],[1,2,3,4,5,6,7,8],[],[],[10,11],[10,11,12],[],[],[14,15],[14,15,16],[10,11,12,13,14,15,16,17],[1,2,3,4,5,6,7,8,9,10,11,12,13,14,15,16,17,18],[0,1,2,3,4,5,6,7,8,9,10,11,12,13,14,15,16,17,18,19],[0,1,2,3,4,5,6,7,8,9,10,11,12,13,14,15,16,17,18,19,20]] (fun i own ys wx=>match i with|0=>own= .int .i64 S|1=>own= .slice (some ⟨g4,0,none⟩) 64 c4|2=>own= .int .i64 (k:Nat)|3=>own= .pointer (some ⟨g4,k,none⟩)|4=>own= .int .i64 u|5=>own= .slice (some ⟨g6,0,none⟩) 64 c6|6=>own= .int .i64 (k:Nat)|7=>own= .pointer (some ⟨g6,k,none⟩)|8=>own= .int .i64 v|9=>own= .int .i64 (u-v)|10=>own= .slice (some ⟨g6,0,none⟩) 64 c6|11=>own= .int .i64 (k:Nat)|12=>own= .pointer (some ⟨g6,k,none⟩)|13=>own= .int .i64 v|14=>own= .slice (some ⟨g4,0,none⟩) 64 c4|15=>own= .int .i64 (k:Nat)|16=>own= .pointer (some ⟨g4,k,none⟩)|17=>own= .int .i64 u|18=>own= .int .i64 (v-u)|19=>own= .int .i64 P|20=>own= .int .i64 (S+P)|21=>own= .int .i64 (S+P)|_=>True) (fun kx wx=>Ext wr wx) (by kernel_rfl) (by kernel_rfl) (by kernel_rfl) ?g0_r1 ?gop_r1 ?gend_r1
   case g0_r1=>exact Ext.drewN _ 1
   case gop_r1 =>
    refine⟨?o0,?_,?_,?o3,?o4,?_,?_,?o7,?o8,?o9,?_,?_,?o12,?o13,?_,?_,?o16,?o17,?o18,?o19,?o20,?o21,trivial⟩ <;> (intro kx xs wx hk hG hD hI Qo Kx hK hQo;simp only[Ad,Nat.reduceAdd,Nat.reduceEqDiff,↓reduceIte]at hQo⊢)
    case o0 =>
     have i21:=hI 21 5 rfl rfl;simp only[List.getD_cons_succ,List.getD_cons_zero]at i21;clear hD hI;rw[i21]at hQo⊢;clear i21;go_wp2;exact hK.out _ _ ⟨rfl,hG,kkp⟩
    case o3 =>
     rw[ddq (hD 1 rfl),ddq (hD 2 rfl)]at hQo⊢;clear hD hI;go_wp2;exact hK.out _ _ ⟨rfl,hG,kkp⟩
    case o4 =>
     rw[ddq (hD 3 rfl)]at hQo⊢;clear hD hI;have cx:=HcU.out wx hG;go_wp2;exact hK.out _ _ ⟨rfl,hG,kkp⟩
    case o7 =>
     rw[ddq (hD 5 rfl),ddq (hD 6 rfl)]at hQo⊢;clear hD hI;go_wp2;exact hK.out _ _ ⟨rfl,hG,kkp⟩
    case o8 =>
     rw[ddq (hD 7 rfl)]at hQo⊢;clear hD hI;have cx:=HcV.out wx hG;go_wp2;exact hK.out _ _ ⟨rfl,hG,kkp⟩
    case o9 =>
     rw[ddq (hD 4 rfl),ddq (hD 8 rfl)]at hQo⊢;clear hD hI;go_wp2;exact hK.out _ _ ⟨rfl,hG,kkp⟩
    case o12 =>
     rw[ddq (hD 10 rfl),ddq (hD 11 rfl)]at hQo⊢;clear hD hI;go_wp2;exact hK.out _ _ ⟨rfl,hG,kkp⟩
    case o13 =>
     rw[ddq (hD 12 rfl)]at hQo⊢;clear hD hI;have cx:=HcV.out wx hG;go_wp2;exact hK.out _ _ ⟨rfl,hG,kkp⟩
    case o16 =>
     rw[ddq (hD 14 rfl),ddq (hD 15 rfl)]at hQo⊢;clear hD hI;go_wp2;exact hK.out _ _ ⟨rfl,hG,kkp⟩
    case o17 =>
     rw[ddq (hD 16 rfl)]at hQo⊢;clear hD hI;have cx:=HcU.out wx hG;go_wp2;exact hK.out _ _ ⟨rfl,hG,kkp⟩
    case o18 =>
     rw[ddq (hD 13 rfl),ddq (hD 17 rfl)]at hQo⊢;clear hD hI;go_wp2;exact hK.out _ _ ⟨rfl,hG,kkp⟩
    case o19 =>
     rw[ddq (hD 9 rfl),ddq (hD 18 rfl)]at hQo⊢;clear hD hI;go_wp2;all_goals exact hK.out _ _ ⟨by have:=HP.out;congr 1 <;> omega,hG,fun _ _ _ _ _ _ h=>h⟩
    case o20 =>
     rw[ddq (hD 0 rfl),ddq (hD 19 rfl)]at hQo⊢;clear hD hI;go_wp2;exact hK.out _ _ ⟨rfl,hG,kkp⟩
    case o21 =>
     rw[ddq (hD 20 rfl)]at hQo⊢;clear hD hI;go_wp2;exact hK.out _ _ ⟨rfl,hG,kkp⟩
    all_goals
     clear hD hI;go_wp2;exact hK.out _ _ ⟨rfl,hG,kkp⟩
   intro xs wx hV hG;have d21:_=_:=hV 21 (by decide);clear hV;simp only[Ad,Nat.reduceAdd,Nat.reduceEqDiff,↓reduceIte];generalize xs 0=y0,xs 1=y1,xs 2=y2,xs 3=y3,xs 4=y4,xs 5=y5,xs 6=y6,xs 7=y7,xs 8=y8,xs 9=y9,xs 10=y10,xs 11=y11,xs 12=y12,xs 13=y13,xs 14=y14,xs 15=y15,xs 16=y16,xs 17=y17,xs 18=y18,xs 19=y19,xs 20=y20,xs 21=y21 at *
   replace hG:Ext wr wx:=hG
   subst d21;go_wp2;go_roundw
   case rel=>exact⟨k+1,by omega,by go_num,by rw[Hnx.out],Ek.trans hG⟩
   case measure=>simp[intOf];omega
  ·obtain rfl:k=64:=by omega
   obtain⟨S,hS⟩:∃ S,S=sadS xs ys 64:=⟨_,rfl⟩;rw[←hS]at hsr⊢;have HS2:=Aa hS;clear hS;go_wp2;go_ret
   exact⟨BY (by rw[←HS2.out]),Ek⟩
theorem Gj (x y:Int)(w:World)(x1 : -16≤x)(x2:x≤16)(y1 : -16≤y)(y2:y≤16):
 Calls Tryz.prog 125 #[.agg #[.int .i64 x,.int .i64 y]] w fun e w'=>e= .returned (.int .i64 (ab x y))∧Ext w w':=by
 have p0:=Aj w (.cells #[.int .i64 x,.int .i64 y] 45);have E0:=Ext.alloc w (.cells #[.int .i64 x,.int .i64 y] 45);obtain⟨-,k0,k1,-⟩:=bx2 p0;go_enter Tryz.func125,Tryz.ntmps125
 go_wp2;all_goals
  go_ret
  exact⟨BY (by unfold ab;omega),E0⟩
structure SV (w : World) (B Q g4 : Nat) (r : Pic) (b : Option Addr) (l d : Nat) (T : List Int) (z : Int × Int) (wx : World) : Prop where
 ex:Ext w wx
 rf:wx.heap[B+1]?=some (.cells #[.int .i64 r.w,.int .i64 r.h,.slice b l d] 30 (0,0))
 rs:wx.heap[B+1+1]?=some (.cells #[.int .i64 0,.int .i64 0] 45 (0,0))
 be:wx.heap[Q]?=some (.cells #[.int .i64 z.1,.int .i64 z.2] 45 (0,0))
 sl:Sl wx (some ⟨g4,0,none⟩) 64 (T.map (Value.int .i64))
theorem SV.e {w wx wy:World}{B Q g4:Nat}{r:Pic}{b:Option Addr}{l d:Nat}{T:List Int}{z:Int×Int}(h:SV w B Q g4 r b l d T z wx)(e:Ext wx wy):SV w B Q g4 r b l d T z wy :=
 ⟨h.ex.trans e,e.blk h.rf,e.blk h.rs,e.blk h.be,h.sl.ext e⟩
theorem SV.set {w wx:World}{B Q g4:Nat}{r:Pic}{b:Option Addr}{l d:Nat}{T:List Int}{z:Int×Int}(h:SV w B Q g4 r b l d T z wx)(u v:Int)(h1:w.heap.size≤Q)(h2:B+1+1<Q)(h3:g4≠Q):
 SV w B Q g4 r b l d T (u,v) ((wx.setCell ⟨Q,0,none⟩ (.int .i64 u)).setCell ⟨Q,1,none⟩ (.int .i64 v)) :=
 ⟨Ext.grown (Ext.grown h.ex (Ax _ _ _ _) (fun k e=>by cases e;exact h1)) (Ax _ _ _ _) (fun k e=>by cases e;exact h1),
  Ai (Ai h.rf (by omega)) (by omega),Ai (Ai h.rs (by omega)) (by omega),Ft h.be,
  (h.sl.grown (Ax _ _ _ _) (fun y hy e=>by cases hy;simp at e;omega)).grown (Ax _ _ _ _) (fun y hy e=>by cases hy;simp at e;omega)⟩
theorem Q8 {J I:Nat}(hI:I<9):vat (9*J+I)=((I:Int)-4,(J:Int)-4):=by
 unfold vat;rw[show(9*J+I)%9=I by omega,show(9*J+I)/9=J by omega]
theorem LU (t r:Pic)(x y:Nat)(a b:Option Addr)(c d n l:Nat)(w:World)(htv:t.valid)(hrv:r.valid)(hn:n=t.px.length)(hl:l=r.px.length)(s:Sl w a n (t.px.map (Value.int .i64)))(su:Sl w b l (r.px.map (Value.int .i64)))(hx:x≤100)(hy:y≤100):
 Calls Tryz.prog 80 #[.agg #[.int .i64 t.w,.int .i64 t.h,.slice a n c],.agg #[.int .i64 r.w,.int .i64 r.h,.slice b l d],.int .i64 (x:Nat),.int .i64 (y:Nat),.int .i64 4] w fun e w'=>e= .returned (.agg #[.int .i64 (stS (cV t r x y) 81).1.1,.int .i64 (stS (cV t r x y) 81).1.2])∧Ext w w':=by
 have HN:=Aa hn;have HL:=Aa hl;have HC:=Aa (fun k (hk:k≤81)=>Re (c:=cV t r x y) hk);have HR:=Aa (fun vx vy=>KP htv hrv (x:Int) (y:Int) vx vy);have smT:=Aa (Bz htv (x:Int) (y:Int) 0 0);have smR:=Aa (fun vx vy=>Bz hrv (x:Int) (y:Int) vx vy);clear hn hl;have Y0:=(Ext.alloc ((w.alloc (.cells #[.int .i64 t.w,.int .i64 t.h,.slice a n c] 30)).alloc (.cells #[.int .i64 r.w,.int .i64 r.h,.slice b l d] 30)) (.cells #[.int .i64 0,.int .i64 0] 45)).blk ((Ext.alloc (w.alloc (.cells #[.int .i64 t.w,.int .i64 t.h,.slice a n c] 30)) (.cells #[.int .i64 r.w,.int .i64 r.h,.slice b l d] 30)).blk (Aj w (.cells #[.int .i64 t.w,.int .i64 t.h,.slice a n c] 30)));have Y1:=(Ext.alloc ((w.alloc (.cells #[.int .i64 t.w,.int .i64 t.h,.slice a n c] 30)).alloc (.cells #[.int .i64 r.w,.int .i64 r.h,.slice b l d] 30)) (.cells #[.int .i64 0,.int .i64 0] 45)).blk (Aj (w.alloc (.cells #[.int .i64 t.w,.int .i64 t.h,.slice a n c] 30)) (.cells #[.int .i64 r.w,.int .i64 r.h,.slice b l d] 30));have Y2:=Aj ((w.alloc (.cells #[.int .i64 t.w,.int .i64 t.h,.slice a n c] 30)).alloc (.cells #[.int .i64 r.w,.int .i64 r.h,.slice b l d] 30)) (.cells #[.int .i64 0,.int .i64 0] 45);have F1:=((Ext.alloc w (.cells #[.int .i64 t.w,.int .i64 t.h,.slice a n c] 30)).trans (Ext.alloc _ (.cells #[.int .i64 r.w,.int .i64 r.h,.slice b l d] 30))).trans (Ext.alloc _ (.cells #[.int .i64 0,.int .i64 0] 45));simp only[World.size_alloc]at Y1 Y2;obtain⟨B,hB⟩:∃ B,B=w.heap.size:=⟨_,rfl⟩;rw[←hB]at Y0 Y1 Y2;have hwB:w.heap.size≤B:=by omega
 have hb1:=lt_of_block Y2;go_enter Tryz.func80,Tryz.ntmps80
 go_upto_region 1 with fail
 try simp only[World.size_alloc]
 rw[←hB];clear hB;generalize ((w.alloc (.cells #[.int .i64 t.w,.int .i64 t.h,.slice a n c] 30)).alloc (.cells #[.int .i64 r.w,.int .i64 r.h,.slice b l d] 30)).alloc (.cells #[.int .i64 0,.int .i64 0] 45)=w1 at *;obtain⟨-,k1,k2,k3,-⟩:=bx3 Y0;go_wp2_with fail
 refine(BE t x y 0 0 a c n _ htv HN.out (s.ext F1) (by omega) (by omega) (by omega) (by omega) (by omega) (by omega) (by omega) (by omega)).mono ?_
 rintro e w4 ⟨a4,c4,rfl,o4,e4⟩
 obtain⟨g4,rfl⟩:=Bq o4 (by omega);have S4:=Sl.of_owns o4;have ho4:=(o4.lt g4 rfl).1;have G1:=e4.blk Y1;have G2:=e4.blk Y2;have F2:=F1.trans e4;have hb2:=Nat.lt_of_lt_of_le hb1 e4.size;have h4b:B+1+1<g4:=by omega
 clear Y0 Y1 Y2 F1 e4 o4 k1 k2 k3 hb1 ho4;have b0:=Aj w4 (.cells #[.int .i64 0,.int .i64 0] 45);have ea:=Ext.alloc w4 (.cells #[.int .i64 0,.int .i64 0] 45);have S5:=S4.ext ea;have G3:=ea.blk G1;have G4:=ea.blk G2;have F3:=F2.trans ea;obtain⟨Q,hQ⟩:∃ Q,Q=w4.heap.size:=⟨_,rfl⟩;have hg4:=Cs S4 _ rfl (by omega);rw[←hQ]at b0 hb2 hg4;go_upto_region 3 with fail
 rw[←hQ];generalize w4.alloc (.cells #[.int .i64 0,.int .i64 0] 45)=w5 at *;clear hQ;have V5:SV w B Q g4 r b l d (blkL t x y 0 0) (0,0) w5:=⟨F3,G3,G4,b0,S5⟩;have hwQ:w.heap.size≤Q:=by omega
 have hgQ:g4≠Q:=by omega
 have hBQ:=hb2;clear S4 G1 G2 F2 ea S5 G3 G4 F3 b0 hg4 hb2 h4b;obtain⟨-,k1,k2,k3,-⟩:=bx3 V5.rf;obtain⟨-,q0,q1,-⟩:=bx2 V5.be;go_wp2_with fail
 refine(BE r x y 0 0 b d l _ hrv HL.out (su.ext V5.ex) (by omega) (by omega) (by omega) (by omega) (by omega) (by omega) (by omega) (by omega)).mono ?_
 rintro e w6 ⟨a6,c6,rfl,o6,e6⟩
 obtain⟨g6,rfl⟩:=Bq o6 (by omega);have V6:=V5.e e6;clear V5 e6 k1 k2 k3 q0 q1;go_wp2_with fail
 refine(Kz _ _ g4 g6 c4 c6 _ V6.sl (Sl.of_owns o6) smT.out (smR.out 0 0) (AQ _ _ _ _ _) (AQ _ _ _ _ _)).mono ?_
 rintro e w7 ⟨rfl,e7⟩
 rw[show sadS (blkL t x y 0 0) (blkL r x y 0 0) 64=(stS (cV t r x y) 0).2 from rfl];have V7:=V6.e e7;clear V6 e7 o6;obtain⟨ls0,hls0⟩:∃ z,z=(stS (cV t r x y) 0).2:=⟨_,rfl⟩;rw[←hls0];have Hls0:=Aa hls0;clear hls0;go_wp2_with fail
 go_loopw [14,13] (fun j ls wr=>∃ J:Nat,J≤9∧j= .int .i64 ((J:Int)-4)∧ls= .int .i64 (stS (cV t r x y) (9*J)).2∧SV w B Q g4 r b l d (blkL t x y 0 0) (stS (cV t r x y) (9*J)).1 wr) (fun j _ _=>(5-intOf j).toNat)
 case atStart=>exact⟨0,by omega,by congr 1,by rw[Hls0.out],V7⟩
 case round =>
  obtain⟨J,hJ,rfl,rfl,V8⟩:=hrel;clear V7 Hls0;obtain⟨ls1,hls1⟩:∃ z,z=(stS (cV t r x y) (9*J)).2:=⟨_,rfl⟩;rw[←hls1];have Hls1:=Aa hls1;clear hls1
  by_cases hlt:J<9
  ·have hd:decide ((J:Int)-4≤4)=true:=by simp;omega
   go_wp2_with fail
   go_loopw [15,13] (fun i ls wr=>∃ I:Nat,I≤9∧i= .int .i64 ((I:Int)-4)∧ls= .int .i64 (stS (cV t r x y) (9*J+I)).2∧SV w B Q g4 r b l d (blkL t x y 0 0) (stS (cV t r x y) (9*J+I)).1 wr) (fun i _ _=>(5-intOf i).toNat)
   case atStart=>exact⟨0,by omega,by congr 1,by rw[Hls1.out];rfl,V8⟩
   case round =>
    obtain⟨I,hI,rfl,rfl,VJ⟩:=hrel;clear V8 Hls1
    by_cases hli:I<9
    ·have hdi:decide ((I:Int)-4≤4)=true:=by simp;omega
     obtain⟨hsc,hbx⟩:=HC.out (9*J+I) (by omega);have hnx:stS (cV t r x y) (9*J+I+1)=nxS (cV t r x y) (stS (cV t r x y) (9*J+I)) (vat (9*J+I)):=rfl;rw[Q8 hli]at hnx;obtain⟨⟨⟨bu,bv⟩,ls⟩,hst⟩:∃ s,s=stS (cV t r x y) (9*J+I):=⟨_,rfl⟩;rw[←hst]at hsc hbx hnx VJ⊢;simp only at hsc hbx VJ⊢;obtain⟨u,hu⟩:∃ u:Int,u=(I:Int)-4:=⟨_,rfl⟩;obtain⟨v,hv⟩:∃ v:Int,v=(J:Int)-4:=⟨_,rfl⟩;rw[←hu,←hv]at hnx;rw[←hu,←hv];rw[←hu]at hdi;have hur : -4≤u∧u≤4:=by omega
     have hvr : -4≤v∧v≤4:=by omega
     unfold boxV at hbx;have hls:=HR.out bu bv;rw[←hsc]at hls;have hC:=HR.out u v;have HCd:=Aa (show sadS (blkL t x y 0 0) (blkL r x y u v) 64=cV t r x y u v from rfl);unfold nxS at hnx;simp only at hnx;obtain⟨C,hC0⟩:∃ C,C=cV t r x y u v:=⟨_,rfl⟩;rw[←hC0]at hC hnx HCd;have Hu:=Aa hu;have Hv:=Aa hv;clear hst hsc hu hv hC0;have HNX:=Aa hnx;clear hnx;have b1:=Aj wr (.cells #[.int .i64 u,.int .i64 v] 45);have ea:=Ext.alloc wr (.cells #[.int .i64 u,.int .i64 v] 45);have V9:=VJ.e ea;obtain⟨VB,hVB⟩:∃ q,q=wr.heap.size:=⟨_,rfl⟩;rw[←hVB]at b1;go_upto_region 11 with fail
     rw[←hVB];clear hVB;generalize wr.alloc (.cells #[.int .i64 u,.int .i64 v] 45)=w9 at *;obtain⟨-,k1,k2,k3,-⟩:=bx3 V9.rf;obtain⟨-,r0,r1,-⟩:=bx2 b1;go_wp2_with fail
     refine(BE r x y u v b d l _ hrv HL.out (su.ext V9.ex) (by omega) (by omega) (by omega) (by omega) (by omega) (by omega) (by omega) (by omega)).mono ?_
     rintro e w10 ⟨a6,c6,rfl,o6,e6⟩
     obtain⟨g6,rfl⟩:=Bq o6 (by omega);have V10:=V9.e e6;have E10:=ea.trans e6;have b2:=e6.blk b1;clear V9 e6 k1 k2 k3 r0 r1 ea b1;go_wp2_with fail
     refine(Kz _ _ g4 g6 c4 c6 _ V10.sl (Sl.of_owns o6) smT.out (smR.out u v) (AQ _ _ _ _ _) (AQ _ _ _ _ _)).mono ?_
     rintro e w11 ⟨rfl,e7⟩
     rw[HCd.out];have V11:=V10.e e7;have HVb:=Aa (e7.blk b2);clear V10 VJ e7 o6 E10 b2 HCd
     by_cases h1:C<ls
     ·have Hnx:=Aa (HNX.out.trans (if_pos (.inl h1)));have f1:decide (C<ls)=true:=by simpa using h1
      clear HNX;go_upto_region 12 with fail
      refine An (by kernel_rfl) [(55,0),(56,1),(57,2),(58,3),(59,4),(60,5),(61,6),(62,7),(63,8),(64,9),(65,10),(66,11),(67,12),(68,13),(69,14)] [[],[],[0,1],[0,1,2],[0,1,2,3],[0,1,2,3],[0,1,2,3,4,5],[0,1,2,3,4,5,6],[0,1,2,3,4,5,6,7],[0,1,2,3,4,5,6,7,8],[0,1,2,3,4,5,6,7],[0,1,2,3,4,5,6,7,8,9,10],[0,1,2,3,4,5,6,7,8,9,10,11],[0,1,2,3,4,5,6,7,8,9,10,11,12],[0,1,2,3,4,5,6,7,8,9,10,11,12,13]] (fun i own ys wx=>match i with|0=>own= .int .i64 C|1=>own= .int .i64 ls|2=>own= .bool true|3=>own= .bool true|4=>True|5=>True|6=>True|7=>own=undef|8=>True|9=>True|10=>True|11=>True|12=>True|13=>True|14=>own= .bool true|_=>True) (fun kx wx=>Ext w11 wx) (by kernel_rfl) (by kernel_rfl) (by kernel_rfl) ?g0_r2 ?gop_r2 ?gend_r2
      case g0_r2=>exact Ext.drewN _ 1
      case gop_r2 =>
       refine⟨?_,?_,?o2,?o3,?o4,?o5,?o6,?o7,?o8,?o9,?o10,?o11,?o12,?o13,?o14,trivial⟩ <;> (intro kx xs wx hk hG hD hI Qo Kx hK hQo;simp only[Ad,Nat.reduceAdd,Nat.reduceEqDiff,↓reduceIte]at hQo⊢)
       case o2 =>
        rw[ddq (hD 0 rfl),ddq (hD 1 rfl)]at hQo⊢;clear hD hI;go_wp2;exact hK.out _ _ ⟨rfl,hG,kkp⟩
       case o3 =>
        rw[ddq (hD 2 rfl)]at hQo⊢;clear hD hI;go_wp2;exact hK.out _ _ ⟨rfl,hG,kkp⟩
       case o4 =>
        rw[ddq (hD 3 rfl)]at hQo⊢;clear hD hI;go_wp2;exact hK.out _ _ ⟨trivial,hG,fun _ _ _ _ _ _ h=>h⟩
       case o5 =>
        rw[ddq (hD 3 rfl)]at hQo⊢;clear hD hI;go_wp2;exact hK.out _ _ ⟨trivial,hG,fun _ _ _ _ _ _ h=>h⟩
       case o6 =>
        rw[ddq (hD 3 rfl)]at hQo⊢;have d4:True:=hD 4 rfl;have d5:True:=hD 5 rfl;clear hD hI;generalize xs 4=y4 at *;generalize xs 5=y5 at *;go_wp2;exact hK.out _ _ ⟨trivial,hG,fun _ _ _ _ _ _ h=>h⟩
       case o7 =>
        rw[ddq (hD 3 rfl)]at hQo⊢;have d6:True:=hD 6 rfl;clear hD hI;generalize xs 6=y6 at *;go_wp2;exact hK.out _ _ ⟨rfl,hG,kkp⟩
       case o8 =>
        rw[ddq (hD 7 rfl)]at hQo⊢;clear hD hI;go_wp2;exact hK.out _ _ ⟨trivial,hG,fun _ _ _ _ _ _ h=>h⟩
       case o9 =>
        rw[ddq (hD 7 rfl)]at hQo⊢;have d8:True:=hD 8 rfl;clear hD hI;generalize xs 8=y8 at *;go_wp2;exact hK.out _ _ ⟨trivial,hG,fun _ _ _ _ _ _ h=>h⟩
       case o10 =>
        rw[ddq (hD 7 rfl)]at hQo⊢;clear hD hI;go_wp2;exact hK.out _ _ ⟨trivial,hG,fun _ _ _ _ _ _ h=>h⟩
       case o11 =>
        rw[ddq (hD 7 rfl)]at hQo⊢;have d10:True:=hD 10 rfl;clear hD hI;generalize xs 10=y10 at *;go_wp2;exact hK.out _ _ ⟨trivial,hG,fun _ _ _ _ _ _ h=>h⟩
       case o12 =>
        rw[ddq (hD 7 rfl)]at hQo⊢;have d9:True:=hD 9 rfl;have d11:True:=hD 11 rfl;clear hD hI;generalize xs 9=y9 at *;generalize xs 11=y11 at *;go_wp2;exact hK.out _ _ ⟨trivial,hG,fun _ _ _ _ _ _ h=>h⟩
       case o13 =>
        rw[ddq (hD 7 rfl),ddq (hD 3 rfl)]at hQo⊢;have d12:True:=hD 12 rfl;clear hD hI;generalize xs 12=y12 at *;go_wp2;exact hK.out _ _ ⟨trivial,hG,fun _ _ _ _ _ _ h=>h⟩
       case o14 =>
        rw[ddq (hD 3 rfl)]at hQo⊢;have d13:True:=hD 13 rfl;clear hD hI;generalize xs 13=y13 at *;go_wp2;exact hK.out _ _ ⟨rfl,hG,kkp⟩
       all_goals
        clear hD hI;go_wp2;exact hK.out _ _ ⟨rfl,hG,kkp⟩
      intro xs wx hV hG;have d14:_=_:=hV 14 (by decide);clear hV;simp only[Ad,Nat.reduceAdd,Nat.reduceEqDiff,↓reduceIte];generalize xs 0=y0,xs 1=y1,xs 2=y2,xs 3=y3,xs 4=y4,xs 5=y5,xs 6=y6,xs 7=y7,xs 8=y8,xs 9=y9,xs 10=y10,xs 11=y11,xs 12=y12,xs 13=y13,xs 14=y14 at *
      replace hG:Ext w11 wx:=hG
      subst d14;have VK:=V11.e hG;obtain⟨-,q0,q1,p0,p1⟩:=bx2 VK.be;obtain⟨-,r0,r1,-⟩:=bx2 (hG.blk HVb.out);have VN:=VK.set u v hwQ hBQ hgQ;go_wp2;go_roundw
      case rel=>exact⟨I+1,by omega,by have:=Hu.out;congr 1;omega,by rw[←Nat.add_assoc,Hnx.out],by rw[←Nat.add_assoc,Hnx.out];exact VN⟩
      case measure=>simp[intOf];omega
     ·have f1:decide (C<ls)=false:=by simpa using h1
      by_cases h2:C=ls
      ·have f2:(C == ls)=true:=by simpa using h2
       by_cases h3:ab u v<ab bu bv
       ·have Hnx:=Aa (HNX.out.trans (if_pos (.inr ⟨h2,h3⟩)));have Hab:=Aa (show decide (ab u v<ab bu bv)=true by simpa using h3);clear HNX h2 h3;go_upto_region 12 with fail
        refine An (by kernel_rfl) [(55,0),(56,1),(57,2),(58,3),(59,4),(60,5),(61,6),(62,7),(63,8),(64,9),(65,10),(66,11),(67,12),(68,13),(69,14)] [[],[],[0,1],[0,1,2],[0,1,2,3],[0,1,2,3],[0,1,2,3,4,5],[0,1,2,3,4,5,6],[0,1,2,3,4,5,6,7],[0,1,2,3,4,5,6,7,8],[0,1,2,3,4,5,6,7],[0,1,2,3,4,5,6,7,8,9,10],[0,1,2,3,4,5,6,7,8,9,10,11],[0,1,2,3,4,5,6,7,8,9,10,11,12],[0,1,2,3,4,5,6,7,8,9,10,11,12,13]] (fun i own ys wx=>match i with|0=>own= .int .i64 C|1=>own= .int .i64 ls|2=>own= .bool false|3=>own= .bool false|4=>own= .int .i64 C|5=>own= .int .i64 ls|6=>own= .bool true|7=>own= .bool true|8=>own= .agg #[.int .i64 u,.int .i64 v]|9=>own= .int .i64 (ab u v)|10=>own= .agg #[.int .i64 bu,.int .i64 bv]|11=>own= .int .i64 (ab bu bv)|12=>own= .bool true|13=>own= .bool true|14=>own= .bool true|_=>True) (fun kx wx=>Ext w11 wx) (by kernel_rfl) (by kernel_rfl) (by kernel_rfl) ?g0_r3 ?gop_r3 ?gend_r3
        case g0_r3=>exact Ext.drewN _ 1
        case gop_r3 =>
         refine⟨?_,?_,?o2,?o3,?o4,?o5,?o6,?o7,?o8,?o9,?o10,?o11,?o12,?o13,?o14,trivial⟩ <;> (intro kx xs wx hk hG hD hI Qo Kx hK hQo;simp only[Ad,Nat.reduceAdd,Nat.reduceEqDiff,↓reduceIte]at hQo⊢)
         case o2 =>
          rw[ddq (hD 0 rfl),ddq (hD 1 rfl)]at hQo⊢;clear hD hI;go_wp2;exact hK.out _ _ ⟨rfl,hG,kkp⟩
         case o3 =>
          rw[ddq (hD 2 rfl)]at hQo⊢;clear hD hI;go_wp2;exact hK.out _ _ ⟨rfl,hG,kkp⟩
         case o4 =>
          rw[ddq (hD 3 rfl)]at hQo⊢;clear hD hI;go_wp2;exact hK.out _ _ ⟨rfl,hG,kkp⟩
         case o5 =>
          rw[ddq (hD 3 rfl)]at hQo⊢;clear hD hI;go_wp2;exact hK.out _ _ ⟨rfl,hG,kkp⟩
         case o6 =>
          rw[ddq (hD 4 rfl),ddq (hD 5 rfl),ddq (hD 3 rfl)]at hQo⊢;clear hD hI;go_wp2;exact hK.out _ _ ⟨rfl,hG,kkp⟩
         case o7 =>
          rw[ddq (hD 6 rfl),ddq (hD 3 rfl)]at hQo⊢;clear hD hI;go_wp2;exact hK.out _ _ ⟨rfl,hG,kkp⟩
         case o8 =>
          rw[ddq (hD 7 rfl)]at hQo⊢;clear hD hI;obtain⟨-,q0,q1,-⟩:=bx2 (hG.blk HVb.out);go_wp2;exact hK.out _ _ ⟨rfl,hG,kkp⟩
         case o9 =>
          rw[ddq (hD 8 rfl),ddq (hD 7 rfl)]at hQo⊢;clear hD hI;go_wp2_with fail
          refine(Gj u v _ (by omega) (by omega) (by omega) (by omega)).mono ?_
          rintro e wz ⟨rfl,ez⟩
          go_wp2;exact hK.out _ _ ⟨rfl,hG.trans ez,fun _ _ _ _ _ _ h=>h⟩
         case o10 =>
          rw[ddq (hD 7 rfl)]at hQo⊢;clear hD hI;obtain⟨-,q0,q1,-⟩:=bx2 ((V11.e hG).be);go_wp2;exact hK.out _ _ ⟨rfl,hG,kkp⟩
         case o11 =>
          rw[ddq (hD 10 rfl),ddq (hD 7 rfl)]at hQo⊢;clear hD hI;go_wp2_with fail
          refine(Gj bu bv _ (by omega) (by omega) (by omega) (by omega)).mono ?_
          rintro e wz ⟨rfl,ez⟩
          go_wp2;exact hK.out _ _ ⟨rfl,hG.trans ez,fun _ _ _ _ _ _ h=>h⟩
         case o12 =>
          rw[ddq (hD 9 rfl),ddq (hD 11 rfl),ddq (hD 7 rfl)]at hQo⊢;clear hD hI;go_wp2;exact hK.out _ _ ⟨by rw[Hab.out],hG,fun _ _ _ _ _ _ h=>h⟩
         case o13 =>
          rw[ddq (hD 7 rfl),ddq (hD 12 rfl),ddq (hD 3 rfl)]at hQo⊢;clear hD hI;go_wp2;exact hK.out _ _ ⟨rfl,hG,kkp⟩
         case o14 =>
          rw[ddq (hD 3 rfl),ddq (hD 13 rfl)]at hQo⊢;clear hD hI;go_wp2;exact hK.out _ _ ⟨rfl,hG,kkp⟩
         all_goals
          clear hD hI;go_wp2;exact hK.out _ _ ⟨rfl,hG,kkp⟩
        intro xs wx hV hG;have d14:_=_:=hV 14 (by decide);clear hV;simp only[Ad,Nat.reduceAdd,Nat.reduceEqDiff,↓reduceIte];generalize xs 0=y0,xs 1=y1,xs 2=y2,xs 3=y3,xs 4=y4,xs 5=y5,xs 6=y6,xs 7=y7,xs 8=y8,xs 9=y9,xs 10=y10,xs 11=y11,xs 12=y12,xs 13=y13,xs 14=y14 at *
        replace hG:Ext w11 wx:=hG
        subst d14;have VK:=V11.e hG;obtain⟨-,q0,q1,p0,p1⟩:=bx2 VK.be;obtain⟨-,r0,r1,-⟩:=bx2 (hG.blk HVb.out);have VN:=VK.set u v hwQ hBQ hgQ;go_wp2;go_roundw
        case rel=>exact⟨I+1,by omega,by have:=Hu.out;congr 1;omega,by rw[←Nat.add_assoc,Hnx.out],by rw[←Nat.add_assoc,Hnx.out];exact VN⟩
        case measure=>simp[intOf];omega
       ·have Hnx:=Aa (HNX.out.trans (if_neg (fun h=>h.elim h1 (fun h=>h3 h.2))));have Hab:=Aa (show decide (ab u v<ab bu bv)=false by simpa using h3);clear HNX h2 h3;go_upto_region 12 with fail
        refine An (by kernel_rfl) [(55,0),(56,1),(57,2),(58,3),(59,4),(60,5),(61,6),(62,7),(63,8),(64,9),(65,10),(66,11),(67,12),(68,13),(69,14)] [[],[],[0,1],[0,1,2],[0,1,2,3],[0,1,2,3],[0,1,2,3,4,5],[0,1,2,3,4,5,6],[0,1,2,3,4,5,6,7],[0,1,2,3,4,5,6,7,8],[0,1,2,3,4,5,6,7],[0,1,2,3,4,5,6,7,8,9,10],[0,1,2,3,4,5,6,7,8,9,10,11],[0,1,2,3,4,5,6,7,8,9,10,11,12],[0,1,2,3,4,5,6,7,8,9,10,11,12,13]] (fun i own ys wx=>match i with|0=>own= .int .i64 C|1=>own= .int .i64 ls|2=>own= .bool false|3=>own= .bool false|4=>own= .int .i64 C|5=>own= .int .i64 ls|6=>own= .bool true|7=>own= .bool true|8=>own= .agg #[.int .i64 u,.int .i64 v]|9=>own= .int .i64 (ab u v)|10=>own= .agg #[.int .i64 bu,.int .i64 bv]|11=>own= .int .i64 (ab bu bv)|12=>own= .bool false|13=>own= .bool false|14=>own= .bool false|_=>True) (fun kx wx=>Ext w11 wx) (by kernel_rfl) (by kernel_rfl) (by kernel_rfl) ?g0_r4 ?gop_r4 ?gend_r4
        case g0_r4=>exact Ext.drewN _ 1
        case gop_r4 =>
         refine⟨?_,?_,?o2,?o3,?o4,?o5,?o6,?o7,?o8,?o9,?o10,?o11,?o12,?o13,?o14,trivial⟩ <;> (intro kx xs wx hk hG hD hI Qo Kx hK hQo;simp only[Ad,Nat.reduceAdd,Nat.reduceEqDiff,↓reduceIte]at hQo⊢)
         case o2 =>
          rw[ddq (hD 0 rfl),ddq (hD 1 rfl)]at hQo⊢;clear hD hI;go_wp2;exact hK.out _ _ ⟨rfl,hG,kkp⟩
         case o3 =>
          rw[ddq (hD 2 rfl)]at hQo⊢;clear hD hI;go_wp2;exact hK.out _ _ ⟨rfl,hG,kkp⟩
         case o4 =>
          rw[ddq (hD 3 rfl)]at hQo⊢;clear hD hI;go_wp2;exact hK.out _ _ ⟨rfl,hG,kkp⟩
         case o5 =>
          rw[ddq (hD 3 rfl)]at hQo⊢;clear hD hI;go_wp2;exact hK.out _ _ ⟨rfl,hG,kkp⟩
         case o6 =>
          rw[ddq (hD 4 rfl),ddq (hD 5 rfl),ddq (hD 3 rfl)]at hQo⊢;clear hD hI;go_wp2;exact hK.out _ _ ⟨rfl,hG,kkp⟩
         case o7 =>
          rw[ddq (hD 6 rfl),ddq (hD 3 rfl)]at hQo⊢;clear hD hI;go_wp2;exact hK.out _ _ ⟨rfl,hG,kkp⟩
         case o8 =>
          rw[ddq (hD 7 rfl)]at hQo⊢;clear hD hI;obtain⟨-,q0,q1,-⟩:=bx2 (hG.blk HVb.out);go_wp2;exact hK.out _ _ ⟨rfl,hG,kkp⟩
         case o9 =>
          rw[ddq (hD 8 rfl),ddq (hD 7 rfl)]at hQo⊢;clear hD hI;go_wp2_with fail
          refine(Gj u v _ (by omega) (by omega) (by omega) (by omega)).mono ?_
          rintro e wz ⟨rfl,ez⟩
          go_wp2;exact hK.out _ _ ⟨rfl,hG.trans ez,fun _ _ _ _ _ _ h=>h⟩
         case o10 =>
          rw[ddq (hD 7 rfl)]at hQo⊢;clear hD hI;obtain⟨-,q0,q1,-⟩:=bx2 ((V11.e hG).be);go_wp2;exact hK.out _ _ ⟨rfl,hG,kkp⟩
         case o11 =>
          rw[ddq (hD 10 rfl),ddq (hD 7 rfl)]at hQo⊢;clear hD hI;go_wp2_with fail
          refine(Gj bu bv _ (by omega) (by omega) (by omega) (by omega)).mono ?_
          rintro e wz ⟨rfl,ez⟩
          go_wp2;exact hK.out _ _ ⟨rfl,hG.trans ez,fun _ _ _ _ _ _ h=>h⟩
         case o12 =>
          rw[ddq (hD 9 rfl),ddq (hD 11 rfl),ddq (hD 7 rfl)]at hQo⊢;clear hD hI;go_wp2;exact hK.out _ _ ⟨by rw[Hab.out],hG,fun _ _ _ _ _ _ h=>h⟩
         case o13 =>
          rw[ddq (hD 7 rfl),ddq (hD 12 rfl),ddq (hD 3 rfl)]at hQo⊢;clear hD hI;go_wp2;exact hK.out _ _ ⟨rfl,hG,kkp⟩
         case o14 =>
          rw[ddq (hD 3 rfl),ddq (hD 13 rfl)]at hQo⊢;clear hD hI;go_wp2;exact hK.out _ _ ⟨rfl,hG,kkp⟩
         all_goals
          clear hD hI;go_wp2;exact hK.out _ _ ⟨rfl,hG,kkp⟩
        intro xs wx hV hG;have d14:_=_:=hV 14 (by decide);clear hV;simp only[Ad,Nat.reduceAdd,Nat.reduceEqDiff,↓reduceIte];generalize xs 0=y0,xs 1=y1,xs 2=y2,xs 3=y3,xs 4=y4,xs 5=y5,xs 6=y6,xs 7=y7,xs 8=y8,xs 9=y9,xs 10=y10,xs 11=y11,xs 12=y12,xs 13=y13,xs 14=y14 at *
        replace hG:Ext w11 wx:=hG
        subst d14;have VK:=V11.e hG;go_wp2;go_roundw
        case rel=>exact⟨I+1,by omega,by have:=Hu.out;congr 1;omega,by rw[←Nat.add_assoc,Hnx.out],by rw[←Nat.add_assoc,Hnx.out];exact VK⟩
        case measure=>simp[intOf];omega
      ·have f2:(C == ls)=false:=by simpa using h2
       have Hnx:=Aa (HNX.out.trans (if_neg (fun h=>h.elim h1 (fun h=>h2 h.1))));clear HNX h2;go_upto_region 12 with fail
       refine An (by kernel_rfl) [(55,0),(56,1),(57,2),(58,3),(59,4),(60,5),(61,6),(62,7),(63,8),(64,9),(65,10),(66,11),(67,12),(68,13),(69,14)] [[],[],[0,1],[0,1,2],[0,1,2,3],[0,1,2,3],[0,1,2,3,4,5],[0,1,2,3,4,5,6],[0,1,2,3,4,5,6,7],[0,1,2,3,4,5,6,7,8],[0,1,2,3,4,5,6,7],[0,1,2,3,4,5,6,7,8,9,10],[0,1,2,3,4,5,6,7,8,9,10,11],[0,1,2,3,4,5,6,7,8,9,10,11,12],[0,1,2,3,4,5,6,7,8,9,10,11,12,13]] (fun i own ys wx=>match i with|0=>own= .int .i64 C|1=>own= .int .i64 ls|2=>own= .bool false|3=>own= .bool false|4=>own= .int .i64 C|5=>own= .int .i64 ls|6=>own= .bool false|7=>own= .bool false|8=>True|9=>True|10=>True|11=>True|12=>True|13=>own= .bool false|14=>own= .bool false|_=>True) (fun kx wx=>Ext w11 wx) (by kernel_rfl) (by kernel_rfl) (by kernel_rfl) ?g0_r5 ?gop_r5 ?gend_r5
       case g0_r5=>exact Ext.drewN _ 1
       case gop_r5 =>
        refine⟨?_,?_,?o2,?o3,?o4,?o5,?o6,?o7,?o8,?o9,?o10,?o11,?o12,?o13,?o14,trivial⟩ <;> (intro kx xs wx hk hG hD hI Qo Kx hK hQo;simp only[Ad,Nat.reduceAdd,Nat.reduceEqDiff,↓reduceIte]at hQo⊢)
        case o2 =>
         rw[ddq (hD 0 rfl),ddq (hD 1 rfl)]at hQo⊢;clear hD hI;go_wp2;exact hK.out _ _ ⟨rfl,hG,kkp⟩
        case o3 =>
         rw[ddq (hD 2 rfl)]at hQo⊢;clear hD hI;go_wp2;exact hK.out _ _ ⟨rfl,hG,kkp⟩
        case o4 =>
         rw[ddq (hD 3 rfl)]at hQo⊢;clear hD hI;go_wp2;exact hK.out _ _ ⟨rfl,hG,kkp⟩
        case o5 =>
         rw[ddq (hD 3 rfl)]at hQo⊢;clear hD hI;go_wp2;exact hK.out _ _ ⟨rfl,hG,kkp⟩
        case o6 =>
         rw[ddq (hD 4 rfl),ddq (hD 5 rfl),ddq (hD 3 rfl)]at hQo⊢;clear hD hI;go_wp2;exact hK.out _ _ ⟨rfl,hG,kkp⟩
        case o7 =>
         rw[ddq (hD 6 rfl),ddq (hD 3 rfl)]at hQo⊢;clear hD hI;go_wp2;exact hK.out _ _ ⟨rfl,hG,kkp⟩
        case o8 =>
         rw[ddq (hD 7 rfl)]at hQo⊢;clear hD hI;go_wp2;exact hK.out _ _ ⟨trivial,hG,fun _ _ _ _ _ _ h=>h⟩
        case o9 =>
         rw[ddq (hD 7 rfl)]at hQo⊢;have d8:True:=hD 8 rfl;clear hD hI;generalize xs 8=y8 at *;go_wp2;exact hK.out _ _ ⟨trivial,hG,fun _ _ _ _ _ _ h=>h⟩
        case o10 =>
         rw[ddq (hD 7 rfl)]at hQo⊢;clear hD hI;go_wp2;exact hK.out _ _ ⟨trivial,hG,fun _ _ _ _ _ _ h=>h⟩
        case o11 =>
         rw[ddq (hD 7 rfl)]at hQo⊢;have d10:True:=hD 10 rfl;clear hD hI;generalize xs 10=y10 at *;go_wp2;exact hK.out _ _ ⟨trivial,hG,fun _ _ _ _ _ _ h=>h⟩
        case o12 =>
         rw[ddq (hD 7 rfl)]at hQo⊢;have d9:True:=hD 9 rfl;have d11:True:=hD 11 rfl;clear hD hI;generalize xs 9=y9 at *;generalize xs 11=y11 at *;go_wp2;exact hK.out _ _ ⟨trivial,hG,fun _ _ _ _ _ _ h=>h⟩
        case o13 =>
         rw[ddq (hD 7 rfl),ddq (hD 3 rfl)]at hQo⊢;have d12:True:=hD 12 rfl;clear hD hI;generalize xs 12=y12 at *;go_wp2;exact hK.out _ _ ⟨rfl,hG,kkp⟩
        case o14 =>
         rw[ddq (hD 3 rfl),ddq (hD 13 rfl)]at hQo⊢;clear hD hI;go_wp2;exact hK.out _ _ ⟨rfl,hG,kkp⟩
        all_goals
         clear hD hI;go_wp2;exact hK.out _ _ ⟨rfl,hG,kkp⟩
       intro xs wx hV hG;have d14:_=_:=hV 14 (by decide);clear hV;simp only[Ad,Nat.reduceAdd,Nat.reduceEqDiff,↓reduceIte];generalize xs 0=y0,xs 1=y1,xs 2=y2,xs 3=y3,xs 4=y4,xs 5=y5,xs 6=y6,xs 7=y7,xs 8=y8,xs 9=y9,xs 10=y10,xs 11=y11,xs 12=y12,xs 13=y13,xs 14=y14 at *
       replace hG:Ext w11 wx:=hG
       subst d14;have VK:=V11.e hG;go_wp2;go_roundw
       case rel=>exact⟨I+1,by omega,by have:=Hu.out;congr 1;omega,by rw[←Nat.add_assoc,Hnx.out],by rw[←Nat.add_assoc,Hnx.out];exact VK⟩
       case measure=>simp[intOf];omega
    ·obtain rfl:I=9:=by omega
     have hdi:decide (((9:Nat):Int)-4≤4)=false:=by decide
     have h9:9*J+9=9*(J+1):=by omega
     rw[h9]at VJ⊢;obtain⟨ls2,hls2⟩:∃ z,z=(stS (cV t r x y) (9*(J+1))).2:=⟨_,rfl⟩;rw[←hls2];have Hls2:=Aa hls2;clear hls2;go_wp2;go_roundw
     case rel=>exact⟨J+1,by omega,by congr 1;omega,by rw[Hls2.out],VJ⟩
     case measure=>simp[intOf];omega
  ·obtain rfl:J=9:=by omega
   have hd:decide (((9:Nat):Int)-4≤4)=false:=by decide
   obtain⟨z,hz⟩:∃ z,z=(stS (cV t r x y) 81).1:=⟨_,rfl⟩;rw[show 9*9=81 from rfl,←hz]at V8;have Hz:=Aa hz;clear hz;obtain⟨-,q0,q1,-⟩:=bx2 V8.be;obtain⟨-,r0,r1,p0,p1⟩:=bx2 V8.rs;have hres:=Ft (x' := .int .i64 z.1) (y' := .int .i64 z.2) V8.rs;have hext:=Ext.grown (Ext.grown V8.ex (Ax _ (B+1+1) 0 (.int .i64 z.1)) (fun k e=>by cases e;omega)) (Ax _ (B+1+1) 1 (.int .i64 z.2)) (fun k e=>by cases e;omega);go_wp2;exact bodyPost_ret (v := .agg #[.int .i64 z.1,.int .i64 z.2]) (results_cell_row rfl _ _ (B+1+1) 45 #[.int .i64 z.1,.int .i64 z.2] (0,0) _ rfl hres Rr rfl Av) rfl ⟨by rw[Hz.out],hext⟩
theorem Qs (pre L ys:List Int)(j:Nat):spl (pre++L) (pre.length+j) ys=pre++spl L j ys:=by
 unfold spl;rw[List.take_length_add_append,Nat.add_assoc,List.drop_length_add_append];simp
theorem Mac.spl_lv {m:Mac}(h:m.ok)(j:Nat)(ys:List Int):spl m.zs (7+j) ys=Mac.zs { m with lv:=spl m.lv j ys } := by
 have e:m.zs=(m.kind::m.x::m.y::m.modes)++m.lv:=by simp[Mac.zs]
 have l:(m.kind::m.x::m.y::m.modes).length=7:=by simp[h.modes]
 rw[e,←l,Qs];simp[Mac.zs]
theorem Bf : (Tryz.prog.info? 50).map (·.zero)=some (some (.agg (ic (zl 71)))):=by kernel_rfl
theorem Ls : Tryz.zeroCells50=ic (zl 71):=by kernel_rfl
theorem Ja : mac0.zs=zl 71:=by decide
def intL (t r:Pic)(x y:Nat)(vx vy:Int)(q:Nat):Nat→List Int
 | 0=>zl 64
 | k+1=>spl (intL t r x y vx vy q k) (k*16) (cod (dif (prt t ((x+k%2*4:Nat):Int) ((y+k/2*4:Nat):Int)) (pof (blkL r x y vx vy) (k%2*4) (k/2*4))) q)
theorem FH (t r:Pic)(x y:Nat)(vx vy:Int)(q:Nat){k:Nat}(hk:k≤4):(intL t r x y vx vy q k).length=64:=by
 induction k with
 | zero=>exact AB 64
 | succ k ih =>
  have h:=ih (by omega);unfold intL;rw[Gr (by rw[BF,h];omega),h]
def okI (t r:Pic)(x y vx vy q:Int):Prop:=AS t r∧BJ t x y∧vv vx vy∧(0≤q∧q≤15)
noncomputable instance (t r : Pic) (x y vx vy q : Int) : Decidable (okI t r x y vx vy q) := Classical.propDecidable _
noncomputable def Ri (t r : Pic)(x y vx vy q : Int): Mac := if okI t r x y vx vy q then ⟨1, vx, vy, Bn, intL t r x.toNat y.toNat vx vy q.toNat 4⟩ else mac0
def macI (vx vy:Int)(L:List Int):Mac:=⟨1,vx,vy,Bn,L⟩
theorem JH (vx vy:Int):((Tryz.zeroCells50.setIfInBounds 0 (.int .i64 1)).setIfInBounds 1 (.int .i64 vx)).setIfInBounds 2 (.int .i64 vy)=ic (macI vx vy (zl 64)).zs:=by kernel_rfl
theorem Dj (vx vy:Int){L:List Int}(h:L.length=64):(macI vx vy L).ok:=⟨rfl,h⟩
theorem Fj (t r:Pic)(x y:Nat)(vx vy:Int)(q:Nat)(a b:Option Addr)(c d n l:Nat)(w:World)(hT:TabQ w)(hn:n=t.px.length)(hl:l=r.px.length)(nc:n≤9223372036854775807)(lc:l≤9223372036854775807)(s:Sl w a n (t.px.map (Value.int .i64)))(u:Sl w b l (r.px.map (Value.int .i64)))(hrv:r.valid)(htv:t.valid)(hxx:x≤24)(hyy:y≤24)(hvv:vv vx vy)(hq:q<16)(h0:AS t r)(h1:(0≤(x:Int))∧((x:Int)<t.w)∧((x:Int)%8=0)∧(0≤(y:Int))∧((y:Int)<t.h)∧((y:Int)%8=0))(h2:vv vx vy)(h3:0≤(q:Int)∧(q:Int)≤15):
 Calls Tryz.prog 53 #[.agg #[.int .i64 t.w,.int .i64 t.h,.slice a n c],.agg #[.int .i64 r.w,.int .i64 r.h,.slice b l d],.int .i64 (x:Nat),.int .i64 (y:Nat),.agg #[.int .i64 vx,.int .i64 vy],.int .i64 (q:Nat)] w fun e w'=>e= .returned (.agg (ic (macI vx vy (intL t r x y vx vy q 4)).zs))∧Ext w w':=by
 have HN:=Aa hn;have HL:=Aa hl;clear hn hl;have D0:=Aa (show decide (AS t r)=true from decide_eq_true h0);have D1:=Aa (show decide ((0≤(x:Int))∧((x:Int)<t.w)∧((x:Int)%8=0)∧(0≤(y:Int))∧((y:Int)<t.h)∧((y:Int)%8=0))=true from decide_eq_true h1);have V2:=Aa h2;have Q3:=Aa h3;obtain⟨X0_0,X1_0,X2_0,X3_0,E_0⟩:=bxs4 w (.cells #[.int .i64 t.w,.int .i64 t.h,.slice a n c] 30) (.cells #[.int .i64 r.w,.int .i64 r.h,.slice b l d] 30) (.cells #[.int .i64 vx,.int .i64 vy] 45) (.cells (ic (zl 71)) 50);have X3_0:IB _ _ 50 (zl 71):=X3_0;clear h0 h1 h2 h3;obtain⟨-,k0_0,k0_1,k0_2,-⟩:=bx3 X0_0;obtain⟨-,k1_0,k1_1,k1_2,-⟩:=bx3 X1_0;obtain⟨-,k2_0,k2_1,-⟩:=bx2 X2_0;go_enter Tryz.func53,Tryz.ntmps53
 go_wp2_with (refine Au 50 rfl rfl 71 Bf ?_;(try simp only[World.size_alloc]))
 refine(Du t r a b c d n l _ HN.out HL.out nc lc (s.ext E_0) (u.ext E_0)).mono ?_;rw[D0.out]
 rintro e w_1 ⟨rfl,e_1⟩
 have X0_1:=e_1.blk X0_0;have X1_1:=e_1.blk X1_0;have X2_1:=e_1.blk X2_0;have X3_1:=X3_0.ext e_1;have E_1:=E_0.trans e_1;clear k0_0 k0_1 k0_2 X0_0 k1_0 k1_1 k1_2 X1_0 k2_0 k2_1 X2_0 X3_0 E_0 e_1;obtain⟨-,k0_0,k0_1,k0_2,-⟩:=bx3 X0_1;obtain⟨-,k1_0,k1_1,k1_2,-⟩:=bx3 X1_1;obtain⟨-,k2_0,k2_1,-⟩:=bx2 X2_1;go_wp2_with fail
 refine(Ev t x y a c n _).mono ?_;rw[D1.out]
 rintro e w_2 ⟨rfl,e_2⟩
 have X0_2:=e_2.blk X0_1;have X1_2:=e_2.blk X1_1;have X2_2:=e_2.blk X2_1;have X3_2:=X3_1.ext e_2;have E_2:=E_1.trans e_2;clear k0_0 k0_1 k0_2 X0_1 k1_0 k1_1 k1_2 X1_1 k2_0 k2_1 X2_1 X3_1 E_1 e_2;obtain⟨-,k0_0,k0_1,k0_2,-⟩:=bx3 X0_2;obtain⟨-,k1_0,k1_1,k1_2,-⟩:=bx3 X1_2;obtain⟨-,k2_0,k2_1,-⟩:=bx2 X2_2;go_wp2_with fail
 refine(AL vx vy _ V2.out).mono ?_
 rintro e w_3 ⟨rfl,e_3⟩
 have X0_3:=e_3.blk X0_2;have X1_3:=e_3.blk X1_2;have X2_3:=e_3.blk X2_2;have X3_3:=X3_2.ext e_3;have E_3:=E_2.trans e_3;clear k0_0 k0_1 k0_2 X0_2 k1_0 k1_1 k1_2 X1_2 k2_0 k2_1 X2_2 X3_2 E_2 e_3;obtain⟨-,k0_0,k0_1,k0_2,-⟩:=bx3 X0_3;obtain⟨-,k1_0,k1_1,k1_2,-⟩:=bx3 X1_3;obtain⟨-,k2_0,k2_1,-⟩:=bx2 X2_3;go_wp2_with fail
 refine(KD q _ Q3.out).mono ?_
 rintro e w_s3 ⟨rfl,rfl⟩
 have hlo:=X3_3.lt;obtain⟨B,hB⟩:∃ B,B=w.heap.size:=⟨_,rfl⟩;rw[←hB]at X0_3 X1_3 X2_3 X3_3 hlo⊢;have hwB:w.heap.size≤B:=by omega
 have HB:=Aa hB;clear hB k2_0 k2_1;obtain⟨-,k2_0,k2_1,-⟩:=bx2 X2_3;have ia:=IB.new w_3 50 (zl 71);have ea:=Ext.alloc w_3 (.cells (ic (zl 71)) 50);have Y0:=ea.blk X0_3;have Y1:=ea.blk X1_3;have Y2:=ea.blk X2_3;have Y3:=X3_3.ext ea;have F0:=E_3.trans ea;clear X0_3 X1_3 X2_3 X3_3 E_3 ea k0_0 k0_1 k0_2 k1_0 k1_1 k1_2;obtain⟨O,hO⟩:∃ O,O=w_3.heap.size:=⟨_,rfl⟩;go_wp2_with (first|(refine Au 50 rfl rfl 71 Bf ?_;(try simp only[World.size_alloc]))|(refine Af 50 _ _ rfl rfl ia 0 71 rfl _ rfl (macI vx vy (zl 64)).zs (by exact JH vx vy) Ah (Mac.zs_len (Dj vx vy (AB 64))) (by simp[zl]) ?_;intro w5 i5 g5;refine Hid.out ?_))
 rw[Ap (by rw[Mac.zs_len (Dj vx vy (AB 64)),AB])]at i5;rw[←hO]at i5 g5 hlo⊢;have HO:=Aa hO;clear hO ia;have Z0:=Ar Y0 g5 (by simp;omega);have Z1:=Ar Y1 g5 (by simp;omega);have Z2:=Ar Y2 g5 (by simp;omega);have Z3:=Y3.gr g5 (by simp;omega);have F1:Ext w w5:=Ext.grown F0 g5 (fun k e=>by cases e;omega);clear Y0 Y1 Y2 Y3 F0 g5 k2_0 k2_1;refine Aa ?_;obtain⟨-,k1,k2,k3,-⟩:=bx3 Z1;obtain⟨-,k4,k5,-⟩:=bx2 Z2;go_wp2_with fail
 refine(Gl r x y vx vy b d l _ hrv HL.out (u.ext F1) (by omega) (by omega) (by omega) (by omega) hvv.1 hvv.2.1 hvv.2.2.1 hvv.2.2.2).mono ?_
 rintro e w6 ⟨a6,c6,rfl,o6,e6⟩
 have hO5:=i5.lt;have S6ne:∀ z,a6=some z→z.block≠O:=fun z hz=>by have:=(o6.lt z.block (by rw[hz];rfl)).1;omega
 have hBO:B+1+1+1<O:=hlo;have S6:=Sl.of_owns o6;have G0:=e6.blk Z0;have G3:=Z3.ext e6;have j6:=i5.ext e6;have F2:=F1.trans e6;clear Z0 Z1 Z2 Z3 F1 i5 e6 o6 k1 k2 k3 k4 k5 hvv hlo;go_wp2_with fail
 go_loopw [47] (fun i wr=>∃ k:Nat,k≤4∧i= .int .i64 k∧Ext w wr∧Hid (wr.heap[B]?=some (.cells #[.int .i64 t.w,.int .i64 t.h,.slice a n c] 30 (0,0)))∧IB wr (B+1+1+1) 50 (zl 71)∧IB wr O 50 (macI vx vy (intL t r x y vx vy q k)).zs∧Hid (Sl wr a6 64 ((blkL r x y vx vy).map (Value.int .i64)))) (fun i _=>4-(intOf i).toNat)
 case atStart=>exact⟨0,by omega,rfl,F2,Aa G0,G3,j6,Aa S6⟩
 case round =>
  obtain⟨k,hk,rfl,F3,H0,H3,jk,Sk⟩:=hrel;clear F2 G0 G3 j6 S6;have hLl:=FH t r x y vx vy q hk;have Hzl:=Aa (Mac.zs_len (Dj vx vy hLl))
  by_cases hlt:k<4
  ·have hd:decide ((k:Int)<4)=true:=by simp;omega
   have hst:=Mac.spl_lv (Dj vx vy hLl) (k*16) (cod (dif (prt t ((x+k%2*4:Nat):Int) ((y+k/2*4:Nat):Int)) (pof (blkL r x y vx vy) (k%2*4) (k/2*4))) q);have Hst:=Aa (show spl (macI vx vy (intL t r x y vx vy q k)).zs (7+k*16) (cod (dif (prt t ((x+k%2*4:Nat):Int) ((y+k/2*4:Nat):Int)) (pof (blkL r x y vx vy) (k%2*4) (k/2*4))) q)=(macI vx vy (intL t r x y vx vy q (k+1))).zs from hst);have hxi:(x:Int)+(k:Int)%2*4=((x+k%2*4:Nat):Int):=by omega
   have hyj:(y:Int)+(k:Int)/2*4=((y+k/2*4:Nat):Int):=by omega
   obtain⟨xi,hxie⟩:∃ v,v=x+k%2*4:=⟨_,rfl⟩;obtain⟨yj,hyje⟩:∃ v,v=y+k/2*4:=⟨_,rfl⟩;rw[←hxie]at hxi Hst;rw[←hyje]at hyj Hst;have hxb:xi≤100:=by omega
   have hyb:yj≤100:=by omega
   have Hxi:=Aa hxi;have Hyj:=Aa hyj;clear hst hxi hyj hxie hyje hLl;obtain⟨-,k1,k2,k3,-⟩:=bx3 H0.out;go_wp2_with fail
   refine(DL k _ hlt).mono ?_
   rintro e wx1 ⟨rfl,rfl⟩
   go_wp2_with fail
   rw[Hxi.out,Hyj.out];refine(Me t (xi:Int) (yj:Int) a c n _ htv HN.out (s.ext F3) (by omega) (by omega) (by omega) (by omega)).mono ?_
   rintro e w7 ⟨rfl,e7⟩
   have F4:=F3.trans e7;have L0:=e7.blk H0.out;have L3:=H3.ext e7;have jl:=jk.ext e7;have Sl7:=Sk.out.ext e7;clear F3 H0 H3 jk Sk e7 k1 k2 k3;go_wp2_with fail
   refine(GX (blkL r x y vx vy) (k%2*4) (k/2*4) (by omega) (by omega) a6 c6 _ Sl7).mono ?_
   rintro e w8 ⟨rfl,e8⟩
   have F5:=F4.trans e8;have M0:=e8.blk L0;have M3:=L3.ext e8;have jm:=jl.ext e8;have Sl8:=Sl7.ext e8;clear F4 L0 L3 jl Sl7 e8;have hsp:=Gp htv (xi:Int) (yj:Int);have hsq:=Gm (Bz hrv x y vx vy) (AQ r x y vx vy) (i:=k%2*4) (j:=k/2*4) (by omega) (by omega);have hl1:=CO t (xi:Int) (yj:Int);have hl2:=BX (blkL r x y vx vy) (k%2*4) (k/2*4);obtain⟨U,hU⟩:∃ U,U=prt t (xi:Int) (yj:Int):=⟨_,rfl⟩;obtain⟨V,hV⟩:∃ V,V=pof (blkL r x y vx vy) (k%2*4) (k/2*4):=⟨_,rfl⟩;rw[←hU]at hsp hl1 Hst⊢;rw[←hV]at hsq hl2 Hst⊢;have Hsp:=Aa hsp;have Hsq:=Aa hsq;have Hl1:=Aa hl1;have Hl2:=Aa hl2;clear hU hV hsp hsq hl1 hl2;go_wp2_with fail
   refine(Dw U V _ Hl1.out Hl2.out (Cf Hsp.out) (Cf Hsq.out)).mono ?_
   rintro e w9 ⟨rfl,e9⟩
   have F6:=F5.trans e9;have N0:=e9.blk M0;have N3:=M3.ext e9;have jn:=jm.ext e9;have Sl9:=Sl8.ext e9;clear F5 M0 M3 jm Sl8 e9;go_wp2_with fail
   refine(DC (dif U V) q _ (hT.ext F6) (Bo _ _) (Cm Hsp.out Hsq.out Hl1.out Hl2.out) hq).mono ?_
   rintro e wa ⟨rfl,ea⟩
   have F7:=F6.trans ea;have P0:=ea.blk N0;have P3:=N3.ext ea;have jp:=jn.ext ea;have Sla:=Sl9.ext ea;clear F6 N0 N3 jn Sl9 ea;have Hcl:=Aa (BF (dif U V) q);go_wp2_with (refine Af 47 _ _ rfl rfl jp (7+k*16) 16 rfl _ rfl (cod (dif U V) q) rfl Ag Hcl.out (by rw[Hzl.out];omega) ?_;intro wb jb gb;refine Hid.out ?_)
   rw[Hst.out]at jb;have hOB:B+1+1+1<O:=hBO;have F8:Ext w wb:=Ext.grown F7 gb (fun q hq=>by cases hq;omega);have R0:=Ar P0 gb (by simp;omega);have R3:=P3.gr gb (by simp;omega);have Slb:=Sla.grown gb (fun z hz=>by have:=S6ne z hz;intro e;exact this (by simpa using e));clear F7 P0 P3 jp Sla gb;refine Aa ?_;go_wp2;go_roundw
   case rel=>exact⟨k+1,by omega,by go_num,F8,Aa R0,R3,jb,Aa Slb⟩
   case measure=>simp[intOf];omega
  ·obtain rfl:k=4:=by omega
   go_wp2_with (first|(refine Ab 50 _ rfl rfl jk 0 71 rfl _ Ro rfl Ah (by rw[Hzl.out];omega) _ (by rw[Ak _ _ (Hzl.out)]) ?_)|(refine Af 50 _ _ rfl rfl H3 0 71 rfl _ rfl (macI vx vy (intL t r x y vx vy q 4)).zs rfl Ah (Hzl.out) (by simp[zl]) ?_;intro w6 p6 g6;refine Hid.out ?_))
   rw[Ap (by rw[Hzl.out,AB])]at p6;have E6:Ext w w6:=Ext.grown F3 g6 (fun q hq=>by cases hq;omega);refine Aa ?_;go_wp2;exact bodyPost_ret (v := .agg (ic (macI vx vy (intL t r x y vx vy q 4)).zs)) (results_cell_row rfl _ _ (B+1+1+1) 50 (ic (macI vx vy (intL t r x y vx vy q 4)).zs) (0,0) _ rfl p6 Ro rfl (by rw[AJ,Hzl.out];exact Ah)) rfl ⟨rfl,E6⟩
theorem LV (t r:Pic)(x y:Nat)(vx vy:Int)(q:Nat)(a b:Option Addr)(c d n l:Nat)(w:World)(hn:n=t.px.length)(hl:l=r.px.length)(nc:n≤9223372036854775807)(lc:l≤9223372036854775807)(s:Sl w a n (t.px.map (Value.int .i64)))(u:Sl w b l (r.px.map (Value.int .i64)))(hrv:r.valid)(htv:t.valid)(hxx:x≤24)(hyy:y≤24)(hvv:vv vx vy)(hq:q<16):
 Calls Tryz.prog 79 #[.agg #[.int .i64 t.w,.int .i64 t.h,.slice a n c],.agg #[.int .i64 r.w,.int .i64 r.h,.slice b l d],.int .i64 (x:Nat),.int .i64 (y:Nat),.agg #[.int .i64 vx,.int .i64 vy],.int .i64 (q:Nat)] w fun e w'=>e= .returned (.agg (ic (macI vx vy (intL t r x y vx vy q 4)).zs))∧Ext w w':=by
 have HN:=Aa hn;have HL:=Aa hl;have hvv0:=hvv;clear hn hl;obtain⟨X0_0,X1_0,X2_0,X3_0,E_0⟩:=bxs4 w (.cells #[.int .i64 t.w,.int .i64 t.h,.slice a n c] 30) (.cells #[.int .i64 r.w,.int .i64 r.h,.slice b l d] 30) (.cells #[.int .i64 vx,.int .i64 vy] 45) (.cells (ic (zl 71)) 50);have X3_0:IB _ _ 50 (zl 71):=X3_0;obtain⟨B,hB⟩:∃ B,B=w.heap.size:=⟨_,rfl⟩;have ia:=IB.new ((((w.alloc (.cells #[.int .i64 t.w,.int .i64 t.h,.slice a n c] 30)).alloc (.cells #[.int .i64 r.w,.int .i64 r.h,.slice b l d] 30)).alloc (.cells #[.int .i64 vx,.int .i64 vy] 45)).alloc (.cells (ic (zl 71)) 50)) 50 (zl 71);have ea:=Ext.alloc ((((w.alloc (.cells #[.int .i64 t.w,.int .i64 t.h,.slice a n c] 30)).alloc (.cells #[.int .i64 r.w,.int .i64 r.h,.slice b l d] 30)).alloc (.cells #[.int .i64 vx,.int .i64 vy] 45)).alloc (.cells (ic (zl 71)) 50)) (.cells (ic (zl 71)) 50);have Y0:=ea.blk X0_0;have Y1:=ea.blk X1_0;have Y2:=ea.blk X2_0;have Y3:=X3_0.ext ea;have F0:=E_0.trans ea;simp only[World.size_alloc]at ia;clear X1_0 X3_0 E_0 ea X0_0;obtain⟨-,k2_0,k2_1,-⟩:=bx2 X2_0;clear X2_0;go_enter Tryz.func79,Tryz.ntmps79
 go_wp2_with (first|(refine Au 50 rfl rfl 71 Bf ?_;(try simp only[World.size_alloc]))|(refine Af 50 _ _ rfl rfl ia 0 71 rfl _ rfl (macI vx vy (zl 64)).zs (by exact JH vx vy) Ah (Mac.zs_len (Dj vx vy (AB 64))) (by simp[zl]) ?_;intro w5 i5 g5;refine Hid.out ?_))
 rw[Ap (by rw[Mac.zs_len (Dj vx vy (AB 64)),AB])]at i5;try simp only[World.size_alloc]
 rw[←hB]at i5 g5 Y0 Y1 Y2 Y3⊢;have hwB:w.heap.size≤B:=by omega
 have HB:=Aa hB;clear hB ia k2_0 k2_1;obtain⟨O,hO⟩:∃ O,O=B+1+1+1+1:=⟨_,rfl⟩;rw[←hO]at i5 g5⊢;have hBO:B+1+1+1<O:=by omega
 have HO:=Aa hO;clear hO;have Z0:=Ar Y0 g5 (by simp;omega);have Z1:=Ar Y1 g5 (by simp;omega);have Z2:=Ar Y2 g5 (by simp;omega);have Z3:=Y3.gr g5 (by simp;omega);have F1:Ext w w5:=Ext.grown F0 g5 (fun k e=>by cases e;omega);clear Y0 Y1 Y2 Y3 F0 g5;refine Aa ?_;obtain⟨-,k1,k2,k3,-⟩:=bx3 Z0;go_wp2_with fail
 refine(BE t x y 0 0 a c n _ htv HN.out (s.ext F1) (by omega) (by omega) (by omega) (by omega) (by omega) (by omega) (by omega) (by omega)).mono ?_
 rintro e w4 ⟨a4,c4,rfl,o4,e4⟩
 have hO4:=i5.lt;have S4ne:∀ z,a4=some z→z.block≠O:=fun z hz=>by have:=(o4.lt z.block (by rw[hz];rfl)).1;omega
 have S4:=Sl.of_owns o4;have G0:=e4.blk Z0;have G1:=e4.blk Z1;have G2:=e4.blk Z2;have G3:=Z3.ext e4;have j5:=i5.ext e4;have F2:=F1.trans e4;clear Z0 Z1 Z2 Z3 F1 i5 e4 o4 k1 k2 k3;obtain⟨-,k1,k2,k3,-⟩:=bx3 G1;obtain⟨-,k4,k5,-⟩:=bx2 G2;go_wp2_with fail
 refine(BE r x y vx vy b d l _ hrv HL.out (u.ext F2) (by omega) (by omega) (by omega) (by omega) hvv.1 hvv.2.1 hvv.2.2.1 hvv.2.2.2).mono ?_
 rintro e w6 ⟨a6,c6,rfl,o6,e6⟩
 have hO5:=j5.lt;have S6ne:∀ z,a6=some z→z.block≠O:=fun z hz=>by have:=(o6.lt z.block (by rw[hz];rfl)).1;omega
 have S6:=Sl.of_owns o6;have S5:=S4.ext e6;have H3':=G3.ext e6;have j6:=j5.ext e6;have F2':=F2.trans e6;clear G0 G1 G2 G3 F2 j5 e6 o6 k1 k2 k3 k4 k5 S4 hvv;go_wp2_with fail
 go_loopw [16] (fun i wr=>∃ k:Nat,k≤4∧i= .int .i64 k∧Ext w wr∧IB wr (B+1+1+1) 50 (zl 71)∧IB wr O 50 (macI vx vy (intL t r x y vx vy q k)).zs∧Hid (Sl wr a6 64 ((blkL r x y vx vy).map (Value.int .i64)))∧Hid (Sl wr a4 64 ((blkL t x y 0 0).map (Value.int .i64)))) (fun i _=>4-(intOf i).toNat)
 case atStart=>exact⟨0,by omega,rfl,F2',H3',j6,Aa S6,Aa S5⟩
 case round =>
  obtain⟨k,hk,rfl,F3,H3,jk,Sk,Tk⟩:=hrel;clear F2' H3' j6 S6 S5;have hLl:=FH t r x y vx vy q hk;have Hzl:=Aa (Mac.zs_len (Dj vx vy hLl))
  by_cases hlt:k<4
  ·have hd:decide ((k:Int)<4)=true:=by simp;omega
   have hst:=Mac.spl_lv (Dj vx vy hLl) (k*16) (cod (dif (prt t ((x+k%2*4:Nat):Int) ((y+k/2*4:Nat):Int)) (pof (blkL r x y vx vy) (k%2*4) (k/2*4))) q);have Hst:=Aa (show spl (macI vx vy (intL t r x y vx vy q k)).zs (7+k*16) (cod (dif (prt t ((x+k%2*4:Nat):Int) ((y+k/2*4:Nat):Int)) (pof (blkL r x y vx vy) (k%2*4) (k/2*4))) q)=(macI vx vy (intL t r x y vx vy q (k+1))).zs from hst);have hpb:=NU t (x:Int) (y:Int) (i:=k%2*4) (j:=k/2*4) (by omega) (by omega);rw[←Int.natCast_add,←Int.natCast_add]at hpb;have Hpb:=Aa hpb;clear hst hLl hpb;go_wp2_with fail
   refine(DJ (blkL t x y 0 0) k hlt a4 c4 _ (Tk.out.ext (Below.refl _ _))).mono ?_
   rintro e w7 ⟨rfl,e7⟩
   rw[Hpb.out];have hsp:=Gp htv ((x+k%2*4:Nat):Int) ((y+k/2*4:Nat):Int);have hl1:=CO t ((x+k%2*4:Nat):Int) ((y+k/2*4:Nat):Int);obtain⟨U,hU⟩:∃ U,U=prt t ((x+k%2*4:Nat):Int) ((y+k/2*4:Nat):Int):=⟨_,rfl⟩;rw[←hU]at hsp hl1 Hst Hpb⊢;have Hsp:=Aa hsp;have Hl1:=Aa hl1;clear hU hsp hl1;have F4:=F3.trans e7;have L3:=H3.ext e7;have jl:=jk.ext e7;have Sl7:=Sk.out.ext e7;have Tl7:=Tk.out.ext e7;clear F3 H3 jk Sk Tk e7;go_wp2_with fail
   refine(DJ (blkL r x y vx vy) k hlt a6 c6 _ Sl7).mono ?_
   rintro e w8 ⟨rfl,e8⟩
   have F5:=F4.trans e8;have M3:=L3.ext e8;have jm:=jl.ext e8;have Sl8:=Sl7.ext e8;have Tl8:=Tl7.ext e8;clear F4 L3 jl Sl7 Tl7 e8;have hsq:=Gm (Bz hrv x y vx vy) (AQ r x y vx vy) (i:=k%2*4) (j:=k/2*4) (by omega) (by omega);have hl2:=BX (blkL r x y vx vy) (k%2*4) (k/2*4);obtain⟨V,hV⟩:∃ V,V=pof (blkL r x y vx vy) (k%2*4) (k/2*4):=⟨_,rfl⟩;rw[←hV]at hsq hl2 Hst⊢;have Hsq:=Aa hsq;have Hl2:=Aa hl2;clear hV hsq hl2;go_wp2_with fail
   refine(IM U V _ Hl1.out Hl2.out (Cf Hsp.out) (Cf Hsq.out)).mono ?_
   rintro e w9 ⟨rfl,e9⟩
   have F6:=F5.trans e9;have N3:=M3.ext e9;have jn:=jm.ext e9;have Sl9:=Sl8.ext e9;have Tl9:=Tl8.ext e9;clear F5 M3 jm Sl8 Tl8 e9;go_wp2_with fail
   refine(DT (dif U V) q _ (Bo _ _) (Cm Hsp.out Hsq.out Hl1.out Hl2.out) hq).mono ?_
   rintro e wa ⟨rfl,ea⟩
   have F7:=F6.trans ea;have P3:=N3.ext ea;have jp:=jn.ext ea;have Sla:=Sl9.ext ea;have Tla:=Tl9.ext ea;clear F6 N3 jn Sl9 Tl9 ea;have Hcl:=Aa (BF (dif U V) q);go_wp2_with (refine Af 47 _ _ rfl rfl jp (7+k*16) 16 rfl _ rfl (cod (dif U V) q) rfl Ag Hcl.out (by rw[Hzl.out];omega) ?_;intro wb jb gb;refine Hid.out ?_)
   rw[Hst.out]at jb;have F8:Ext w wb:=Ext.grown F7 gb (fun q hq=>by cases hq;omega);have R3:=P3.gr gb (by simp;omega);have Slb:=Sla.grown gb (fun z hz=>by have:=S6ne z hz;intro e;exact this (by simpa using e));have Tlb:=Tla.grown gb (fun z hz=>by have:=S4ne z hz;intro e;exact this (by simpa using e));clear F7 P3 jp Sla Tla gb;refine Aa ?_;go_wp2;go_roundw
   case rel=>exact⟨k+1,by omega,by go_num,F8,R3,jb,Aa Slb,Aa Tlb⟩
   case measure=>simp[intOf];omega
  ·obtain rfl:k=4:=by omega
   go_wp2_with (first|(refine Ab 50 _ rfl rfl jk 0 71 rfl _ Ro rfl Ah (by rw[Hzl.out];omega) _ (by rw[Ak _ _ (Hzl.out)]) ?_)|(refine Af 50 _ _ rfl rfl H3 0 71 rfl _ rfl (macI vx vy (intL t r x y vx vy q 4)).zs rfl Ah (Hzl.out) (by simp[zl]) ?_;intro w6 p6 g6;refine Hid.out ?_))
   rw[Ap (by rw[Hzl.out,AB])]at p6;have E6:Ext w w6:=Ext.grown F3 g6 (fun q hq=>by cases hq;omega);refine Aa ?_;go_wp2;exact bodyPost_ret (v := .agg (ic (macI vx vy (intL t r x y vx vy q 4)).zs)) (results_cell_row rfl _ _ (B+1+1+1) 50 (ic (macI vx vy (intL t r x y vx vy q 4)).zs) (0,0) _ rfl p6 Ro rfl (by rw[AJ,Hzl.out];exact Ah)) rfl ⟨rfl,E6⟩
def absZ (n:Int):Int:=if n<0 then -n else n
theorem KH (n:Int):0≤absZ n:=by unfold absZ;split <;> omega
theorem KI {n B:Int}(h : -B≤n∧n≤B):absZ n≤B:=by unfold absZ;split <;> omega
def sumA (c:List Int)(k:Nat):Int:=sumZ (fun i=>absZ (nth c i)) k
theorem ID (c:List Int)(k:Nat):sumA c (k+1)=sumA c k+absZ (nth c k):=rfl
theorem OR (c:List Int):sumA c 0=0:=rfl
theorem J0 {c:List Int}{B:Int}{k:Nat}(h:∀ i,i<k → -B≤nth c i∧nth c i≤B):0≤sumA c k∧sumA c k≤k*B:=by
 induction k with
 | zero=>simp[OR]
 | succ k ih =>
  have h1:=ih (fun i hi=>h i (by omega));have h2:=KH (nth c k);have h3:=KI (h k (by omega));rw[ID,show((k+1:Nat):Int)*B=k*B+B by rw[Int.natCast_add,Int.add_mul];simp];omega
def Cx (a b:List Int):Int:=sumA (had (dif a b)) 16/4
theorem Gs {a b:List Int}(ha:smp a)(hb:smp b)(la:a.length=16)(lb:b.length=16):0≤Cx a b∧Cx a b≤16320:=by
 have:=J0 (c:=had (dif a b)) (B:=4080) (k:=16) (fun i hi=>Gg (Bo a b) (Cm ha hb la lb) hi);unfold Cx;omega
theorem IB.sl {w:World}{b T n:Nat}{zs:List Int}(h:IB w b T zs)(hl:zs.length=n):Sl w (some ⟨b,0,none⟩) n (zs.map (Value.int .i64)):=by
 refine⟨by simp[hl],fun i hi=>⟨b,0,rfl,?_⟩⟩;rw[Nat.zero_add,h.cell (i:=i) (by omega)];simp[nth,show i<zs.length by omega]
theorem EB.sl_ab {w:World}{b:Nat}{e:Ed}(h:EB w b e)(l:e.ln):Sl w (some ⟨b,0,none⟩) 4 (e.ab.map (Value.int .i64)):=by
 have:=l.ab;refine⟨by simp[this],fun i hi=>⟨b,0,rfl,?_⟩⟩;rw[Nat.zero_add,h.ab l hi];simp[nth,show i<e.ab.length by omega]
theorem EB.sl_lf {w:World}{b:Nat}{e:Ed}(h:EB w b e)(l:e.ln):Sl w (some ⟨b,4,none⟩) 4 (e.lf.map (Value.int .i64)):=by
 have:=l.lf;refine⟨by simp[this],fun i hi=>⟨b,4,rfl,?_⟩⟩;rw[h.lf l hi];simp[nth,show i<e.lf.length by omega]
theorem EO (za zb:List Int)(w:World)(hx:za.length=16)(hy:zb.length=16)(sx:smp za)(sy:smp zb):
 Calls Tryz.prog 86 #[.agg (ic za),.agg (ic zb)] w fun e w'=>e= .returned (.int .i64 (Cx za zb))∧Ext w w':=by
 have Hx:=Aa hx;have Hy:=Aa hy;have Sx:=Aa sx;have Sy:=Aa sy;have Dx:=Aa (show decide (smp za)=true from decide_eq_true sx);have Dy:=Aa (show decide (smp zb)=true from decide_eq_true sy);have Bx:=Aa (Cf sx);have By:=Aa (Cf sy);have HL:=Aa (Bo za zb);have HR:=Aa (Cm sx sy hx hy);have HH:=Aa (BD (dif za zb));have HB:=Aa (fun k (hk:k<16)=>Gg (Bo za zb) (Cm sx sy hx hy) hk);clear hx hy sx sy;have a2:=Ext.alloc (w.alloc (.cells (ic za) 47)) (.cells (ic zb) 47);have p0:=(IB.new w 47 za).ext a2;have p1:=IB.new (w.alloc (.cells (ic za) 47)) 47 zb;have E1:=(Ext.alloc w (.cells (ic za) 47)).trans a2;simp only[World.size_alloc]at p1;clear a2;go_enter Tryz.func86,Tryz.ntmps86
 go_wp2_with fail
 obtain⟨B,hB⟩:∃ B,B=w.heap.size:=⟨_,rfl⟩;try simp only[World.size_alloc]
 rw[←hB]at p0 p1⊢;have hwB:w.heap.size≤B:=by omega
 have HB0:=Aa hB;clear hB;refine(BQ (some ⟨B,0,none⟩) 16 16 za _ (by omega) (p0.sl Hx.out)).mono ?_;rw[Dx.out]
 rintro e w0 ⟨rfl,rfl⟩
 go_wp2_with fail
 refine(BQ (some ⟨B+1,0,none⟩) 16 16 zb _ (by omega) (p1.sl Hy.out)).mono ?_;rw[Dy.out]
 rintro e w0 ⟨rfl,rfl⟩
 go_wp2_with (first|(refine Ab 47 _ rfl rfl p0 0 16 rfl _ Rm rfl Ag (by rw[Hx.out];omega) _ (by rw[Ak _ _ (Hx.out)]) ?_)|(refine Ab 47 _ rfl rfl p1 0 16 rfl _ Rm rfl Ag (by rw[Hy.out];omega) _ (by rw[Ak _ _ (Hy.out)]) ?_))
 refine(Dw za zb _ Hx.out Hy.out Bx.out By.out).mono ?_
 rintro e w1 ⟨rfl,e1⟩
 have E2:=E1.trans e1;clear p0 p1 E1 e1;go_wp2_with fail
 refine(EC (dif za zb) _ HL.out (EP (M:=1048576) (by omega) HR.out (by omega))).mono ?_
 rintro e w2 ⟨rfl,e2⟩
 have E3:=E2.trans e2;clear E2 e2;go_wp2_with fail
 go_loopw [20,5] (fun i s wr=>∃ k:Nat,k≤16∧i= .int .i64 k∧s= .int .i64 (sumA (had (dif za zb)) k)∧Ext w wr) (fun i _ _=>16-(intOf i).toNat)
 case atStart=>exact⟨0,by omega,rfl,rfl,E3⟩
 case round =>
  obtain⟨k,hk,rfl,rfl,E4⟩:=hrel;clear E3;have hsr:=J0 (c:=had (dif za zb)) (B:=4080) (k:=k) (fun i hi=>HB.out i (by omega))
  by_cases hlt:k<16
  ·have hd:decide ((k:Int)<16)=true:=by simp;omega
   have hbk:=HB.out k hlt;have Hsu:=Aa (ID (had (dif za zb)) k);go_wp2_with (refine AF _ _ _ rfl rfl (had (dif za zb)) rfl k 16 _ rfl rfl _ Rm Rt AC hlt HH.out ?_)
   obtain⟨z,hz⟩:∃ z,z=nth (had (dif za zb)) k:=⟨_,rfl⟩;obtain⟨S,hS⟩:∃ S,S=sumA (had (dif za zb)) k:=⟨_,rfl⟩;rw[←hz]at hbk Hsu⊢;rw[←hS]at hsr Hsu⊢;have ha1:=KH z;have ha2:=KI hbk;clear hz hS;have h40:S≤65280:=by omega
   refine(Di z _ (by omega) (by omega)).mono ?_;rw[show(if z<0 then -z else z)=absZ z from rfl]
   rintro e w5 ⟨rfl,rfl⟩
   go_wp2;go_roundw
   case rel=>exact⟨k+1,by omega,by go_num,by rw[Hsu.out],E4⟩
   case measure=>simp[intOf];omega
  ·obtain rfl:k=16:=by omega
   have Htc:=Aa (show Cx za zb=sumA (had (dif za zb)) 16/4 from rfl);obtain⟨S,hS⟩:∃ S,S=sumA (had (dif za zb)) 16:=⟨_,rfl⟩;rw[←hS]at hsr Htc⊢;clear hS;go_wp2;go_ret
   exact⟨by rw[Htc.out];rfl,E4⟩
theorem Cv (za zb:List Int)(w:World)(hx:za.length=16)(hy:zb.length=16)(sx:smp za)(sy:smp zb):
 Calls Tryz.prog 114 #[.agg (ic za),.agg (ic zb)] w fun e w'=>e= .returned (.int .i64 (Cx za zb))∧Ext w w':=by
 have Hx:=Aa hx;have Hy:=Aa hy;have Sx:=Aa (fun k (hk:k<16)=>AD sx (i:=k) (by omega));have Sy:=Aa (fun k (hk:k<16)=>AD sy (i:=k) (by omega));have HL:=Aa (Bo za zb);have HR:=Aa (Cm sx sy hx hy);have HH:=Aa (BD (dif za zb));have HB:=Aa (fun k (hk:k<16)=>Gg (Bo za zb) (Cm sx sy hx hy) hk);clear hx hy sx sy;have hz0:(List.replicate 16 (0:Int)).length=16:=by simp
 have Hz0:=Aa hz0;clear hz0;have a2:=Ext.alloc (w.alloc (.cells (ic za) 47)) (.cells (ic zb) 47);have a3:=Ext.alloc ((w.alloc (.cells (ic za) 47)).alloc (.cells (ic zb) 47)) (.cells (ic (List.replicate 16 0)) 47);have p0:=((IB.new w 47 za).ext a2).ext a3;have p1:=(IB.new (w.alloc (.cells (ic za) 47)) 47 zb).ext a3;have p2:=IB.new ((w.alloc (.cells (ic za) 47)).alloc (.cells (ic zb) 47)) 47 (List.replicate 16 0);have E1:=((Ext.alloc w (.cells (ic za) 47)).trans a2).trans a3;simp only[World.size_alloc]at p1 p2;clear a2 a3;go_enter Tryz.func114,Tryz.ntmps114
 go_wp2_with fail
 try simp only[World.size_alloc]
 obtain⟨B,hB⟩:∃ B,B=w.heap.size:=⟨_,rfl⟩;rw[←hB]at p0 p1 p2⊢;have hwB:w.heap.size≤B:=by omega
 have HB0:=Aa hB;clear hB;go_loopw [6] (fun i wr=>∃ k:Nat,k≤16∧i= .int .i64 k∧Ext w wr∧IB wr B 47 za∧IB wr (B+1) 47 zb∧IB wr (B+1+1) 47 (mixI (dif za zb) (List.replicate 16 0) k)) (fun i _=>16-(intOf i).toNat)
 case atStart=>exact⟨0,by omega,rfl,E1,p0,p1,by rw[AO];exact p2⟩
 case round =>
  obtain⟨k,hk,rfl,E4,r0,r1,r2⟩:=hrel;clear p0 p1 p2 E1
  by_cases hlt:k<16
  ·have hd:decide ((k:Int)<16)=true:=by simp;omega
   have b0:=Sx.out k hlt;have b1:=Sy.out k hlt;have hset:=Bl (dif za zb) (List.replicate 16 0) k 16 HL.out Hz0.out hlt;rw[Je _ _ hlt]at hset;have Hset:=Aa hset;have c0:=r0.cell (i:=k) (by rw[Hx.out];exact hlt);have c1:=r1.cell (i:=k) (by rw[Hy.out];exact hlt);clear hset;have C0:=Aa c0;have C1:=Aa c1;have HM:=Aa (AE (dif za zb) (List.replicate 16 0) k 16 HL.out Hz0.out);generalize nth za k=u at *;generalize nth zb k=v at *;have G0:Ext w wr∧IB wr B 47 za∧IB wr (B+1) 47 zb∧IB wr (B+1+1) 47 (mixI (dif za zb) (List.replicate 16 0) k):=⟨E4,r0,r1,r2⟩;have HcU:=Aa (fun(wx:World) (h:IB wx B 47 za)=>(h.cell (i:=k) (by rw[Hx.out];exact hlt)).trans ((r0.cell (i:=k) (by rw[Hx.out];exact hlt)).symm.trans C0.out));have HcV:=Aa (fun(wx:World) (h:IB wx (B+1) 47 zb)=>(h.cell (i:=k) (by rw[Hy.out];exact hlt)).trans ((r1.cell (i:=k) (by rw[Hy.out];exact hlt)).symm.trans C1.out));clear E4 r0 r1 r2;go_wp2_with fail
   refine(Az _ _ _ _ b0.1 b0.2).mono ?_
   rintro e w0 ⟨rfl,rfl⟩
   go_wp2_with fail
   refine(Az _ _ _ _ b1.1 b1.2).mono ?_
   rintro e w0 ⟨rfl,rfl⟩
   clear c0 c1;go_wp2_with fail
   refine Am (by kernel_rfl) [(27,0),(28,1),(29,2),(30,3),(31,4),(32,5),(33,6),(34,7),(35,8)] [[],[],[1],[1,2],[],[4],[4,5],[1,2,3,4,5,6],[0,1,2,3,4,5,6,7],[0,1,2,3,4,5,6,7,8]] (fun i own ys wx=>match i with|0=>own= .int .i64 (k:Nat)|1=>own= .int .i64 (k:Nat)|2=>own= .pointer (some ⟨B,k,none⟩)|3=>own= .int .i64 u|4=>own= .int .i64 (k:Nat)|5=>own= .pointer (some ⟨B+1,k,none⟩)|6=>own= .int .i64 v|7=>own= .int .i64 (u-v)|8=>own= .pointer (some ⟨B+1+1,k,none⟩)|9=>True|_=>True) (fun Lx wx=>Ext w wx∧IB wx B 47 za∧IB wx (B+1) 47 zb∧IB wx (B+1+1) 47 (if Lx 9=true then mixI (dif za zb) (List.replicate 16 0) (k+1)else mixI (dif za zb) (List.replicate 16 0) k)) (by kernel_rfl) (by kernel_rfl) (by kernel_rfl) ?g0_r1 ?gop_r1 ?gend_r1
   case g0_r1=>exact⟨Ext.trans_drewN G0.1 1,G0.2.1.drewN 1,G0.2.2.1.drewN 1,G0.2.2.2.drewN 1⟩
   case gop_r1 =>
    refine⟨?_,?_,?o2,?o3,?_,?o5,?o6,?o7,?o8,?o9,trivial⟩ <;> (intro Lx xs wx hG hl ha hb hD hI Qo Kx hK hQo;simp only[Ad,Nat.reduceAdd,Nat.reduceEqDiff,↓reduceIte]at hQo⊢)
    case o2 =>
     clear hl ha hb;rw[ddq (hD 1 rfl)]at hQo⊢;clear hD hI;go_wp2;exact hK.out _ _ ⟨rfl,hG,kkp⟩
    case o3 =>
     clear hl ha hb;rw[ddq (hD 2 rfl)]at hQo⊢;clear hD hI;have cx:=HcU.out wx hG.2.1;go_wp2;exact hK.out _ _ ⟨rfl,hG,kkp⟩
    case o5 =>
     clear hl ha hb;rw[ddq (hD 4 rfl)]at hQo⊢;clear hD hI;go_wp2;exact hK.out _ _ ⟨rfl,hG,kkp⟩
    case o6 =>
     clear hl ha hb;rw[ddq (hD 5 rfl)]at hQo⊢;clear hD hI;have cx:=HcV.out wx hG.2.2.1;go_wp2;exact hK.out _ _ ⟨rfl,hG,kkp⟩
    case o7 =>
     clear hl ha hb;rw[ddq (hD 3 rfl),ddq (hD 6 rfl)]at hQo⊢;clear hD hI;go_wp2;exact hK.out _ _ ⟨rfl,hG,kkp⟩
    case o8 =>
     clear hl ha hb;rw[ddq (hD 0 rfl)]at hQo⊢;clear hD hI;go_wp2;exact hK.out _ _ ⟨rfl,hG,kkp⟩
    case o9 =>
     have l9:Lx 9=false:=hl;clear hl ha hb;rw[ddq (hD 7 rfl),ddq (hD 8 rfl)]at hQo⊢;clear hD hI;rw[l9,ifF]at hG;have cx:=hG.2.2.2.cell (i:=k) (by rw[HM.out];exact hlt);have fx:=hG.2.2.2.frozen k;have s2:=hG.2.2.2.set k (u-v);rw[Hset.out]at s2;have gE:=Ext.grown hG.1 (Ax _ (B+1+1) k (.int .i64 (u-v))) (fun q hq=>by cases hq;omega);have g0':=hG.2.1.set_other (c:=B+1+1) (i:=k) (v := .int .i64 (u-v)) (by omega);have g1':=hG.2.2.1.set_other (c:=B+1+1) (i:=k) (v := .int .i64 (u-v)) (by omega);go_wp2;exact hQo undef _ (hK.out _ _ ⟨trivial,⟨gE,g0',g1',s2⟩,fun _ _ _ _ _ _ h=>h⟩)
    all_goals
     clear hl ha hb hD hI;go_wp2;exact hK.out _ _ ⟨rfl,hG,kkp⟩
   intro xs wx hV hG0;obtain⟨Lx,hL,hG⟩:=hG0;have l9:Lx 9=true:=hL 9 (by decide);clear hL hV;simp only[Ad,Nat.reduceAdd,Nat.reduceEqDiff,↓reduceIte];generalize xs 0=y0,xs 1=y1,xs 2=y2,xs 3=y3,xs 4=y4,xs 5=y5,xs 6=y6,xs 7=y7,xs 8=y8,xs 9=y9 at *
   replace hG:Ext w wx∧IB wx B 47 za∧IB wx (B+1) 47 zb∧IB wx (B+1+1) 47 (if Lx 9=true then mixI (dif za zb) (List.replicate 16 0) (k+1)else mixI (dif za zb) (List.replicate 16 0) k):=hG
   rw[l9,ifT]at hG;clear G0 HcU HcV;obtain⟨E5,s0,s1,s2⟩:=hG;go_wp2;go_roundw
   case rel=>exact⟨k+1,by omega,by go_num,E5,s0,s1,s2⟩
   case measure=>simp[intOf];omega
  ·obtain rfl:k=16:=by omega
   rw[AY _ _ 16 HL.out Hz0.out]at r2;go_wp2_with (refine Ab 47 _ rfl rfl r2 0 16 rfl _ Rm rfl Ag (by rw[HL.out];omega) _ (by rw[Ak _ _ (HL.out)]) ?_)
   refine(FK (dif za zb) _ HL.out (EP (M:=1048576) (by omega) HR.out (by omega))).mono ?_
   rintro e w2 ⟨rfl,e2⟩
   have E5:=E4.trans e2;have q2:=IB.new w2 47 (List.replicate 16 0);have E6:=E5.trans (Ext.alloc w2 (.cells (ic (List.replicate 16 0)) 47));have hs2:=E5.size;clear r0 r1 r2 E4 E5 e2;go_wp2_with (refine Af 47 _ _ rfl rfl q2 0 16 rfl _ rfl _ rfl Ag (HH.out) (by simp) ?_;intro w3 i3 g3;refine Hid.out ?_)
   rw[Ap (by rw[HH.out];simp)]at i3;have E7:Ext w w3:=Ext.grown E6 g3 (fun k e=>by cases e;omega);obtain⟨O,hO⟩:∃ O,O=w2.heap.size:=⟨_,rfl⟩;rw[←hO]at i3⊢;have HO:=Aa hO;clear hO q2 E6 g3 hs2;refine Aa ?_;go_wp2_with fail
   go_loopw [9,8] (fun i s wr=>∃ k:Nat,k≤16∧i= .int .i64 k∧s= .int .i64 (sumA (had (dif za zb)) k)∧Ext w wr∧IB wr O 47 (had (dif za zb))) (fun i _ _=>16-(intOf i).toNat)
   case atStart=>exact⟨0,by omega,rfl,rfl,E7,i3⟩
   case round =>
    obtain⟨k,hk,rfl,rfl,E8,r0⟩:=hrel;clear E7 i3;have hsr:=J0 (c:=had (dif za zb)) (B:=4080) (k:=k) (fun i hi=>HB.out i (by omega))
    by_cases hlt:k<16
    ·have hd:decide ((k:Int)<16)=true:=by simp;omega
     have hbk:=HB.out k hlt;have Hsu:=Aa (ID (had (dif za zb)) k);have c0:=r0.cell (i:=k) (by rw[HH.out];exact hlt);have Cr:=Aa (fun(wx:World) (h:IB wx O 47 (had (dif za zb)))=>h.cell (i:=k) (by rw[HH.out];exact hlt));obtain⟨z,hz⟩:∃ z,z=nth (had (dif za zb)) k:=⟨_,rfl⟩;obtain⟨S,hS⟩:∃ S,S=sumA (had (dif za zb)) k:=⟨_,rfl⟩;rw[←hz]at hbk Hsu c0;simp only[←hz]at Cr;rw[←hS]at hsr Hsu⊢;have ha1:=KH z;have ha2:=KI hbk;clear hz hS;have h40:S≤65280:=by omega
     have hmx:(max z (-z):Int)=absZ z:=by unfold absZ;split <;> omega
     have Hmx:=Aa hmx;clear hmx c0;have G0:Ext w wr∧IB wr O 47 (had (dif za zb)):=⟨E8,r0⟩;clear E8 r0;go_wp2_with fail
     refine Am (by kernel_rfl) [(8,10),(42,0),(43,1),(44,2),(45,3),(46,4),(47,5),(48,6),(49,7),(50,8),(51,9)] [[],[],[1],[1,2],[],[4],[4,5],[4,5,6],[1,2,3,4,5,6,7],[0,1,2,3,4,5,6,7,8],[0,1,2,3,4,5,6,7,8,9]] (fun i own ys wx=>match i with|0=>own= .int .i64 S|1=>own= .int .i64 (k:Nat)|2=>own= .pointer (some ⟨O,k,none⟩)|3=>own= .int .i64 z|4=>own= .int .i64 (k:Nat)|5=>own= .pointer (some ⟨O,k,none⟩)|6=>own= .int .i64 z|7=>own= .int .i64 (-z)|8=>own= .int .i64 (absZ z)|9=>own= .int .i64 (S+absZ z)|10=>own= .int .i64 (S+absZ z)|_=>True) (fun Lx wx=>Ext w wx∧IB wx O 47 (had (dif za zb))) (by kernel_rfl) (by kernel_rfl) (by kernel_rfl) ?g0_r2 ?gop_r2 ?gend_r2
     case g0_r2=>exact⟨Ext.trans_drewN G0.1 1,G0.2.drewN 1⟩
     case gop_r2 =>
      refine⟨?o0,?_,?o2,?o3,?_,?o5,?o6,?o7,?o8,?o9,?o10,trivial⟩ <;> (intro Lx xs wx hG hl ha hb hD hI Qo Kx hK hQo;simp only[Ad,Nat.reduceAdd,Nat.reduceEqDiff,↓reduceIte]at hQo⊢)
      case o0 =>
       clear hl ha hb;have i10:=hI 10 8 rfl rfl;simp only[List.getD_cons_succ,List.getD_cons_zero]at i10;clear hD hI;rw[i10]at hQo⊢;clear i10;go_wp2;exact hK.out _ _ ⟨rfl,hG,kkp⟩
      case o2 =>
       clear hl ha hb;rw[ddq (hD 1 rfl)]at hQo⊢;clear hD hI;go_wp2;exact hK.out _ _ ⟨rfl,hG,kkp⟩
      case o3 =>
       clear hl ha hb;rw[ddq (hD 2 rfl)]at hQo⊢;clear hD hI;have cx:=Cr.out wx hG.2;go_wp2;exact hK.out _ _ ⟨rfl,hG,kkp⟩
      case o5 =>
       clear hl ha hb;rw[ddq (hD 4 rfl)]at hQo⊢;clear hD hI;go_wp2;exact hK.out _ _ ⟨rfl,hG,kkp⟩
      case o6 =>
       clear hl ha hb;rw[ddq (hD 5 rfl)]at hQo⊢;clear hD hI;have cx:=Cr.out wx hG.2;go_wp2;exact hK.out _ _ ⟨rfl,hG,kkp⟩
      case o7 =>
       clear hl ha hb;rw[ddq (hD 6 rfl)]at hQo⊢;clear hD hI;go_wp2;exact hK.out _ _ ⟨rfl,hG,kkp⟩
      case o8 =>
       clear hl ha hb;rw[ddq (hD 3 rfl),ddq (hD 7 rfl)]at hQo⊢;clear hD hI;go_wp2;all_goals exact hK.out _ _ ⟨by first|rfl|(unfold absZ;congr 1 <;> split <;> omega),hG,fun _ _ _ _ _ _ h=>h⟩
      case o9 =>
       clear hl ha hb;rw[ddq (hD 0 rfl),ddq (hD 8 rfl)]at hQo⊢;clear hD hI;go_wp2;exact hK.out _ _ ⟨rfl,hG,kkp⟩
      case o10 =>
       clear hl ha hb;rw[ddq (hD 9 rfl)]at hQo⊢;clear hD hI;go_wp2;exact hK.out _ _ ⟨rfl,hG,kkp⟩
      all_goals
       clear hl ha hb hD hI;go_wp2;exact hK.out _ _ ⟨rfl,hG,kkp⟩
     intro xs wx hV hG0;obtain⟨Lx,hL,hG⟩:=hG0;clear hL;have d10:_=_:=hV 10 (by decide);clear hV;simp only[Ad,Nat.reduceAdd,Nat.reduceEqDiff,↓reduceIte];generalize xs 0=y0,xs 1=y1,xs 2=y2,xs 3=y3,xs 4=y4,xs 5=y5,xs 6=y6,xs 7=y7,xs 8=y8,xs 9=y9,xs 10=y10 at *
     replace hG:Ext w wx∧IB wx O 47 (had (dif za zb)):=hG
     subst d10;obtain⟨E9,s0⟩:=hG;clear G0 Cr;go_wp2;go_roundw
     case rel=>exact⟨k+1,by omega,by go_num,by rw[Hsu.out],E9,s0⟩
     case measure=>simp[intOf];omega
    ·obtain rfl:k=16:=by omega
     have Htc:=Aa (show Cx za zb=sumA (had (dif za zb)) 16/4 from rfl);obtain⟨S,hS⟩:∃ S,S=sumA (had (dif za zb)) 16:=⟨_,rfl⟩;rw[←hS]at hsr Htc⊢;clear hS;go_wp2;go_ret
     exact⟨by rw[Htc.out];rfl,E8⟩
theorem Gt (ed:Ed)(w:World)(ok:ed.ok):
 Calls Tryz.prog 85 #[.agg (edC ed)] w fun e w'=>e= .returned (.bool true)∧Ext w w':=by
 have Da:=Aa (show decide (smp ed.ab)=true from decide_eq_true ok.sab);have Dl:=Aa (show decide (smp ed.lf)=true from decide_eq_true ok.slf);have hco:=ok.sco;have L:=Aa ok.ln;clear ok;have p0:=EB.new w ed;have E1:=Ext.alloc w (.cells (edC ed) 67);have cc:=p0.co L.out;have sa:=p0.sl_ab L.out;have sl:=p0.sl_lf L.out;have Sa:=Aa sa;have S2:=Aa sl;clear sa sl;go_enter Tryz.func85,Tryz.ntmps85
 go_wp2_with fail
 refine(BQ _ _ 4 ed.ab _ (by omega) Sa.out).mono ?_;rw[Da.out]
 rintro e w0 ⟨rfl,rfl⟩
 go_wp2_with fail
 refine(BQ _ _ 4 ed.lf _ (by omega) S2.out).mono ?_;rw[Dl.out]
 rintro e w0 ⟨rfl,rfl⟩
 go_wp2_with fail
 refine(Dc ed.co _ hco.1 hco.2).mono ?_
 rintro e w0 ⟨rfl,rfl⟩
 go_wp2;go_ret
 exact⟨rfl,E1⟩
theorem Gy (ed:Ed)(w:World)(ok:ed.ok):
 Calls Tryz.prog 113 #[.agg (edC ed)] w fun e w'=>e= .returned (.bool true)∧Ext w w':=by
 have Ha:=Aa (fun k (hk:k<4)=>AD ok.sab (i:=k) (by have:=ok.ab;omega));have Hf:=Aa (fun k (hk:k<4)=>AD ok.slf (i:=k) (by have:=ok.lf;omega));have hco:=ok.sco;have L:=Aa ok.ln;clear ok;have p0:=EB.new w ed;have E1:=Ext.alloc w (.cells (edC ed) 67);have cc:=p0.co L.out;have ca:=Aa (fun k (hk:k<4)=>p0.ab L.out hk);have cl:=Aa (fun k (hk:k<4)=>p0.lf L.out hk);go_enter Tryz.func113,Tryz.ntmps113
 go_wp2_with fail
 refine(Az _ _ _ _ hco.1 hco.2).mono ?_
 rintro e w0 ⟨rfl,rfl⟩
 go_wp2_with fail
 go_loop [4,3] (fun i s=>∃ k:Nat,k≤4∧i= .int .i64 k∧s= .bool true) (fun i _=>4-(intOf i).toNat)
 case atStart=>exact⟨0,by omega,rfl,rfl⟩
 case round =>
  obtain⟨k,hk,rfl,rfl⟩:=hrel
  by_cases hlt:k<4
  ·have hd:decide ((k:Int)<4)=true:=by simp;omega
   have b0:=Ha.out k hlt;have b1:=Hf.out k hlt;have c0:=ca.out k hlt;have c1:=cl.out k hlt;generalize nth ed.ab k=u at *;generalize nth ed.lf k=v at *;go_wp2_with fail
   refine(Az _ _ _ _ b0.1 b0.2).mono ?_
   rintro e w0 ⟨rfl,rfl⟩
   go_wp2_with fail
   refine(Az _ _ _ _ b1.1 b1.2).mono ?_
   rintro e w0 ⟨rfl,rfl⟩
   go_wp2;go_round
   case rel=>exact⟨k+1,by omega,by go_num,rfl⟩
   case measure=>simp[intOf];omega
  ·obtain rfl:k=4:=by omega
   go_wp2;go_ret
   exact⟨rfl,E1⟩
def bb (a:List Int)(e:Ed):Nat→Nat×Int
 | 0=>(0,0)
 | k+1=>if k=0∨Cx a (prd k e)<(bb a e k).2 then(k,Cx a (prd k e))else bb a e k
theorem KM {a:List Int}{e:Ed}{k:Nat}(h:k=0∨Cx a (prd k e)<(bb a e k).2):bb a e (k+1)=(k,Cx a (prd k e)):=by
 show(if _ then _ else _)=_;rw[if_pos h]
theorem OU {a:List Int}{e:Ed}{k:Nat}(h0 : ¬ k=0)(h : ¬ Cx a (prd k e)<(bb a e k).2):bb a e (k+1)=bb a e k:=by
 show(if _ then _ else _)=_;rw[if_neg (by omega)]
theorem QA (a:List Int)(e:Ed):∀ k:Nat,(bb a e (k+1)).1≤k
 | 0=>by rw[KM (.inl rfl)];exact Nat.le_refl _
 | k+1=>by
  by_cases h:Cx a (prd (k+1) e)<(bb a e (k+1)).2
  ·rw[KM (.inr h)];exact Nat.le_refl _
  ·rw[OU (by omega) h];exact Nat.le_succ_of_le (QA a e k)
def bst (a:List Int)(e:Ed):Nat:=(bb a e 5).1
theorem My (a:List Int)(e:Ed):bst a e≤4:=QA a e 4
theorem GP (za:List Int)(ed:Ed)(w:World)(hx:za.length=16)(sx:smp za)(ok:ed.ok):
 Calls Tryz.prog 45 #[.agg (ic za),.agg (edC ed)] w fun e w'=>e= .returned (.int .i64 (bst za ed:Nat))∧Ext w w':=by
 have Hx:=Aa hx;have Sx:=Aa sx;have Dx:=Aa (show decide (smp za)=true from decide_eq_true sx);have OK:=Aa ok;have HC:=Aa (fun k=>Gs sx (Dm k ok) hx (A9 k ed));have h00:=(Gs sx sx hx hx).1;have h01:decide (Cx za za<0)=false:=decide_eq_false (by omega);have H01:=Aa h01;have HSt:=Aa (show bst za ed=(bb za ed 5).1 from rfl);clear hx sx ok h00 h01;have a2:=Ext.alloc (w.alloc (.cells (ic za) 47)) (.cells (edC ed) 67);have p0:=(IB.new w 47 za).ext a2;have p1:=EB.new (w.alloc (.cells (ic za) 47)) ed;have E1:=(Ext.alloc w (.cells (ic za) 47)).trans a2;simp only[World.size_alloc]at p1;clear a2;go_enter Tryz.func45,Tryz.ntmps45
 go_wp2_with fail
 obtain⟨B,hB⟩:∃ B,B=w.heap.size:=⟨_,rfl⟩;try simp only[World.size_alloc]
 rw[←hB]at p0 p1⊢;have hwB:w.heap.size≤B:=by omega
 have HB0:=Aa hB;clear hB;refine(BQ (some ⟨B,0,none⟩) 16 16 za _ (by omega) (p0.sl Hx.out)).mono ?_;rw[Dx.out]
 rintro e w0 ⟨rfl,rfl⟩
 go_wp2_with (refine AA 67 _ rfl rfl p1 rfl _ Rq rfl 11 Aq (As OK.out.ln) ?_)
 refine(Gt ed _ OK.out).mono ?_
 rintro e w1 ⟨rfl,e1⟩
 have q0:=p0.ext e1;have q1:=p1.ext e1;have E2:=E1.trans e1;clear p0 p1 E1 e1;go_wp2_with fail
 go_loopw [7,5,6] (fun i s t wr=>∃ k:Nat,k≤5∧i= .int .i64 k∧s= .int .i64 ((bb za ed k).1:Nat)∧t= .int .i64 (bb za ed k).2∧Ext w wr∧IB wr B 47 za∧EB wr (B+1) ed) (fun i _ _ _=>5-(intOf i).toNat)
 case atStart=>exact⟨0,by omega,rfl,rfl,rfl,E2,q0,q1⟩
 case round =>
  obtain⟨k,hk,rfl,rfl,rfl,E4,r0,r1⟩:=hrel;clear E2 q0 q1
  by_cases hlt:k≤4
  ·have hd:decide ((k:Int)≤4)=true:=by simp;omega
   have hCr:=HC.out k;have Hy:=Aa (fun h=>KM (a:=za) (e:=ed) (k:=k) h);have Hn:=Aa (fun h0 h=>OU (a:=za) (e:=ed) (k:=k) h0 h);obtain⟨C,hC⟩:∃ C,C=Cx za (prd k ed):=⟨_,rfl⟩;obtain⟨S,hS⟩:∃ S,S=(bb za ed k).2:=⟨_,rfl⟩;obtain⟨b,hb⟩:∃ b,b=(bb za ed k).1:=⟨_,rfl⟩;have Heq:=Aa (show bb za ed k=((bb za ed k).1,(bb za ed k).2)from rfl);rw[←hC]at hCr Hy Hn;rw[←hS]at Hy Hn Heq⊢;rw[←hb]at Heq⊢;have HCe:=Aa hC;clear hC hS hb;have G0:Ext w wr∧IB wr B 47 za∧EB wr (B+1) ed:=⟨E4,r0,r1⟩;clear E4 r0 r1;go_wp2_with fail
   refine Am (by kernel_rfl) [(8,5),(21,0),(22,1),(23,2),(24,3),(25,4)] [[],[],[],[1,2],[0,1,2,3],[0,1,2,3,4]] (fun i own ys wx=>match i with|0=>own= .agg (ic za)|1=>own= .agg (edC ed)|2=>own= .int .i64 (k:Nat)|3=>own= .agg (ic (prd k ed))|4=>own= .int .i64 C|5=>own= .int .i64 C|_=>True) (fun Lx wx=>Ext w wx∧IB wx B 47 za∧EB wx (B+1) ed) (by kernel_rfl) (by kernel_rfl) (by kernel_rfl) ?g0_r1 ?gop_r1 ?gend_r1
   case g0_r1=>exact⟨Ext.trans_drewN G0.1 1,G0.2.1.drewN 1,G0.2.2.ext (Ext.drewN _ 1)⟩
   case gop_r1 =>
    refine⟨?o0,?o1,?o2,?o3,?o4,?o5,trivial⟩ <;> (intro Lx xs wx hG hl ha hb hD hI Qo Kx hK hQo;simp only[Ad,Nat.reduceAdd,Nat.reduceEqDiff,↓reduceIte]at hQo⊢)
    case o0 =>
     clear hl ha hb hD hI;go_wp2_with (refine Ab 47 _ rfl rfl hG.2.1 0 16 rfl _ Rm rfl Ag (by rw[Hx.out];omega) _ (by rw[Ak _ _ (Hx.out)]) ?_)
     exact hK.out _ _ ⟨rfl,hG,kkp⟩
    case o1 =>
     clear hl ha hb hD hI;go_wp2_with (refine AA 67 _ rfl rfl hG.2.2 rfl _ Rq rfl 11 Aq (As OK.out.ln) ?_)
     exact hK.out _ _ ⟨rfl,hG,kkp⟩
    case o2 =>
     clear hl ha hb hD hI;go_wp2;exact hK.out _ _ ⟨rfl,hG,kkp⟩
    case o3 =>
     clear hl ha hb;rw[ddq (hD 1 rfl),ddq (hD 2 rfl)]at hQo⊢;clear hD hI;go_wp2_with fail
     refine(Z7 ed k _ OK.out (by omega)).mono ?_
     rintro e w9 ⟨rfl,e9⟩
     go_wp2;exact hK.out _ _ ⟨rfl,⟨hG.1.trans e9,hG.2.1.ext e9,hG.2.2.ext e9⟩,fun _ _ _ _ _ _ h=>h⟩
    case o4 =>
     clear hl ha hb;rw[ddq (hD 0 rfl),ddq (hD 3 rfl)]at hQo⊢;clear hD hI;go_wp2_with fail
     refine(EO za (prd k ed) _ Hx.out (A9 _ _) Sx.out (Dm _ OK.out)).mono ?_
     rintro e w9 ⟨rfl,e9⟩
     rw[←HCe.out];go_wp2;exact hK.out _ _ ⟨rfl,⟨hG.1.trans e9,hG.2.1.ext e9,hG.2.2.ext e9⟩,fun _ _ _ _ _ _ h=>h⟩
    case o5 =>
     clear hl ha hb;rw[ddq (hD 4 rfl)]at hQo⊢;clear hD hI;go_wp2;exact hK.out _ _ ⟨rfl,hG,kkp⟩
   intro xs wx hV hG0;obtain⟨Lx,hL,hG⟩:=hG0;clear hL;have d5:_=_:=hV 5 (by decide);clear hV;simp only[Ad,Nat.reduceAdd,Nat.reduceEqDiff,↓reduceIte];generalize xs 0=y0,xs 1=y1,xs 2=y2,xs 3=y3,xs 4=y4,xs 5=y5 at *
   replace hG:Ext w wx∧IB wx B 47 za∧EB wx (B+1) ed:=hG
   subst d5;obtain⟨E5,s0,s1⟩:=hG;clear G0
   by_cases h0:k=0
   ·have g0:((k:Int) == 0)=true:=by simp;omega
    ·go_wp2;go_roundw
     case rel =>
      have hn:=Hy.out (.inl h0);exact⟨k+1,by omega,by go_num,by rw[hn],by rw[hn],E5,s0,s1⟩
     case measure=>simp[intOf];omega
   ·have g0:((k:Int) == 0)=false:=by simp;omega
    by_cases h1:C<S
    ·have g1:decide (C<S)=true:=decide_eq_true h1;go_wp2;go_roundw
     case rel =>
      have hn:=Hy.out (.inr h1);exact⟨k+1,by omega,by go_num,by rw[hn],by rw[hn],E5,s0,s1⟩
     case measure=>simp[intOf];omega
    ·have g1:decide (C<S)=false:=decide_eq_false h1;go_wp2;go_roundw
     case rel =>
      have hn:=Hn.out h0 (by omega);exact⟨k+1,by omega,by go_num,by rw[hn,Heq.out],by rw[hn,Heq.out],E5,s0,s1⟩
     case measure=>simp[intOf];omega
  ·obtain rfl:k=5:=by omega
   go_wp2;go_ret
   exact⟨by rw[HSt.out];rfl,E4⟩
theorem G8 (za:List Int)(ed:Ed)(w:World)(hx:za.length=16)(sx:smp za)(ok:ed.ok):
 Calls Tryz.prog 71 #[.agg (ic za),.agg (edC ed)] w fun e w'=>e= .returned (.int .i64 (bst za ed:Nat))∧Ext w w':=by
 have Hx:=Aa hx;have Sx:=Aa sx;have Dx:=Aa (show decide (smp za)=true from decide_eq_true sx);have OK:=Aa ok;have HC:=Aa (fun k=>Gs sx (Dm k ok) hx (A9 k ed));have h00:=(Gs sx sx hx hx).1;have h01:decide (Cx za za<0)=false:=decide_eq_false (by omega);have H01:=Aa h01;have HSt:=Aa (show bst za ed=(bb za ed 5).1 from rfl);clear hx sx ok h00 h01;have a2:=Ext.alloc (w.alloc (.cells (ic za) 47)) (.cells (edC ed) 67);have p0:=(IB.new w 47 za).ext a2;have p1:=EB.new (w.alloc (.cells (ic za) 47)) ed;have E1:=(Ext.alloc w (.cells (ic za) 47)).trans a2;simp only[World.size_alloc]at p1;clear a2;go_enter Tryz.func71,Tryz.ntmps71
 go_wp2_with (refine AA 67 _ rfl rfl p1 rfl _ Rq rfl 11 Aq (As OK.out.ln) ?_)
 obtain⟨B,hB⟩:∃ B,B=w.heap.size:=⟨_,rfl⟩;try simp only[World.size_alloc]
 rw[←hB]at p0 p1⊢;have hwB:w.heap.size≤B:=by omega
 have HB0:=Aa hB;clear hB;refine(Gy ed _ OK.out).mono ?_
 rintro e w0 ⟨rfl,e0⟩
 have q0:=p0.ext e0;have q1:=p1.ext e0;have F1:=E1.trans e0;clear p0 p1 E1 e0;have p0:=q0;have p1:=q1;have E1:=F1;clear q0 q1 F1;go_wp2_with (refine Ab 47 _ rfl rfl p0 0 16 rfl _ Rm rfl Ag (by rw[Hx.out];omega) _ (by rw[Ak _ _ (Hx.out)]) ?_)
 refine(Cv za za _ Hx.out Hx.out Sx.out Sx.out).mono ?_;have h01:=H01.out;generalize Cx za za=C0 at *
 rintro e w1 ⟨rfl,e1⟩
 have q0:=p0.ext e1;have q1:=p1.ext e1;have E2:=E1.trans e1;clear p0 p1 E1 e1;go_wp2_with fail
 go_loopw [7,5,6] (fun i s t wr=>∃ k:Nat,k≤5∧i= .int .i64 k∧s= .int .i64 (if k=0 then(-1:Int)else((bb za ed k).1:Nat))∧t= .int .i64 (bb za ed k).2∧Ext w wr∧IB wr B 47 za∧EB wr (B+1) ed) (fun i _ _ _=>5-(intOf i).toNat)
 case atStart=>exact⟨0,by omega,rfl,rfl,rfl,E2,q0,q1⟩
 case round =>
  obtain⟨k,hk,rfl,rfl,rfl,E4,r0,r1⟩:=hrel;clear E2 q0 q1;obtain⟨b,hb⟩:∃ b:Int,b=(if k=0 then(-1:Int)else((bb za ed k).1:Nat)):=⟨_,rfl⟩;rw[←hb];have Hb0:=Aa (show k=0→b = -1 from fun h=>by rw[hb,if_pos h]);have Hb1:=Aa (show ¬ k=0→b=((bb za ed k).1:Nat)from fun h=>by rw[hb,if_neg h]);clear hb
  by_cases hlt:k≤4
  ·have hd:decide ((k:Int)≤4)=true:=by simp;omega
   have hCr:=HC.out k;have Hy:=Aa (fun h=>KM (a:=za) (e:=ed) (k:=k) h);have Hn:=Aa (fun h0 h=>OU (a:=za) (e:=ed) (k:=k) h0 h);obtain⟨C,hC⟩:∃ C,C=Cx za (prd k ed):=⟨_,rfl⟩;obtain⟨S,hS⟩:∃ S,S=(bb za ed k).2:=⟨_,rfl⟩;have Heq:=Aa (show bb za ed k=((bb za ed k).1,(bb za ed k).2)from rfl);rw[←hC]at hCr Hy Hn;rw[←hS]at Hy Hn Heq⊢;have HCe:=Aa hC;clear hC hS;have G0:Ext w wr∧IB wr B 47 za∧EB wr (B+1) ed:=⟨E4,r0,r1⟩;clear E4 r0 r1;go_wp2_with fail
   refine Am (by kernel_rfl) [(8,5),(23,0),(24,1),(25,2),(26,3),(27,4)] [[],[],[],[1,2],[0,1,2,3],[0,1,2,3,4]] (fun i own ys wx=>match i with|0=>own= .agg (ic za)|1=>own= .int .i64 (k:Nat)|2=>own= .agg (edC ed)|3=>own= .agg (ic (prd k ed))|4=>own= .int .i64 C|5=>own= .int .i64 C|_=>True) (fun Lx wx=>Ext w wx∧IB wx B 47 za∧EB wx (B+1) ed) (by kernel_rfl) (by kernel_rfl) (by kernel_rfl) ?g0_r2 ?gop_r2 ?gend_r2
   case g0_r2=>exact⟨Ext.trans_drewN G0.1 1,G0.2.1.drewN 1,G0.2.2.ext (Ext.drewN _ 1)⟩
   case gop_r2 =>
    refine⟨?o0,?o1,?o2,?o3,?o4,?o5,trivial⟩ <;> (intro Lx xs wx hG hl ha hb hD hI Qo Kx hK hQo;simp only[Ad,Nat.reduceAdd,Nat.reduceEqDiff,↓reduceIte]at hQo⊢)
    case o0 =>
     clear hl ha hb hD hI;go_wp2_with (refine Ab 47 _ rfl rfl hG.2.1 0 16 rfl _ Rm rfl Ag (by rw[Hx.out];omega) _ (by rw[Ak _ _ (Hx.out)]) ?_)
     exact hK.out _ _ ⟨rfl,hG,kkp⟩
    case o1 =>
     clear hl ha hb hD hI;go_wp2;exact hK.out _ _ ⟨rfl,hG,kkp⟩
    case o2 =>
     clear hl ha hb hD hI;go_wp2_with (refine AA 67 _ rfl rfl hG.2.2 rfl _ Rq rfl 11 Aq (As OK.out.ln) ?_)
     exact hK.out _ _ ⟨rfl,hG,kkp⟩
    case o3 =>
     clear hl ha hb;rw[ddq (hD 1 rfl),ddq (hD 2 rfl)]at hQo⊢;clear hD hI;go_wp2_with fail
     refine(D9 ed k _ OK.out (by omega)).mono ?_
     rintro e w9 ⟨rfl,e9⟩
     go_wp2;exact hK.out _ _ ⟨rfl,⟨hG.1.trans e9,hG.2.1.ext e9,hG.2.2.ext e9⟩,fun _ _ _ _ _ _ h=>h⟩
    case o4 =>
     clear hl ha hb;rw[ddq (hD 0 rfl),ddq (hD 3 rfl)]at hQo⊢;clear hD hI;go_wp2_with fail
     refine(Cv za (prd k ed) _ Hx.out (A9 _ _) Sx.out (Dm _ OK.out)).mono ?_
     rintro e w9 ⟨rfl,e9⟩
     rw[←HCe.out];go_wp2;exact hK.out _ _ ⟨rfl,⟨hG.1.trans e9,hG.2.1.ext e9,hG.2.2.ext e9⟩,fun _ _ _ _ _ _ h=>h⟩
    case o5 =>
     clear hl ha hb;rw[ddq (hD 4 rfl)]at hQo⊢;clear hD hI;go_wp2;exact hK.out _ _ ⟨rfl,hG,kkp⟩
   intro xs wx hV hG0;obtain⟨Lx,hL,hG⟩:=hG0;clear hL;have d5:_=_:=hV 5 (by decide);clear hV;simp only[Ad,Nat.reduceAdd,Nat.reduceEqDiff,↓reduceIte];generalize xs 0=y0,xs 1=y1,xs 2=y2,xs 3=y3,xs 4=y4,xs 5=y5 at *
   replace hG:Ext w wx∧IB wx B 47 za∧EB wx (B+1) ed:=hG
   subst d5;obtain⟨E5,s0,s1⟩:=hG;clear G0
   by_cases h0:k=0
   ·have g0:decide (b<0)=true:=by have:=Hb0.out h0;simp;omega
    ·go_wp2;go_roundw
     case rel =>
      have hn:=Hy.out (.inl h0);exact⟨k+1,by omega,by go_num,by rw[if_neg (by omega),hn],by rw[hn],E5,s0,s1⟩
     case measure=>simp[intOf];omega
   ·have g0:decide (b<0)=false:=by have:=Hb1.out h0;simp;omega
    by_cases h1:C<S
    ·have g1:decide (C<S)=true:=decide_eq_true h1;go_wp2;go_roundw
     case rel =>
      have hn:=Hy.out (.inr h1);exact⟨k+1,by omega,by go_num,by rw[if_neg (by omega),hn],by rw[hn],E5,s0,s1⟩
     case measure=>simp[intOf];omega
    ·have g1:decide (C<S)=false:=decide_eq_false h1;go_wp2;go_roundw
     case rel =>
      have hn:=Hn.out h0 (by omega);exact⟨k+1,by omega,by go_num,by rw[if_neg (by omega),hn,Hb1.out h0],by rw[hn,Heq.out],E5,s0,s1⟩
     case measure=>simp[intOf];omega
  ·obtain rfl:k=5:=by omega
   have hb5:=Hb1.out (by omega);go_wp2;go_ret
   exact⟨by rw[HSt.out,←hb5];rfl,E4⟩
section
variable (t p : Pic) (x y q : Nat) (top : Int)
def inE (Z:List Int)(k:Nat):Ed:=edg ⟨p.w,p.h,Z⟩ ((x+k%2*4:Nat):Int) ((y+k/2*4:Nat):Int) top
def inU (k:Nat):List Int:=prt t ((x+k%2*4:Nat):Int) ((y+k/2*4:Nat):Int)
def inM (Z:List Int)(k:Nat):Nat:=bst (inU t x y k) (inE p x y top Z k)
def inP (Z:List Int)(k:Nat):List Int:=prd (inM t p x y top Z k) (inE p x y top Z k)
def inL (Z:List Int)(k:Nat):List Int:=cod (dif (inU t x y k) (inP t p x y top Z k)) q
def inS : Nat→List Int×List Int×List Int
 | 0=>(p.px,Bn,zl 64)
 | k+1=>(putS (inS k).1 p.w.toNat (x+k%2*4) (y+k/2*4) (inP t p x y top (inS k).1 k) (dec (inL t p x y q top (inS k).1 k) q) 16,
  (inS k).2.1.set k (inM t p x y top (inS k).1 k:Nat),spl (inS k).2.2 (k*16) (inL t p x y q top (inS k).1 k))
def BP (k:Nat):Mac:=⟨2,0,0,(inS t p x y q top k).2.1,(inS t p x y q top k).2.2⟩
end
theorem I8 (t p:Pic)(x y q:Nat)(top:Int):∀ k:Nat,(inS t p x y q top k).1.length=p.px.length
 | 0=>rfl
 | k+1=>by
  show(putS _ _ _ _ _ _ _).length=_;rw[Mf,I8 t p x y q top k]
theorem Gi (t p:Pic)(x y q:Nat)(top:Int):∀ k:Nat,(inS t p x y q top k).2.1.length=4
 | 0=>rfl
 | k+1=>by
  show(List.set _ _ _).length=_;rw[List.length_set,Gi t p x y q top k]
theorem JC (t p:Pic)(x y q:Nat)(top:Int):∀ k:Nat,k≤4→(inS t p x y q top k).2.2.length=64
 | 0,_=>AB 64
 | k+1,h=>by
  have ih:=JC t p x y q top k (by omega);show(spl _ _ _).length=_;rw[Gr (by rw[show(inL t p x y q top (inS t p x y q top k).1 k).length=16 from BF _ _,ih];omega),ih]
theorem FG (t p:Pic)(x y q:Nat)(top:Int){k:Nat}(h:k≤4):(BP t p x y q top k).ok:=⟨Gi _ _ _ _ _ _ _,JC _ _ _ _ _ _ _ h⟩
theorem NK (t:Pic){p:Pic}(h:smp p.px)(x y q:Nat)(top:Int):∀ k:Nat,smp (inS t p x y q top k).1
 | 0=>h
 | k+1=>Mg (NK t h x y q top k) _ _ _ _ _ _
theorem Ix (t:Pic){p:Pic}(h:p.valid)(x y q:Nat)(top:Int)(k:Nat):Pic.valid ⟨p.w,p.h,(inS t p x y q top k).1⟩ :=
 ⟨h.1,h.2.1,by show((inS t p x y q top k).1.length:Int)=_;rw[I8];exact h.2.2.1,NK t h.2.2.2 _ _ _ _ _⟩
theorem Mac.set_md {m:Mac}(h:m.ok){k:Nat}(hk:k<4)(v:Int):m.zs.set (3+k) v=Mac.zs { m with modes:=m.modes.set k v } := by
 have e:m.zs = [m.kind,m.x,m.y]++(m.modes++m.lv):=by simp[Mac.zs]
 rw[e,List.set_append_right _ _ (by simp),show 3+k - [m.kind,m.x,m.y].length=k by simp,List.set_append_left _ _ (by rw[h.modes];exact hk)];simp[Mac.zs]
theorem LH (t p:Pic)(x y q:Nat)(top:Int){k:Nat}(h:k<4):(BP t p x y q top k).zs.set (3+k) (inM t p x y top (inS t p x y q top k).1 k:Nat)=Mac.zs ⟨2,0,0,(inS t p x y q top (k+1)).2.1,(inS t p x y q top k).2.2⟩ :=
 Mac.set_md (FG t p x y q top (by omega)) h _
theorem LG (t p:Pic)(x y q:Nat)(top:Int){k:Nat}(h:k<4):spl (Mac.zs ⟨2,0,0,(inS t p x y q top (k+1)).2.1,(inS t p x y q top k).2.2⟩) (7+k*16) (inL t p x y q top (inS t p x y q top k).1 k)=(BP t p x y q top (k+1)).zs :=
 Mac.spl_lv (m:=⟨2,0,0,(inS t p x y q top (k+1)).2.1,(inS t p x y q top k).2.2⟩) ⟨Gi _ _ _ _ _ _ _,JC _ _ _ _ _ _ _ (by omega)⟩ _ _
theorem IH : Tryz.zeroCells50.setIfInBounds 0 (.int .i64 2)=ic (Mac.zs ⟨2,0,0,Bn,zl 64⟩):=by kernel_rfl
def okN (t p:Pic)(x y q top:Int):Prop:=AS t p∧BJ t x y∧(0≤q∧q≤15)∧(0≤top∧top≤y)
noncomputable instance (t p : Pic) (x y q top : Int) : Decidable (okN t p x y q top) := Classical.propDecidable _
noncomputable def Rj (t p : Pic)(x y q top : Int): Mac := if okN t p x y q top then BP t p x.toNat y.toNat q.toNat top 4 else mac0
structure NS (w : World) (g n c : Nat) (tw th : Int) (a : Option Addr) (nt ct W H B O M : Nat) (Z ms : List Int) (wx : World) : Prop where
 ex:Ext w wx
 own:wx.ownsRow w.heap.size 3 1 (.slice (some ⟨g,0,none⟩) n c) n (Z.map (Value.int .i64))
 bt:wx.heap[B]?=some (.cells #[.int .i64 tw,.int .i64 th,.slice a nt ct] 30 (0,0))
 br:wx.heap[O]?=some (.cells #[.int .i64 W,.int .i64 H,.slice (some ⟨g,0,none⟩) n c] 30 (0,0))
 bz:IB wx (B+1+1) 50 (zl 71)
 bm:IB wx M 50 ms
 h1:w.heap.size≤B∧w.heap.size≤g∧w.heap.size≤O∧w.heap.size≤M
 h2:B≠g∧O≠g∧B+1+1≠g∧M≠g∧M≠B∧M≠O∧M≠B+1+1
section
variable {w wx wy : World} {g n c nt ct W H B O M : Nat} {tw th : Int} {a : Option Addr} {Z Z' ms ms' : List Int}
theorem NS.e (h:NS w g n c tw th a nt ct W H B O M Z ms wx)(e:Ext wx wy):NS w g n c tw th a nt ct W H B O M Z ms wy :=
 ⟨h.ex.trans e,Ae h.own e,e.blk h.bt,e.blk h.br,h.bz.ext e,h.bm.ext e,h.h1,h.h2⟩
theorem NS.lt (h:NS w g n c tw th a nt ct W H B O M Z ms wx):B<wx.heap.size∧g<wx.heap.size∧O<wx.heap.size∧M<wx.heap.size∧B+1+1<wx.heap.size :=
 ⟨lt_of_block h.bt,(h.own.lt g rfl).2,lt_of_block h.br,h.bm.lt,h.bz.lt⟩
theorem NS.put (h:NS w g n c tw th a nt ct W H B O M Z ms wx)(gr:wx.grownBy wy (some g))(own:wy.ownsRow w.heap.size 3 1 (.slice (some ⟨g,0,none⟩) n c) n (Z'.map (Value.int .i64))):NS w g n c tw th a nt ct W H B O M Z' ms wy:=by
 have a1:=h.h1;have a2:=h.h2;exact⟨Ext.grown h.ex gr (fun k hk=>by cases hk;omega),own,Ar h.bt gr (by simp;omega),Ar h.br gr (by simp;omega),h.bz.gr gr (by simp;omega),h.bm.gr gr (by simp;omega),a1,a2⟩
theorem NS.mac (h:NS w g n c tw th a nt ct W H B O M Z ms wx)(gr:wx.grownBy wy (some M))(i:IB wy M 50 ms'):NS w g n c tw th a nt ct W H B O M Z ms' wy:=by
 have a1:=h.h1;have a2:=h.h2;exact⟨Ext.grown h.ex gr (fun k hk=>by cases hk;omega),h.own.kept gr (.inr (by simp[Value.ownBlock];omega)),Ar h.bt gr (by simp;omega),Ar h.br gr (by simp;omega),h.bz.gr gr (by simp;omega),i,a1,a2⟩
theorem NS.loc {b K:Nat}(h:NS w g n c tw th a nt ct W H B O M Z ms wx)(gr:wx.grownBy wy (some b))(hb:K≤b)(hK:w.heap.size≤K∧B<K∧g<K∧O<K∧M<K∧B+1+1<K):NS w g n c tw th a nt ct W H B O M Z ms wy:=by
 have a1:=h.h1;exact⟨Ext.grown h.ex gr (fun k hk=>by cases hk;omega),h.own.kept gr (.inr (by simp[Value.ownBlock];omega)),Ar h.bt gr (by simp;omega),Ar h.br gr (by simp;omega),h.bz.gr gr (by simp;omega),h.bm.gr gr (by simp;omega),a1,h.h2⟩
def IA (w:World)(K:Nat)(v:Value):Prop:=∃(b:Nat) (us:List Int),v= .pointer (some ⟨b,0,none⟩)∧K≤b∧IB w b 47 us∧us.length=16
def EA (w:World)(K:Nat)(v:Value):Prop:=∃(b:Nat) (u:Ed),v= .pointer (some ⟨b,0,none⟩)∧K≤b∧EB w b u∧u.ln
def IS (w:World)(K:Nat)(v:Value)(U:List Int):Prop:=∃ b:Nat,v= .pointer (some ⟨b,0,none⟩)∧K≤b∧IB w b 47 U
def ES (w:World)(K:Nat)(v:Value)(E:Ed):Prop:=∃ b:Nat,v= .pointer (some ⟨b,0,none⟩)∧K≤b∧EB w b E
def StI (wx wy:World):Prop:=∃(b:Nat) (us vs:List Int),wx.grownBy wy (some b)∧IB wx b 47 us∧IB wy b 47 vs∧vs.length=16
def StE (wx wy:World):Prop:=∃(b:Nat) (u v:Ed),wx.grownBy wy (some b)∧EB wx b u∧EB wy b v∧v.ln
theorem IB.ne_E {b d:Nat}{us:List Int}{u:Ed}(h:IB w b 47 us)(k:EB w d u):b≠d:=by
 intro e;subst e;have h1:w.heap[b]?=some (.cells (ic us) 47 (0,0)):=h;have h2:w.heap[b]?=some (.cells (edC u) 67 (0,0)):=k;rw[h1]at h2;simp only[Option.some.injEq,Obj.cells.injEq]at h2;exact absurd h2.2.1 (by decide)
variable {K : Nat} {v : Value} {U : List Int} {E : Ed}
theorem IA.ext (h:IA wx K v)(e:Ext wx wy):IA wy K v:=by obtain⟨b,us,h1,h2,h3,h4⟩:=h;exact⟨b,us,h1,h2,h3.ext e,h4⟩
theorem EA.ext (h:EA wx K v)(e:Ext wx wy):EA wy K v:=by obtain⟨b,us,h1,h2,h3,h4⟩:=h;exact⟨b,us,h1,h2,h3.ext e,h4⟩
theorem IS.ext (h:IS wx K v U)(e:Ext wx wy):IS wy K v U:=by obtain⟨b,h1,h2,h3⟩:=h;exact⟨b,h1,h2,h3.ext e⟩
theorem ES.ext (h:ES wx K v E)(e:Ext wx wy):ES wy K v E:=by obtain⟨b,h1,h2,h3⟩:=h;exact⟨b,h1,h2,h3.ext e⟩
theorem IA.stI (h:IA wx K v)(s:StI wx wy):IA wy K v:=by
 obtain⟨b,us,h1,h2,h3,h4⟩:=h;obtain⟨d,u1,u2,s1,s2,s3,s4⟩:=s
 by_cases e:b=d
 ·subst e;exact⟨b,u2,h1,h2,s3,s4⟩
 ·exact⟨b,us,h1,h2,h3.gr s1 (by simp;omega),h4⟩
theorem IA.stE (h:IA wx K v)(s:StE wx wy):IA wy K v:=by
 obtain⟨b,us,h1,h2,h3,h4⟩:=h;obtain⟨d,u1,u2,s1,s2,s3,s4⟩:=s;have:=h3.ne_E s2;exact⟨b,us,h1,h2,h3.gr s1 (by simp;omega),h4⟩
theorem EA.stE (h:EA wx K v)(s:StE wx wy):EA wy K v:=by
 obtain⟨b,us,h1,h2,h3,h4⟩:=h;obtain⟨d,u1,u2,s1,s2,s3,s4⟩:=s
 by_cases e:b=d
 ·subst e;exact⟨b,u2,h1,h2,s3,s4⟩
 ·exact⟨b,us,h1,h2,h3.gr s1 (by simp;omega),h4⟩
theorem EA.stI (h:EA wx K v)(s:StI wx wy):EA wy K v:=by
 obtain⟨b,us,h1,h2,h3,h4⟩:=h;obtain⟨d,u1,u2,s1,s2,s3,s4⟩:=s;have:=s2.ne_E h3;exact⟨b,us,h1,h2,h3.gr s1 (by simp;omega),h4⟩
theorem IS.stE (h:IS wx K v U)(s:StE wx wy):IS wy K v U:=by
 obtain⟨b,h1,h2,h3⟩:=h;obtain⟨d,u1,u2,s1,s2,s3,s4⟩:=s;have:=h3.ne_E s2;exact⟨b,h1,h2,h3.gr s1 (by simp;omega)⟩
theorem ES.stI (h:ES wx K v E)(s:StI wx wy):ES wy K v E:=by
 obtain⟨b,h1,h2,h3⟩:=h;obtain⟨d,u1,u2,s1,s2,s3,s4⟩:=s;have:=s2.ne_E h3;exact⟨b,h1,h2,h3.gr s1 (by simp;omega)⟩
end
end Go.Proofs.YtijnbalgnhigbaaGreatDoor
namespace Go.Proofs.YtijnbalgnhigbaaGreatDoor
open Go.RowKit
theorem O8 (zs ys:List Int)(off:Nat)(h:off+zs.length≤ys.length):(ic zs).zipIdx.foldl (fun cs (x:Value×Nat)=>cs.setIfInBounds (off+x.2) x.1) (ic ys)=ic (spl ys off zs):=by
 have key:∀(zs ys:List Int) (k:Nat),off+k+zs.length≤ys.length→((zs.map (Value.int .i64)).zipIdx k).foldl (fun cs (x:Value×Nat)=>cs.setIfInBounds (off+x.2) x.1) (ic ys)=ic (spl ys (off+k) zs):=by
  intro zs
  induction zs with
  | nil=>intro ys k _;simp[Lm]
  | cons z zs ih =>
   intro ys k hk;simp only[List.length_cons]at hk;rw[List.map_cons,List.zipIdx_cons,List.foldl_cons];have e:(ic ys).setIfInBounds (off+k) (.int .i64 z)=ic (ys.set (off+k) z):=by simp[ic,List.map_set]
   rw[e,ih _ _ (by simp;omega),show off+(k+1)=off+k+1 by omega,JX (by omega)]
 have:=key zs ys 0 (by omega);rw[Nat.add_zero]at this;rw[←this,←Array.foldl_toList];simp[ic]
theorem Rh : (Array.range (2*71)).map (fun i=>Tryz.zeroCells50[i%Tryz.zeroCells50.size]!)=ic (zl 142):=by kernel_rfl
theorem Qg : (Tryz.prog.info? 50).map (fun i=>(i.zero,i.size))=some (some (.agg Tryz.zeroCells50),71):=by kernel_rfl
theorem Qr (xs ys zs:List Int):spl (xs++zs) xs.length ys=xs++(ys++zs.drop ys.length):=by
 unfold spl;rw[List.take_left,List.append_assoc,List.drop_append,List.drop_of_length_le (by omega)];simp
theorem Ks {place:Nat→Option (Nat×Nat)}{i off size:Nat}{zs ys:List Int}(rest:List (Nat×Value))(hp:place i=some (off,size))(hz:zs.length=size)(h:off+size≤ys.length):
 Instr.fill place (ic ys) ((i,.agg (ic zs))::rest)=Instr.fill place (ic (spl ys off zs)) rest:=by
 have hs:=O8 zs ys off (by omega);have e:Instr.fill place (ic ys) ((i,.agg (ic zs))::rest)=if(ic zs).size≠size || off+(ic zs).size>(ic ys).size then none else Instr.fill place ((ic zs).zipIdx.foldl (fun cs (x:Value×Nat)=>cs.setIfInBounds (off+x.2) x.1) (ic ys)) rest:=by
  rw[Instr.fill,hp];rfl
 rw[e,if_neg (by simp[AJ];omega),hs]
theorem spl2 (z0 z1:List Int)(h0:z0.length=71)(h1:z1.length=71):spl (spl (zl 142) 0 z0) 71 z1=z0++z1:=by
 have a:spl (zl 142) 0 z0=z0++zl 71:=by unfold spl;rw[h0];rfl
 have:=Qr z0 z1 (zl 71);rw[h0,h1]at this;rw[a,this];simp[zl]
theorem Qp (w:World)(z0 z1:List Int)(h0:z0.length=71)(h1:z1.length=71):
 (Instr.buildSlice 43 2 #[(0,.agg (ic z0)),(1,.agg (ic z1))]).run Tryz.prog w= .ok (.slice (some ⟨w.heap.size,0,none⟩) 2 2) (w.alloc (.cells (ic (z0++z1)) 50)):=by
 have hi:∃ i,Tryz.prog.info? 50=some i∧i.zero=some (.agg Tryz.zeroCells50)∧i.size=71:=by
  have:=Qg;cases hq:Tryz.prog.info? 50 with
  | none=>rw[hq]at this;simp at this
  | some i=>rw[hq]at this;simp at this;exact⟨i,rfl,this.1,this.2⟩
 obtain⟨i,hi,hz,hs⟩:=hi;have hf:Instr.fill (fun i=>some (i*71,71)) ((Array.range (2*71)).map (fun i=>Tryz.zeroCells50[i%Tryz.zeroCells50.size]!)) [(0,.agg (ic z0)),(1,.agg (ic z1))]=some (ic (z0++z1)):=by
  rw[Rh,Ks _ rfl h0 (by rw[AB];omega),Ks _ rfl h1 (by rw[Gr (by rw[h0,AB];omega),AB];omega),Nat.zero_mul,Nat.one_mul,spl2 z0 z1 h0 h1];rfl
 have hsz:(sizeOf 50).run Tryz.prog w= .ok 71 w:=by simp[sizeOf,typeInfo,hi,hs]
 have hzv:(zeroValue 50).run Tryz.prog w= .ok (.agg Tryz.zeroCells50) w:=by simp[zeroValue,typeInfo,hi,hz]
 unfold Instr.buildSlice;rw[Sem.run_bind,run_underlying Tryz.underlying43 w,Result.andThen_ok];show Sem.run _ (do let size ←sizeOf 50;_) w=_;rw[Sem.run_bind,hsz,Result.andThen_ok,if_neg (by decide),if_neg (by decide)];simp only[Sem.run_bind,hzv,Result.andThen_ok,Sem.run_pure,Value.cells];rw[hf];rfl
theorem Ns {ops:Array Oper}{rest:List Oper}{o:Oper}{a:Act}{w:World}{Q:Exit→Act→World→Prop}(x0 x1:Operand)(ho:o.op= .buildSlice 43 2 #[(0,x0),(1,x1)])(hgd:Region.wanted o (yielded ops a.tmps)=true)
 (z0 z1:List Int) (e0:a.eval x0= .agg (ic z0)) (e1:a.eval x1= .agg (ic z1)) (h0:z0.length=71) (h1:z1.length=71)
 (hK:wpList Tryz.prog ops Q rest (a.put o.dst (.slice (some ⟨w.heap.size,0,none⟩) 2 2)) (w.alloc (.cells (ic (z0++z1)) 50))):wpList Tryz.prog ops Q (o::rest) a w:=by
 refine AG hgd fun _ hK' => ?_
 unfold Oper.wp execOp;have h:=Qp w z0 z1 h0 h1;rw[←e0,←e1]at h;simp only[ho,List.map_toArray,List.map_cons,List.map_nil,Sem.run_bind,Sem.run_pure,Result.andThen_ok,h];exact hK' _ _ hK
theorem Jn {zs ys:List Int}{i n:Nat}(h:i+ys.length≤zs.length)(hn:ys.length=n):sub (spl zs i ys) i n=ys:=by
 subst hn;unfold sub spl;rw[List.append_assoc,List.drop_append_of_le_length (by simp;omega),List.drop_of_length_le (by simp;omega),List.nil_append,List.take_left]
theorem Cw (t:Pic)(W H x y:Nat)(px:List Int)(q:Nat)(top:Int)(a b:Option Addr)(c d n l:Nat)(w:World)(hT:TabQ w)(hn:n=t.px.length)(hl:l=px.length)(nc:n≤9223372036854775807)(lc:l≤9223372036854775807)(s:Sl w a n (t.px.map (Value.int .i64)))(u:Sl w b l (px.map (Value.int .i64)))(htv:t.valid)(hpv:Pic.valid ⟨W,H,px⟩)(hx8:x+8≤W)(hy8:y+8≤H)(hW32:W≤32)(hH32:H≤32)(hq:q<16)(ht0:0≤top)(h0:AS t ⟨W,H,px⟩)(h1:(0≤(x:Int))∧((x:Int)<t.w)∧((x:Int)%8=0)∧(0≤(y:Int))∧((y:Int)<t.h)∧((y:Int)%8=0))(h2:0≤(q:Int)∧(q:Int)≤15)(h3:0≤top)(h4:top≤(y:Int)):
 Calls Tryz.prog 23 #[.agg #[.int .i64 t.w,.int .i64 t.h,.slice a n c],.agg #[.int .i64 W,.int .i64 H,.slice b l d],.int .i64 (x:Nat),.int .i64 (y:Nat),.int .i64 (q:Nat),.int .i64 top] w fun e w'=>e= .returned (.agg (ic (BP t ⟨W,H,px⟩ x y q top 4).zs))∧Ext w w':=by
 have HN:=Aa hn;have HL0:=Aa hl;have hnW:l=W*H:=by
  have h1:=hpv.2.2.1;simp only[←Int.natCast_mul]at h1;rw[hl];exact Int.ofNat.inj h1
 have hn1k:l≤1024:=by rw[hnW];exact Nat.mul_le_mul hW32 hH32
 have inn:∀ u v:Nat,u+4≤H→v+4≤W→(u+3)*W+v+3<l:=fun u v h1 h2=>by
  have h3:=Nat.mul_le_mul_right W (show u+4≤H by omega);rw[Nat.add_mul,Nat.mul_comm H W,←hnW]at h3;rw[Nat.add_mul];omega
 have hl0:0<l:=by have:=inn 0 0 (by omega) (by omega);omega
 have Inn:=Aa inn;have HV:=Aa (fun k=>Ix t hpv x y q top k);have HLn:=Aa (fun k=>show l=(inS t ⟨W,H,px⟩ x y q top k).1.length by rw[I8,hl]);have HMl:=Aa (fun k (hk:k≤4)=>Mac.zs_len (FG t ⟨W,H,px⟩ x y q top hk));have HL:=Aa (show l=(Pic.mk W H px).px.length from hl);clear hn hl hpv hnW inn;have D0:=Aa (show decide (AS t ⟨W,H,px⟩)=true from decide_eq_true h0);have D1:=Aa (show decide ((0≤(x:Int))∧((x:Int)<t.w)∧((x:Int)%8=0)∧(0≤(y:Int))∧((y:Int)<t.h)∧((y:Int)%8=0))=true from decide_eq_true h1);have Q2:=Aa h2;have f3:decide (top<0)=false:=by simpa using h3
 have f4:decide ((y:Int)<top)=false:=by simpa using h4
 obtain⟨X0_0,X1_0,X2_0,E_0⟩:=bxs3 w (.cells #[.int .i64 t.w,.int .i64 t.h,.slice a n c] 30) (.cells #[.int .i64 W,.int .i64 H,.slice b l d] 30) (.cells (ic (zl 71)) 50);have X2_0:IB _ _ 50 (zl 71):=X2_0;clear h0 h1 h2 h3 h4;obtain⟨-,k0_0,k0_1,k0_2,-⟩:=bx3 X0_0;obtain⟨-,k1_0,k1_1,k1_2,-⟩:=bx3 X1_0;go_enter Tryz.func23,Tryz.ntmps23
 go_wp2_with (refine Au 50 rfl rfl 71 Bf ?_;(try simp only[World.size_alloc]))
 refine(Du t ⟨W,H,px⟩ a b c d n l _ HN.out HL.out nc lc (s.ext E_0) (u.ext E_0)).mono ?_;rw[D0.out]
 rintro e w_1 ⟨rfl,e_1⟩
 have X0_1:=e_1.blk X0_0;have X1_1:=e_1.blk X1_0;have X2_1:=X2_0.ext e_1;have E_1:=E_0.trans e_1;clear k0_0 k0_1 k0_2 X0_0 k1_0 k1_1 k1_2 X1_0 X2_0 E_0 e_1;obtain⟨-,k0_0,k0_1,k0_2,-⟩:=bx3 X0_1;obtain⟨-,k1_0,k1_1,k1_2,-⟩:=bx3 X1_1;go_wp2_with fail
 refine(Ev t x y a c n _).mono ?_;rw[D1.out]
 rintro e w_2 ⟨rfl,e_2⟩
 have X0_2:=e_2.blk X0_1;have X1_2:=e_2.blk X1_1;have X2_2:=X2_1.ext e_2;have E_2:=E_1.trans e_2;clear k0_0 k0_1 k0_2 X0_1 k1_0 k1_1 k1_2 X1_1 X2_1 E_1 e_2;obtain⟨-,k0_0,k0_1,k0_2,-⟩:=bx3 X0_2;obtain⟨-,k1_0,k1_1,k1_2,-⟩:=bx3 X1_2;go_wp2_with fail
 refine(KD q _ Q2.out).mono ?_
 rintro e w_s2 ⟨rfl,rfl⟩
 have hlo:=X2_2.lt;obtain⟨B,hB⟩:∃ B,B=w.heap.size:=⟨_,rfl⟩;rw[←hB]at X0_2 X1_2 X2_2 hlo⊢;have hwB:w.heap.size≤B:=by omega
 have HB:=Aa hB;clear hB k0_0 k0_1 k0_2 k1_0 k1_1 k1_2;obtain⟨-,k1_0,k1_1,k1_2,-⟩:=bx3 X1_2;go_wp2_with fail
 refine(Kq W H b d l px _ (by omega) (u.ext E_2)).mono ?_
 rintro e wa ⟨a1,c1,rfl,own1,e2⟩
 have hgo:∃ g,a1=some ⟨g,0,none⟩∧g<wa.heap.size∧w_2.heap.size≤g:=by
  rcases own1.2 with⟨-,h0⟩|⟨g,cc,cur,hv,hb,hb2,-⟩
  ·omega
  ·simp only[Value.slice.injEq]at hv;exact⟨g,hv.1,lt_of_block hb2,hb⟩
 obtain⟨g,rfl,hg1,hg2⟩:=hgo;have r0:=e2.blk X0_2;have r2:=X2_2.ext e2;have E2:=E_2.trans e2;have own0:=AH own1 E_2.size;clear X0_2 X1_2 X2_2 E_2 e2 k1_0 k1_1 k1_2 own1;have a5:=Ext.alloc wa (.cells #[.int .i64 W,.int .i64 H,.slice (some ⟨g,0,none⟩) l c1] 30);have z0:=a5.blk r0;have z2:=r2.ext a5;have z4:=Aj wa (.cells #[.int .i64 W,.int .i64 H,.slice (some ⟨g,0,none⟩) l c1] 30);have own2:=Ae own0 a5;have E3:=E2.trans a5;have hO1:=r2.lt;obtain⟨O,hOe⟩:∃ O,O=wa.heap.size:=⟨_,rfl⟩;rw[←hOe]at z4 hg1 hO1;have HO2:=Aa hOe;clear r0 r2 own0 E2 a5;have hOl:=lt_of_block z4;go_upto_region 4 with fail
 rw[←hOe];clear hOe;generalize wa.alloc (.cells #[.int .i64 W,.int .i64 H,.slice (some ⟨g,0,none⟩) l c1] 30)=w2 at *;have ia:=IB.new w2 50 (zl 71);have ea:=Ext.alloc w2 (.cells (ic (zl 71)) 50);have Y0:=ea.blk z0;have Y2:=z2.ext ea;have Y4:=ea.blk z4;have own3:=Ae own2 ea;have F0:=E3.trans ea;obtain⟨M,hM⟩:∃ M,M=w2.heap.size:=⟨_,rfl⟩;go_wp2_with (first|(refine Au 50 rfl rfl 71 Bf ?_;(try simp only[World.size_alloc]))|(refine Af 50 _ _ rfl rfl ia 0 71 rfl _ rfl (Mac.zs ⟨2,0,0,Bn,zl 64⟩) (by exact IH) Ah (Mac.zs_len ⟨rfl,AB 64⟩) (by simp[zl]) ?_;intro w5 i5 g5;refine Hid.out ?_))
 rw[Ap (by rw[Mac.zs_len ⟨rfl,AB 64⟩,AB])]at i5;rw[←hM]at i5 g5 hOl⊢;have HM:=Aa hM;clear hM ia z0 z2 z4 own2 E3 ea;have NN:NS w g l c1 t.w t.h a n c W H B O M px (Mac.zs ⟨2,0,0,Bn,zl 64⟩) w5 :=
  ⟨Ext.grown F0 g5 (fun k e=>by cases e;omega),own3.kept g5 (.inr (by simp[Value.ownBlock];omega)),Ar Y0 g5 (by simp;omega),Ar Y4 g5 (by simp;omega),Y2.gr g5 (by simp;omega),i5,⟨hwB,by omega,by omega,by omega⟩,⟨by omega,by omega,by omega,by omega,by omega,by omega,by omega⟩⟩
 clear Y0 Y2 Y4 own3 F0 i5 g5;refine Aa ?_;go_wp2_with fail
 go_loopw [50] (fun i wr=>∃ k:Nat,k≤4∧i= .int .i64 k∧NS w g l c1 t.w t.h a n c W H B O M (inS t ⟨W,H,px⟩ x y q top k).1 (BP t ⟨W,H,px⟩ x y q top k).zs wr) (fun i _=>4-(intOf i).toNat)
 case atStart=>exact⟨0,by omega,rfl,NN⟩
 case round =>
  obtain⟨k,hk,rfl,N0⟩:=hrel;clear NN
  by_cases hlt:k<4
  ·have hd:decide ((k:Int)<4)=true:=by simp;omega
   have hZv:=HV.out k;have hZn:=HLn.out k;have hms:=HMl.out k (by omega);have hst1:=LH t ⟨W,H,px⟩ x y q top hlt;have hst2:=LG t ⟨W,H,px⟩ x y q top hlt;have hst3:=show putS (inS t ⟨W,H,px⟩ x y q top k).1 W (x+k%2*4) (y+k/2*4) (inP t ⟨W,H,px⟩ x y top (inS t ⟨W,H,px⟩ x y q top k).1 k) (dec (inL t ⟨W,H,px⟩ x y q top (inS t ⟨W,H,px⟩ x y q top k).1 k) q) 16=(inS t ⟨W,H,px⟩ x y q top (k+1)).1 from rfl;rw[←hst1]at hst2;clear hst1;unfold inL inP inM inE inU at hst2 hst3;simp only at hst2 hst3;obtain⟨Z,hZ⟩:∃ Z,Z=(inS t ⟨W,H,px⟩ x y q top k).1:=⟨_,rfl⟩;obtain⟨Z1,hZ1⟩:∃ Z,Z=(inS t ⟨W,H,px⟩ x y q top (k+1)).1:=⟨_,rfl⟩;obtain⟨ms,hms0⟩:∃ m,m=(BP t ⟨W,H,px⟩ x y q top k).zs:=⟨_,rfl⟩;obtain⟨ms2,hms2⟩:∃ m,m=(BP t ⟨W,H,px⟩ x y q top (k+1)).zs:=⟨_,rfl⟩;rw[←hZ]at N0 hZv hZn hst2 hst3;rw[←hms0]at N0 hms hst2;rw[←hZ1]at hst3;rw[←hms2]at hst2;have HZ1:=Aa hZ1;have HM2:=Aa hms2;have HZv:=Aa hZv;have HZn:=Aa hZn;have Hms:=Aa hms;obtain⟨xi,hxi⟩:∃ v,v=x+k%2*4:=⟨_,rfl⟩;obtain⟨yj,hyj⟩:∃ v,v=y+k/2*4:=⟨_,rfl⟩;rw[←hxi,←hyj]at hst2 hst3;have hxi4:xi+4≤W:=by omega
   have hyj4:yj+4≤H:=by omega
   have Hxi:=Aa (show(x:Int)+(k:Int)%2*4=((xi:Nat):Int) by omega);have Hyj:=Aa (show(y:Int)+(k:Int)/2*4=((yj:Nat):Int) by omega);have hI:=Inn.out yj xi hyj4 hxi4;have hEok:=Jw hZv (xi:Int) (yj:Int) top;have hUs:=Gp htv (xi:Int) (yj:Int);have hUl:=CO t (xi:Int) (yj:Int);obtain⟨U,hU⟩:∃ U,U=prt t (xi:Int) (yj:Int):=⟨_,rfl⟩;obtain⟨E,hE⟩:∃ E,E=edg ⟨W,H,Z⟩ (xi:Int) (yj:Int) top:=⟨_,rfl⟩;rw[←hU]at hst2 hst3 hUs hUl;rw[←hE]at hst2 hst3 hEok;have hmd4:=My U E;obtain⟨md,hmd⟩:∃ m,m=bst U E:=⟨_,rfl⟩;rw[←hmd]at hst2 hst3 hmd4;have hPs:=Dm md hEok;have hPl:=A9 md E;obtain⟨PR,hPR⟩:∃ P,P=prd md E:=⟨_,rfl⟩;rw[←hPR]at hst2 hst3 hPs hPl;have hdr:=Cm hUs hPs hUl hPl;have hLl:=BF (dif U PR) q;have hLb:=IZ (Bo U PR) hdr hq;obtain⟨L,hL⟩:∃ L,L=cod (dif U PR) q:=⟨_,rfl⟩;rw[←hL]at hst2 hst3 hLl hLb;obtain⟨D,hD⟩:∃ D,D=dec L q:=⟨_,rfl⟩;rw[←hD]at hst3;have HDl:=Aa (show D.length=16 by rw[hD,Dg]);have HDb:=Aa (show bdA 1099511627776 D by rw[hD];exact GM _ _);have HPb:=Aa (Cf hPs);have HUb:=Aa (Cf hUs);have Hst2:=Aa hst2;have Hst3:=Aa hst3;have HEok:=Aa hEok;have HUs:=Aa hUs;have HUl:=Aa hUl;have HPs:=Aa hPs;have HPl:=Aa hPl;have Hdr:=Aa hdr;have HLl:=Aa hLl;have HLb:=Aa hLb;have HU:=Aa hU;have HE:=Aa hE;have HMd:=Aa hmd;have HPR:=Aa hPR;have HL:=Aa hL;have HD:=Aa hD;have Hms1:=Aa (show(ms.set (3+k) (md:Int)).length=71 by rw[List.length_set,hms]);have Hmn:=Aa (show nth (ms.set (3+k) (md:Int)) (3+k)=(md:Int) by simp[nth,hms,show 3+k<71 by omega]);have Hsl:=Aa (show sub ms2 (7+k*16) 16=L by rw[←hst2];exact Jn (by rw[List.length_set,hms,hLl];omega) hLl);have Hm2l:=Aa (show ms2.length=71 by rw[←hst2,Gr (by rw[List.length_set,hms,hLl];omega),List.length_set,hms]);clear hZ hZ1 hms0 hms2 hxi hyj hU hE hmd hPR hL hD hst2 hst3 hEok hUs hUl hPs hPl hdr hLl hLb hZv hZn hms;obtain⟨K,hK0⟩:∃ K,K=wr.heap.size:=⟨_,rfl⟩;have hlt1:=N0.lt;rw[←hK0]at hlt1;have hes:=N0.ex.size;rw[←hK0]at hes;have LT:=Aa (show w.heap.size≤K∧B<K∧g<K∧O<K∧M<K∧B+1+1<K from ⟨hes,hlt1.1,hlt1.2.1,hlt1.2.2.1,hlt1.2.2.2.1,hlt1.2.2.2.2⟩);have HK:=Aa hK0;clear hK0 hlt1 hes;go_wp2_with fail
   refine(DL k _ hlt).mono ?_
   rintro e wx1 ⟨rfl,rfl⟩
   go_wp2_with fail
   have hext:Stab (fun wa wb=>Ext wa wb) (fun i own ys wx=>match i with|0=>own= .agg #[.int .i64 t.w,.int .i64 t.h,.slice a n c]|1=>own= .int .i64 (x:Nat)|2=>own= .int .i64 ((k:Int)%2*4)|3=>own= .int .i64 (xi:Nat)|4=>own= .int .i64 (y:Nat)|5=>own= .int .i64 ((k:Int)/2*4)|6=>own= .int .i64 (yj:Nat)|7=>own= .agg (ic U)|8=>own= .agg #[.int .i64 W,.int .i64 H,.slice (some ⟨g,0,none⟩) l c1]|9=>own= .int .i64 (x:Nat)|10=>own= .int .i64 ((k:Int)%2*4)|11=>own= .int .i64 (xi:Nat)|12=>own= .int .i64 (y:Nat)|13=>own= .int .i64 ((k:Int)/2*4)|14=>own= .int .i64 (yj:Nat)|15=>own= .int .i64 top|16=>own= .agg (edC E)|17=>IA wx K own|18=>EA wx K own|19=>IS wx K (ys 17) U|20=>ES wx K (ys 18) E|_=>True):=by
    intro i own ys wa wb e h
    match i,h with
    | 0,h|1,h|2,h|3,h|4,h|5,h|6,h|7,h|8,h|9,h|10,h|11,h|12,h|13,h|14,h|15,h|16,h=>exact h
    | 17,h|18,h|19,h|20,h=>exact h.ext e
    | _+21,_=>trivial
   have Hext:=Aa hext;clear hext;refine An (by kernel_rfl) [(18,17),(19,18),(58,0),(59,1),(60,2),(61,3),(62,4),(63,5),(64,6),(65,7),(66,8),(67,9),(68,10),(69,11),(70,12),(71,13),(72,14),(73,15),(74,16)] [[],[],[],[1,2],[],[],[4,5],[0,1,2,3,4,5,6],[],[],[],[9,10],[],[],[12,13],[],[0,1,2,3,4,5,6,7,8,9,10,11,12,13,14,15],[],[],[0,1,2,3,4,5,6,7,8,9,10,11,12,13,14,15,16,17,18],[0,1,2,3,4,5,6,7,8,9,10,11,12,13,14,15,16,17,18,19]] (fun i own ys wx=>match i with|0=>own= .agg #[.int .i64 t.w,.int .i64 t.h,.slice a n c]|1=>own= .int .i64 (x:Nat)|2=>own= .int .i64 ((k:Int)%2*4)|3=>own= .int .i64 (xi:Nat)|4=>own= .int .i64 (y:Nat)|5=>own= .int .i64 ((k:Int)/2*4)|6=>own= .int .i64 (yj:Nat)|7=>own= .agg (ic U)|8=>own= .agg #[.int .i64 W,.int .i64 H,.slice (some ⟨g,0,none⟩) l c1]|9=>own= .int .i64 (x:Nat)|10=>own= .int .i64 ((k:Int)%2*4)|11=>own= .int .i64 (xi:Nat)|12=>own= .int .i64 (y:Nat)|13=>own= .int .i64 ((k:Int)/2*4)|14=>own= .int .i64 (yj:Nat)|15=>own= .int .i64 top|16=>own= .agg (edC E)|17=>IA wx K own|18=>EA wx K own|19=>IS wx K (ys 17) U|20=>ES wx K (ys 18) E|_=>True) (fun kx wx=>NS w g l c1 t.w t.h a n c W H B O M Z ms wx∧K≤wx.heap.size) (by kernel_rfl) (by kernel_rfl) (by kernel_rfl) ?g0_r1 ?gop_r1 ?gend_r1
   case g0_r1=>exact⟨N0.e (Ext.drewN _ 1),by rw[HK.out];exact Nat.le_refl _⟩
   case gop_r1 =>
    refine⟨?o0,?_,?_,?o3,?_,?_,?o6,?o7,?o8,?_,?_,?o11,?_,?_,?o14,?_,?o16,?o17,?o18,?o19,?o20,trivial⟩ <;> (intro kx xs wx hk hG hD hI Qo Kx hK hQo;simp only[Ad,Nat.reduceAdd,Nat.reduceEqDiff,↓reduceIte]at hQo⊢)
    case o0 =>
     clear hD hI;obtain⟨-,k0,k1,k2,-⟩:=bx3 hG.1.bt;go_wp2;exact hK.out _ _ ⟨rfl,hG,kkp⟩
    case o3 =>
     rw[ddq (hD 1 rfl),ddq (hD 2 rfl)]at hQo⊢;clear hD hI;go_wp2;exact hK.out _ _ ⟨by rw[←Hxi.out],hG,fun _ _ _ _ _ _ h=>h⟩
    case o6 =>
     rw[ddq (hD 4 rfl),ddq (hD 5 rfl)]at hQo⊢;clear hD hI;go_wp2;exact hK.out _ _ ⟨by rw[←Hyj.out],hG,fun _ _ _ _ _ _ h=>h⟩
    case o7 =>
     rw[ddq (hD 0 rfl),ddq (hD 3 rfl),ddq (hD 6 rfl)]at hQo⊢;clear hD hI;go_wp2_with fail
     refine(Me t (xi:Int) (yj:Int) a c n _ htv HN.out (s.ext hG.1.ex) (by omega) (by omega) (by omega) (by omega)).mono ?_
     rintro e w9 ⟨rfl,e9⟩
     rw[←HU.out];go_wp2;exact hK.out _ _ ⟨rfl,⟨hG.1.e e9,Nat.le_trans hG.2 e9.size⟩,fun i _ _ _ own ys h=>Hext.out i own ys _ _ e9 h⟩
    case o8 =>
     clear hD hI;obtain⟨-,k0,k1,k2,-⟩:=bx3 hG.1.br;go_wp2;exact hK.out _ _ ⟨rfl,hG,kkp⟩
    case o11 =>
     rw[ddq (hD 9 rfl),ddq (hD 10 rfl)]at hQo⊢;clear hD hI;go_wp2;exact hK.out _ _ ⟨by rw[←Hxi.out],hG,fun _ _ _ _ _ _ h=>h⟩
    case o14 =>
     rw[ddq (hD 12 rfl),ddq (hD 13 rfl)]at hQo⊢;clear hD hI;go_wp2;exact hK.out _ _ ⟨by rw[←Hyj.out],hG,fun _ _ _ _ _ _ h=>h⟩
    case o16 =>
     rw[ddq (hD 8 rfl),ddq (hD 11 rfl),ddq (hD 14 rfl),ddq (hD 15 rfl)]at hQo⊢;clear hD hI;go_wp2_with fail
     refine(Kr ⟨W,H,Z⟩ (xi:Int) (yj:Int) top (some ⟨g,0,none⟩) c1 l _ HZv.out HZn.out (Sl.of_owns hG.1.own) (by omega) (by omega) (by omega) (by omega)).mono ?_
     rintro e w9 ⟨rfl,e9⟩
     rw[←HE.out];go_wp2;exact hK.out _ _ ⟨rfl,⟨hG.1.e e9,Nat.le_trans hG.2 e9.size⟩,fun i _ _ _ own ys h=>Hext.out i own ys _ _ e9 h⟩
    case o17 =>
     clear hD hI;have ea:=Ext.alloc wx (.cells (ic (List.replicate 16 0)) 47);go_wp2;exact hK.out _ _ ⟨⟨_,_,rfl,hG.2,IB.new _ _ (List.replicate 16 0),by simp⟩,⟨hG.1.e ea,Nat.le_trans hG.2 ea.size⟩,fun i _ _ _ own ys h=>Hext.out i own ys _ _ ea h⟩
    case o18 =>
     clear hD hI;have ea:=Ext.alloc wx (.cells (edC ed0) 67);go_wp2;exact hK.out _ _ ⟨⟨_,_,rfl,hG.2,EB.new _ ed0,D7⟩,⟨hG.1.e ea,Nat.le_trans hG.2 ea.size⟩,fun i _ _ _ own ys h=>Hext.out i own ys _ _ ea h⟩
    case o19 =>
     have d17:IA wx K (xs 17):=hD 17 rfl;have d7:_=_:=hD 7 rfl;clear hD hI;generalize hx17:xs 17=y17 at *;have Hx17:=Aa hx17;clear hx17;generalize xs 7=y7 at *;obtain⟨b17,us17,rfl,hb17,z17,l17⟩:=d17;subst d7;refine Af 47 _ _ rfl rfl z17 0 16 rfl _ rfl U rfl Ag HUl.out (by rw[l17];omega) ?_;intro w9 i9 g9;rw[Ap (by rw[HUl.out,l17])]at i9;have hst:∀(wy:World),StI wx wy→Stbn 21 19 [[],[],[],[1,2],[],[],[4,5],[0,1,2,3,4,5,6],[],[],[],[9,10],[],[],[12,13],[],[0,1,2,3,4,5,6,7,8,9,10,11,12,13,14,15],[],[],[0,1,2,3,4,5,6,7,8,9,10,11,12,13,14,15,16,17,18],[0,1,2,3,4,5,6,7,8,9,10,11,12,13,14,15,16,17,18,19]] (fun i own ys wx=>match i with|0=>own= .agg #[.int .i64 t.w,.int .i64 t.h,.slice a n c]|1=>own= .int .i64 (x:Nat)|2=>own= .int .i64 ((k:Int)%2*4)|3=>own= .int .i64 (xi:Nat)|4=>own= .int .i64 (y:Nat)|5=>own= .int .i64 ((k:Int)/2*4)|6=>own= .int .i64 (yj:Nat)|7=>own= .agg (ic U)|8=>own= .agg #[.int .i64 W,.int .i64 H,.slice (some ⟨g,0,none⟩) l c1]|9=>own= .int .i64 (x:Nat)|10=>own= .int .i64 ((k:Int)%2*4)|11=>own= .int .i64 (xi:Nat)|12=>own= .int .i64 (y:Nat)|13=>own= .int .i64 ((k:Int)/2*4)|14=>own= .int .i64 (yj:Nat)|15=>own= .int .i64 top|16=>own= .agg (edC E)|17=>IA wx K own|18=>EA wx K own|19=>IS wx K (ys 17) U|20=>ES wx K (ys 18) E|_=>True) wx wy:=by
      intro wy hy ii hii hne hc own ys h
      match ii,h with
      | 0,h|1,h|2,h|3,h|4,h|5,h|6,h|7,h|8,h|9,h|10,h|11,h|12,h|13,h|14,h|15,h|16,h=>exact h
      | 17,h|18,h=>exact h.stI hy
      | 19,h=>exact absurd rfl hne
      | 20,h=>exact absurd hc (by decide)
      | _+21,_=>trivial
     exact hQo undef _ (hK.out _ _ ⟨⟨b17,Hx17.out,hb17,i9⟩,⟨hG.1.loc g9 hb17 LT.out,Nat.le_trans hG.2 g9.size⟩,hst _ ⟨b17,_,_,g9,z17,i9,HUl.out⟩⟩)
    case o20 =>
     have d18:EA wx K (xs 18):=hD 18 rfl;have d16:_=_:=hD 16 rfl;clear hD hI;generalize hx18:xs 18=y18 at *;have Hx18:=Aa hx18;clear hx18;generalize xs 16=y16 at *;obtain⟨b18,us18,rfl,hb18,z18,l18⟩:=d18;subst d16;refine A7 67 _ _ rfl rfl z18 rfl _ rfl (CJ E) 11 Aq (As HEok.out.ln) (As l18) ?_;intro w9 i9 g9;have hst:∀(wy:World),StE wx wy→Stbn 21 20 [[],[],[],[1,2],[],[],[4,5],[0,1,2,3,4,5,6],[],[],[],[9,10],[],[],[12,13],[],[0,1,2,3,4,5,6,7,8,9,10,11,12,13,14,15],[],[],[0,1,2,3,4,5,6,7,8,9,10,11,12,13,14,15,16,17,18],[0,1,2,3,4,5,6,7,8,9,10,11,12,13,14,15,16,17,18,19]] (fun i own ys wx=>match i with|0=>own= .agg #[.int .i64 t.w,.int .i64 t.h,.slice a n c]|1=>own= .int .i64 (x:Nat)|2=>own= .int .i64 ((k:Int)%2*4)|3=>own= .int .i64 (xi:Nat)|4=>own= .int .i64 (y:Nat)|5=>own= .int .i64 ((k:Int)/2*4)|6=>own= .int .i64 (yj:Nat)|7=>own= .agg (ic U)|8=>own= .agg #[.int .i64 W,.int .i64 H,.slice (some ⟨g,0,none⟩) l c1]|9=>own= .int .i64 (x:Nat)|10=>own= .int .i64 ((k:Int)%2*4)|11=>own= .int .i64 (xi:Nat)|12=>own= .int .i64 (y:Nat)|13=>own= .int .i64 ((k:Int)/2*4)|14=>own= .int .i64 (yj:Nat)|15=>own= .int .i64 top|16=>own= .agg (edC E)|17=>IA wx K own|18=>EA wx K own|19=>IS wx K (ys 17) U|20=>ES wx K (ys 18) E|_=>True) wx wy:=by
      intro wy hy ii hii hne hc own ys h
      match ii,h with
      | 0,h|1,h|2,h|3,h|4,h|5,h|6,h|7,h|8,h|9,h|10,h|11,h|12,h|13,h|14,h|15,h|16,h=>exact h
      | 17,h|18,h|19,h=>exact h.stE hy
      | 20,h=>exact absurd rfl hne
      | _+21,_=>trivial
     exact hQo undef _ (hK.out _ _ ⟨⟨b18,Hx18.out,hb18,i9⟩,⟨hG.1.loc g9 hb18 LT.out,Nat.le_trans hG.2 g9.size⟩,hst _ ⟨b18,_,E,g9,z18,i9,HEok.out.ln⟩⟩)
    all_goals
     clear hD hI;go_wp2;exact hK.out _ _ ⟨rfl,hG,kkp⟩
   clear Hext;intro xs wx hV hG;have d19:IS wx K ((xs 17)) U:=hV 19 (by decide);have d20:ES wx K ((xs 18)) E:=hV 20 (by decide);clear hV;simp only[Ad,Nat.reduceAdd,Nat.reduceEqDiff,↓reduceIte];generalize xs 0=y0,xs 1=y1,xs 2=y2,xs 3=y3,xs 4=y4,xs 5=y5,xs 6=y6,xs 7=y7,xs 8=y8,xs 9=y9,xs 10=y10,xs 11=y11,xs 12=y12,xs 13=y13,xs 14=y14,xs 15=y15,xs 16=y16,xs 17=y17,xs 18=y18,xs 19=y19,xs 20=y20 at *
   replace hG:NS w g l c1 t.w t.h a n c W H B O M Z ms wx∧K≤wx.heap.size:=hG
   obtain⟨bI,rfl,hbI,iI⟩:=d19;obtain⟨bE,rfl,hbE,iE⟩:=d20;obtain⟨N1,hK1⟩:=hG;clear N0 hK1;have hMK:=LT.out.2.2.2.2.1;go_wp2_with (first|(refine Ab 47 _ rfl rfl iI 0 16 rfl _ Rm rfl Ag (by rw[HUl.out];omega) _ (by rw[Ak _ _ (HUl.out)]) ?_)|(refine AA 67 _ rfl rfl iE rfl _ Rq rfl 11 Aq (As HEok.out.ln) ?_))
   refine(GP U E _ HUl.out HUs.out HEok.out).mono ?_
   rintro e w10 ⟨rfl,e10⟩
   rw[←HMd.out];have N2:=N1.e e10;have iI2:=iI.ext e10;have iE2:=EB.ext iE e10;clear N1 iI iE e10;have cm:=N2.bm.cell (i:=3+k) (by rw[Hms.out];omega);have fm:=N2.bm.frozen (3+k);have N3:=N2.mac (Ax w10 M (3+k) (.int .i64 (md:Nat))) (N2.bm.set (3+k) (md:Int));have iI3:=iI2.set_other (c:=M) (i:=3+k) (v := .int .i64 (md:Nat)) (by omega);have iE3:=EB.set_other iE2 (c:=M) (i:=3+k) (v := .int .i64 (md:Nat)) (by omega);clear N2 iI2 iE2;go_wp2_with fail
   clear cm fm;generalize w10.setCell ⟨M,3+k,none⟩ (.int .i64 (md:Nat))=w11 at *;obtain⟨K2,hK2⟩:∃ K,K=w11.heap.size:=⟨_,rfl⟩;have hlt1:=N3.lt;have hlI:=iI3.lt;have hlE:=EB.lt iE3;rw[←hK2]at hlt1 hlI hlE;have hes:=N3.ex.size;rw[←hK2]at hes;have LT2:=Aa (show w.heap.size≤K2∧B<K2∧g<K2∧O<K2∧M<K2∧B+1+1<K2 from ⟨hes,hlt1.1,hlt1.2.1,hlt1.2.2.1,hlt1.2.2.2.1,hlt1.2.2.2.2⟩);have HK2:=Aa hK2;clear hK2 hlt1 hes;have hext:Stab (fun wa wb=>Ext wa wb) (fun i own ys wx=>match i with|0=>own= .agg (edC E)|1=>own= .int .i64 (k:Nat)|2=>own= .pointer (some ⟨M,3,none⟩)|3=>own= .pointer (some ⟨M,3+k,none⟩)|4=>own= .int .i64 (md:Nat)|5=>own= .agg (ic PR)|6=>IA wx K2 own|7=>IS wx K2 (ys 6) PR|_=>True):=by
    intro i own ys wa wb e h
    match i,h with
    | 0,h|1,h|2,h|3,h|4,h|5,h=>exact h
    | 6,h|7,h=>exact h.ext e
    | _+8,_=>trivial
   have Hext:=Aa hext;clear hext;refine An (by kernel_rfl) [(20,6),(81,0),(82,1),(83,2),(84,3),(85,4),(86,5)] [[],[],[],[1,2],[1,2,3],[0,1,2,3,4],[],[0,1,2,3,4,5,6]] (fun i own ys wx=>match i with|0=>own= .agg (edC E)|1=>own= .int .i64 (k:Nat)|2=>own= .pointer (some ⟨M,3,none⟩)|3=>own= .pointer (some ⟨M,3+k,none⟩)|4=>own= .int .i64 (md:Nat)|5=>own= .agg (ic PR)|6=>IA wx K2 own|7=>IS wx K2 (ys 6) PR|_=>True) (fun kx wx=>NS w g l c1 t.w t.h a n c W H B O M Z (ms.set (3+k) (md:Int)) wx∧K2≤wx.heap.size∧IB wx bI 47 U∧EB wx bE E) (by kernel_rfl) (by kernel_rfl) (by kernel_rfl) ?g0_r2 ?gop_r2 ?gend_r2
   case g0_r2=>exact⟨N3.e (Ext.drewN _ 1),by rw[HK2.out];exact Nat.le_refl _,iI3.drewN 1,EB.ext iE3 (Ext.drewN _ 1)⟩
   case gop_r2 =>
    refine⟨?o0,?_,?_,?o3,?o4,?o5,?o6,?o7,trivial⟩ <;> (intro kx xs wx hk hG hD hI Qo Kx hK hQo;simp only[Ad,Nat.reduceAdd,Nat.reduceEqDiff,↓reduceIte]at hQo⊢)
    case o0 =>
     clear hD hI;go_wp2_with (refine AA 67 _ rfl rfl hG.2.2.2 rfl _ Rq rfl 11 Aq (As HEok.out.ln) ?_)
     exact hK.out _ _ ⟨rfl,hG,kkp⟩
    case o3 =>
     rw[ddq (hD 1 rfl),ddq (hD 2 rfl)]at hQo⊢;clear hD hI;go_wp2;exact hK.out _ _ ⟨rfl,hG,kkp⟩
    case o4 =>
     rw[ddq (hD 3 rfl)]at hQo⊢;clear hD hI;have cx:=hG.1.bm.cell (i:=3+k) (by rw[Hms1.out];omega);rw[Hmn.out]at cx;go_wp2;exact hK.out _ _ ⟨rfl,hG,kkp⟩
    case o5 =>
     rw[ddq (hD 0 rfl),ddq (hD 4 rfl)]at hQo⊢;clear hD hI;go_wp2_with fail
     refine(Z7 E md _ HEok.out (by omega)).mono ?_
     rintro e w9 ⟨rfl,e9⟩
     rw[←HPR.out];go_wp2;exact hK.out _ _ ⟨rfl,⟨hG.1.e e9,Nat.le_trans hG.2.1 e9.size,hG.2.2.1.ext e9,EB.ext hG.2.2.2 e9⟩,fun i _ _ _ own ys h=>Hext.out i own ys _ _ e9 h⟩
    case o6 =>
     clear hD hI;have ea:=Ext.alloc wx (.cells (ic (List.replicate 16 0)) 47);go_wp2;exact hK.out _ _ ⟨⟨_,_,rfl,hG.2.1,IB.new _ _ (List.replicate 16 0),by simp⟩,⟨hG.1.e ea,Nat.le_trans hG.2.1 ea.size,hG.2.2.1.ext ea,EB.ext hG.2.2.2 ea⟩,fun i _ _ _ own ys h=>Hext.out i own ys _ _ ea h⟩
    case o7 =>
     have d6:IA wx K2 (xs 6):=hD 6 rfl;have d5:_=_:=hD 5 rfl;clear hD hI;generalize hx6:xs 6=y6 at *;have Hx6:=Aa hx6;clear hx6;generalize xs 5=y5 at *;obtain⟨b6,us6,rfl,hb6,z6,l6⟩:=d6;subst d5;refine Af 47 _ _ rfl rfl z6 0 16 rfl _ rfl PR rfl Ag HPl.out (by rw[l6];omega) ?_;intro w9 i9 g9;rw[Ap (by rw[HPl.out,l6])]at i9;have hst:∀(wy:World),StI wx wy→Stbn 8 7 [[],[],[],[1,2],[1,2,3],[0,1,2,3,4],[],[0,1,2,3,4,5,6]] (fun i own ys wx=>match i with|0=>own= .agg (edC E)|1=>own= .int .i64 (k:Nat)|2=>own= .pointer (some ⟨M,3,none⟩)|3=>own= .pointer (some ⟨M,3+k,none⟩)|4=>own= .int .i64 (md:Nat)|5=>own= .agg (ic PR)|6=>IA wx K2 own|7=>IS wx K2 (ys 6) PR|_=>True) wx wy:=by
      intro wy hy ii hii hne hc own ys h
      match ii,h with
      | 0,h|1,h|2,h|3,h|4,h|5,h=>exact h
      | 6,h=>exact h.stI hy
      | 7,h=>exact absurd rfl hne
      | _+8,_=>trivial
     exact hQo undef _ (hK.out _ _ ⟨⟨b6,Hx6.out,hb6,i9⟩,⟨hG.1.loc g9 hb6 LT2.out,Nat.le_trans hG.2.1 g9.size,hG.2.2.1.gr g9 (by simp;omega),EB.gr hG.2.2.2 g9 (by simp;omega)⟩,hst _ ⟨b6,_,_,g9,z6,i9,HPl.out⟩⟩)
    all_goals
     clear hD hI;go_wp2;exact hK.out _ _ ⟨rfl,hG,kkp⟩
   clear Hext;intro xs wx hV hG;have d7:IS wx K2 ((xs 6)) PR:=hV 7 (by decide);clear hV;simp only[Ad,Nat.reduceAdd,Nat.reduceEqDiff,↓reduceIte];generalize xs 0=y0,xs 1=y1,xs 2=y2,xs 3=y3,xs 4=y4,xs 5=y5,xs 6=y6,xs 7=y7 at *
   replace hG:NS w g l c1 t.w t.h a n c W H B O M Z (ms.set (3+k) (md:Int)) wx∧K2≤wx.heap.size∧IB wx bI 47 U∧EB wx bE E:=hG
   obtain⟨bP,rfl,hbP,iP⟩:=d7;obtain⟨N4,hK4,iI4,iE4⟩:=hG;clear N3 iI3 iE3 hK4 iE4;have hMK2:=LT2.out.2.2.2.2.1;go_wp2_with (first|(refine Ab 47 _ rfl rfl iI4 0 16 rfl _ Rm rfl Ag (by rw[HUl.out];omega) _ (by rw[Ak _ _ (HUl.out)]) ?_)|(refine Ab 47 _ rfl rfl iP 0 16 rfl _ Rm rfl Ag (by rw[HPl.out];omega) _ (by rw[Ak _ _ (HPl.out)]) ?_))
   refine(Dw U PR _ HUl.out HPl.out HUb.out HPb.out).mono ?_
   rintro e w12 ⟨rfl,e12⟩
   have N5:=N4.e e12;have iP5:=iP.ext e12;clear N4 iI4 iP e12;go_wp2_with fail
   refine(DC (dif U PR) q _ (hT.ext N5.ex) (Bo _ _) Hdr.out hq).mono ?_
   rintro e w13 ⟨rfl,e13⟩
   rw[←HL.out];have N6:=N5.e e13;have iP6:=iP5.ext e13;have ib6:=N6.bm;clear N5 iP5 e13;go_wp2_with (refine Af 47 _ _ rfl rfl ib6 (7+k*16) 16 rfl _ rfl L rfl Ag HLl.out (by rw[Hms1.out];omega) ?_;intro w14 i14 g14;refine Hid.out ?_)
   rw[Hst2.out]at i14;have N7:=N6.mac g14 i14;have iP7:=iP6.gr g14 (by simp;omega);clear N6 iP6 ib6 i14 g14;refine Aa ?_;go_wp2_with fail
   refine Am (by kernel_rfl) [(95,0),(96,1),(97,2),(98,3),(99,4),(100,5),(101,6),(102,7),(103,8),(104,9),(105,10),(106,11),(107,12),(108,13),(109,14)] [[],[],[],[1,2],[],[],[4,5],[],[],[],[8,9],[8,9,10],[],[8,9,10,11,12],[0,1,2,3,4,5,6,7,8,9,10,11,12,13]] (fun i own ys wx=>match i with|0=>own= .agg #[.int .i64 W,.int .i64 H,.slice (some ⟨g,0,none⟩) l c1]|1=>own= .int .i64 (x:Nat)|2=>own= .int .i64 ((k:Int)%2*4)|3=>own= .int .i64 (xi:Nat)|4=>own= .int .i64 (y:Nat)|5=>own= .int .i64 ((k:Int)/2*4)|6=>own= .int .i64 (yj:Nat)|7=>own= .agg (ic PR)|8=>own= .int .i64 (k:Nat)|9=>own= .pointer (some ⟨M,7,none⟩)|10=>own= .pointer (some ⟨M,7+k*16,none⟩)|11=>own= .agg (ic L)|12=>own= .int .i64 (q:Nat)|13=>own= .agg (ic D)|14=>True|_=>True) (fun Lx wx=>NS w g l c1 t.w t.h a n c W H B O M (if Lx 14=true then Z1 else Z) ms2 wx∧IB wx bP 47 PR) (by kernel_rfl) (by kernel_rfl) (by kernel_rfl) ?g0_r3 ?gop_r3 ?gend_r3
   case g0_r3=>exact⟨N7.e (Ext.drewN _ 1),iP7.drewN 1⟩
   case gop_r3 =>
    refine⟨?o0,?_,?_,?o3,?_,?_,?o6,?o7,?_,?_,?o10,?o11,?_,?o13,?o14,trivial⟩ <;> (intro Lx xs wx hG hl ha hb hD hI Qo Kx hK hQo;simp only[Ad,Nat.reduceAdd,Nat.reduceEqDiff,↓reduceIte]at hQo⊢)
    case o0 =>
     clear hl ha hb hD hI;obtain⟨-,k0,k1,k2,-⟩:=bx3 hG.1.br;go_wp2;exact hK.out _ _ ⟨rfl,hG,kkp⟩
    case o3 =>
     clear hl ha hb;rw[ddq (hD 1 rfl),ddq (hD 2 rfl)]at hQo⊢;clear hD hI;go_wp2;exact hK.out _ _ ⟨by rw[←Hxi.out],hG,fun _ _ _ _ _ _ h=>h⟩
    case o6 =>
     clear hl ha hb;rw[ddq (hD 4 rfl),ddq (hD 5 rfl)]at hQo⊢;clear hD hI;go_wp2;exact hK.out _ _ ⟨by rw[←Hyj.out],hG,fun _ _ _ _ _ _ h=>h⟩
    case o7 =>
     clear hl ha hb hD hI;go_wp2_with (refine Ab 47 _ rfl rfl hG.2 0 16 rfl _ Rm rfl Ag (by rw[HPl.out];omega) _ (by rw[Ak _ _ (HPl.out)]) ?_)
     exact hK.out _ _ ⟨rfl,hG,kkp⟩
    case o10 =>
     clear hl ha hb;rw[ddq (hD 8 rfl),ddq (hD 9 rfl)]at hQo⊢;clear hD hI;go_wp2;exact hK.out _ _ ⟨rfl,hG,kkp⟩
    case o11 =>
     clear hl ha hb;rw[ddq (hD 10 rfl)]at hQo⊢;clear hD hI;go_wp2_with (refine Ab 47 _ rfl rfl hG.1.bm (7+k*16) 16 rfl _ Rm rfl Ag (by rw[Hm2l.out];omega) _ (by rw[Hsl.out]) ?_)
     exact hK.out _ _ ⟨rfl,hG,kkp⟩
    case o13 =>
     clear hl ha hb;rw[ddq (hD 11 rfl),ddq (hD 12 rfl)]at hQo⊢;clear hD hI;go_wp2_with fail
     refine(Ca L q _ (hT.ext hG.1.ex) HLl.out HLb.out hq).mono ?_
     rintro e w9 ⟨rfl,e9⟩
     rw[←HD.out];go_wp2;exact hK.out _ _ ⟨rfl,⟨hG.1.e e9,hG.2.ext e9⟩,fun _ _ _ _ _ _ h=>h⟩
    case o14 =>
     have l14:Lx 14=false:=hl;clear hl ha hb;rw[ddq (hD 0 rfl),ddq (hD 3 rfl),ddq (hD 6 rfl),ddq (hD 7 rfl),ddq (hD 13 rfl)]at hQo⊢;clear hD hI;rw[l14,ifF]at hG;go_wp2_with fail
     refine(Ji W H xi yj w.heap.size g l c1 Z PR D _ HPl.out HDl.out HPb.out HDb.out hW32 (by omega) (by omega) hI (by omega) hG.1.own).mono ?_
     rintro e w9 ⟨rfl,o9,g9⟩
     go_wp2;rw[Hst3.out]at o9;exact hK.out _ _ ⟨trivial,⟨hG.1.put g9 o9,hG.2.gr g9 (by have:=LT2.out.2.2.1;simp;omega)⟩,fun _ _ _ _ _ _ h=>h⟩
    all_goals
     clear hl ha hb hD hI;go_wp2;exact hK.out _ _ ⟨rfl,hG,kkp⟩
   intro xs wx hV hG0;obtain⟨Lx,hL,hG⟩:=hG0;have l14:Lx 14=true:=hL 14 (by decide);clear hL hV;simp only[Ad,Nat.reduceAdd,Nat.reduceEqDiff,↓reduceIte];generalize xs 0=y0,xs 1=y1,xs 2=y2,xs 3=y3,xs 4=y4,xs 5=y5,xs 6=y6,xs 7=y7,xs 8=y8,xs 9=y9,xs 10=y10,xs 11=y11,xs 12=y12,xs 13=y13,xs 14=y14 at *
   replace hG:NS w g l c1 t.w t.h a n c W H B O M (if Lx 14=true then Z1 else Z) ms2 wx∧IB wx bP 47 PR:=hG
   rw[l14,ifT]at hG;clear N7 iP7;have HG:=Aa hG;clear hG;go_wp2;go_roundw
   case rel=>exact⟨k+1,by omega,by go_num,by rw[←HZ1.out,←HM2.out];exact HG.out.1⟩
   case measure=>simp[intOf];omega
  ·obtain rfl:k=4:=by omega
   have Hzl:=Aa (HMl.out 4 (by omega));have hbM:=N0.bm;have hbz:=N0.bz;have hex:=N0.ex;have hh1:=N0.h1;clear N0;go_wp2_with (first|(refine Ab 50 _ rfl rfl hbM 0 71 rfl _ Ro rfl Ah (by rw[Hzl.out];omega) _ (by rw[Ak _ _ (Hzl.out)]) ?_)|(refine Af 50 _ _ rfl rfl hbz 0 71 rfl _ rfl (BP t ⟨W,H,px⟩ x y q top 4).zs rfl Ah (Hzl.out) (by simp[zl]) ?_;intro w6 p6 g6;refine Hid.out ?_))
   rw[Ap (by rw[Hzl.out,AB])]at p6;have E6:Ext w w6:=Ext.grown hex g6 (fun q hq=>by cases hq;omega);refine Aa ?_;go_wp2;exact bodyPost_ret (v := .agg (ic (BP t ⟨W,H,px⟩ x y q top 4).zs)) (results_cell_row rfl _ _ (B+1+1) 50 (ic (BP t ⟨W,H,px⟩ x y q top 4).zs) (0,0) _ rfl p6 Ro rfl (by rw[AJ,Hzl.out];exact Ah)) rfl ⟨rfl,E6⟩
theorem L8 (zs:List Int)(i n t:Nat)(h:t<n):nth (sub zs i n) t=nth zs (i+t):=by
 simp[nth,sub,List.getD,List.getElem?_take,h]
theorem Pt (zs ys:List Int){j t:Nat}(h:t<j)(hj:j≤zs.length):nth (spl zs j ys) t=nth zs t:=by
 simp only[nth,spl,List.getD];rw[List.append_assoc,List.getElem?_append_left (by simp;omega),List.getElem?_take,if_pos h]
theorem JZ {zs ys:List Int}{i j n:Nat}(h:i+n≤j)(hj:j+ys.length≤zs.length):sub (spl zs j ys) i n=sub zs i n:=by
 have l1:(sub (spl zs j ys) i n).length=n:=by simp[sub,Gr hj];omega
 have l2:(sub zs i n).length=n:=by simp[sub];omega
 refine Hw (by rw[l1,l2]) fun t ht => ?_
 rw[l1]at ht;rw[L8 _ _ _ _ ht,L8 _ _ _ _ ht,Pt _ _ (by omega) (by omega)]
theorem Pe (t p:Pic)(x y q:Nat)(top:Int){k:Nat}: ∀ n:Nat,k<n→n≤4→nth (inS t p x y q top n).2.1 k=(inM t p x y top (inS t p x y q top k).1 k:Nat)
 | 0,h,_=>by omega
 | n+1,h,h4=>by
  show nth (List.set _ _ _) k=_
  by_cases e:k=n
  ·subst e;rw[EV _ _ _ (by rw[Gi];omega)]
  ·rw[GW _ _ _ _ (by omega),Pe t p x y q top n (by omega) (by omega)]
theorem Qc (t p:Pic)(x y q:Nat)(top:Int)(Z:List Int)(k:Nat):(inL t p x y q top Z k).length=16:=BF _ _
theorem NH (t p:Pic)(x y q:Nat)(top:Int){k:Nat}: ∀ n:Nat,k<n→n≤4→sub (inS t p x y q top n).2.2 (k*16) 16=inL t p x y q top (inS t p x y q top k).1 k
 | 0,h,_=>by omega
 | n+1,h,h4=>by
  have hl:=JC t p x y q top n (by omega);have h16:=Qc t p x y q top (inS t p x y q top n).1 n;show sub (spl _ _ _) _ _=_
  by_cases e:k=n
  ·subst e;exact Jn (by rw[hl,h16];omega) h16
  ·rw[JZ (by omega) (by rw[hl,h16];omega),NH t p x y q top n (by omega) (by omega)]
theorem LI (t r:Pic)(x y:Nat)(vx vy:Int)(q:Nat){k:Nat}: ∀ n:Nat,k<n→n≤4→sub (intL t r x y vx vy q n) (k*16) 16=cod (dif (prt t ((x+k%2*4:Nat):Int) ((y+k/2*4:Nat):Int)) (pof (blkL r x y vx vy) (k%2*4) (k/2*4))) q
 | 0,h,_=>by omega
 | n+1,h,h4=>by
  have hl:=FH t r x y vx vy q (k:=n) (by omega);show sub (spl _ _ _) _ _=_
  by_cases e:k=n
  ·subst e;exact Jn (by rw[hl,BF];omega) (BF _ _)
  ·rw[JZ (by omega) (by rw[hl,BF];omega),LI t r x y vx vy q n (by omega) (by omega)]
theorem OF (t p:Pic)(x y q:Nat)(top:Int){j:Nat}(hj:j<4):0≤nth (inS t p x y q top 4).2.1 j∧nth (inS t p x y q top 4).2.1 j≤4:=by
 rw[Pe t p x y q top 4 hj (Nat.le_refl _)];have h:=My (inU t x y j) (inE p x y top (inS t p x y q top j).1 j);unfold inM;omega
theorem II {t p:Pic}(ht:t.valid)(hp:p.valid)(x y q:Nat)(hq:q<16)(top:Int):(BP t p x y q top 4).valid:=by
 refine⟨⟨by show(0:Int)≤2;decide,by show(2:Int)≤2;decide⟩,⟨by show(-16:Int)≤0;decide,by show(0:Int)≤16;decide,by show(-16:Int)≤0;decide,by show(0:Int)≤16;decide⟩,fun _=>⟨rfl,rfl⟩,fun h=>absurd rfl h,fun _ j hj=>OF t p x y q top hj,fun h => ?_,?_⟩
 ·exact absurd (show(2:Int)=0 from h) (by decide)
 ·refine(CB (zs:=(inS t p x y q top 4).2.2) (JC t p x y q top 4 (Nat.le_refl _))).2 ?_;intro k hk;show inB 4080 (sub (inS t p x y q top 4).2.2 (k*16) 16)=true;rw[NH t p x y q top 4 hk (Nat.le_refl _)];have hE:=Jw (Ix t hp x y q top k) ((x+k%2*4:Nat):Int) ((y+k/2*4:Nat):Int) top;have hP:smp (inP t p x y top (inS t p x y q top k).1 k):=Dm _ hE;exact IZ (Bo _ _) (Cm (Gp ht _ _) hP (CO _ _ _) (A9 _ _)) hq
theorem Im {W x:Nat}{w:Int}(hw:side w)(hW:w=W)(hx:(x:Int)<w)(hx8:(x:Int)%8=0):x+8≤W:=by
 have:=hw.2.2;omega
theorem Nb {t r:Pic}(ht:t.valid)(hr:r.valid)(x y:Nat){vx vy:Int}(hv:vv vx vy){q:Nat}(hq:q<16):(macI vx vy (intL t r x y vx vy q 4)).valid:=by
 refine⟨⟨by show(0:Int)≤1;decide,by show(1:Int)≤2;decide⟩,hv,fun h=>absurd rfl h,fun _=>rfl,fun h=>absurd (show(1:Int)=2 from h) (by decide),fun h=>absurd (show(1:Int)=0 from h) (by decide),?_⟩;refine(CB (zs:=intL t r x y vx vy q 4) (FH _ _ _ _ _ _ _ (Nat.le_refl _))).2 ?_;intro k hk;show inB 4080 (sub (intL t r x y vx vy q 4) (k*16) 16)=true;rw[LI t r x y vx vy q 4 hk (Nat.le_refl _)];have hB:=Bz hr x y vx vy;exact IZ (Bo _ _) (Cm (Gp ht _ _) (Gm hB (AQ _ _ _ _ _) (by omega) (by omega)) (CO _ _ _) (BX _ _ _)) hq
theorem IK (t:Pic)(W H x y:Nat)(px:List Int)(q:Nat)(top:Int)(a b:Option Addr)(c d n l:Nat)(w:World)(hn:n=t.px.length)(hl:l=px.length)(nc:n≤9223372036854775807)(lc:l≤9223372036854775807)(s:Sl w a n (t.px.map (Value.int .i64)))(u:Sl w b l (px.map (Value.int .i64)))(htv:t.valid)(hpv:Pic.valid ⟨W,H,px⟩)(hx8:x+8≤W)(hy8:y+8≤H)(hW32:W≤32)(hH32:H≤32)(hq:q<16)(ht0:0≤top):
 Calls Tryz.prog 33 #[.agg #[.int .i64 t.w,.int .i64 t.h,.slice a n c],.agg #[.int .i64 W,.int .i64 H,.slice b l d],.int .i64 (x:Nat),.int .i64 (y:Nat),.int .i64 (q:Nat),.int .i64 top] w fun e w'=>e= .returned (.agg (ic (BP t ⟨W,H,px⟩ x y q top 4).zs))∧Ext w w':=by
 have HN:=Aa hn;have HL0:=Aa hl;have hnW:l=W*H:=by
  have h1:=hpv.2.2.1;simp only[←Int.natCast_mul]at h1;rw[hl];exact Int.ofNat.inj h1
 have hn1k:l≤1024:=by rw[hnW];exact Nat.mul_le_mul hW32 hH32
 have inn:∀ u v:Nat,u+4≤H→v+4≤W→(u+3)*W+v+3<l:=fun u v h1 h2=>by
  have h3:=Nat.mul_le_mul_right W (show u+4≤H by omega);rw[Nat.add_mul,Nat.mul_comm H W,←hnW]at h3;rw[Nat.add_mul];omega
 have hl0:0<l:=by have:=inn 0 0 (by omega) (by omega);omega
 have Inn:=Aa inn;have HV:=Aa (fun k=>Ix t hpv x y q top k);have HLn:=Aa (fun k=>show l=(inS t ⟨W,H,px⟩ x y q top k).1.length by rw[I8,hl]);have HMl:=Aa (fun k (hk:k≤4)=>Mac.zs_len (FG t ⟨W,H,px⟩ x y q top hk));have HL:=Aa (show l=(Pic.mk W H px).px.length from hl);clear hn hl hpv hnW inn;obtain⟨X0_0,X1_0,X2_0,E_0⟩:=bxs3 w (.cells #[.int .i64 t.w,.int .i64 t.h,.slice a n c] 30) (.cells #[.int .i64 W,.int .i64 H,.slice b l d] 30) (.cells (ic (zl 71)) 50);have X2_0:IB _ _ 50 (zl 71):=X2_0;obtain⟨B,hB⟩:∃ B,B=w.heap.size:=⟨_,rfl⟩;have ia:=IB.new (((w.alloc (.cells #[.int .i64 t.w,.int .i64 t.h,.slice a n c] 30)).alloc (.cells #[.int .i64 W,.int .i64 H,.slice b l d] 30)).alloc (.cells (ic (zl 71)) 50)) 50 (zl 71);have ea:=Ext.alloc (((w.alloc (.cells #[.int .i64 t.w,.int .i64 t.h,.slice a n c] 30)).alloc (.cells #[.int .i64 W,.int .i64 H,.slice b l d] 30)).alloc (.cells (ic (zl 71)) 50)) (.cells (ic (zl 71)) 50);have Y0:=ea.blk X0_0;have Y1:=ea.blk X1_0;have Y3:=X2_0.ext ea;have F0:=E_0.trans ea;simp only[World.size_alloc]at ia;clear X0_0 X1_0 X2_0 E_0 ea;go_enter Tryz.func33,Tryz.ntmps33
 go_wp2_with (first|(refine Au 50 rfl rfl 71 Bf ?_;(try simp only[World.size_alloc]))|(refine Af 50 _ _ rfl rfl ia 0 71 rfl _ rfl (Mac.zs ⟨2,0,0,Bn,zl 64⟩) (by exact IH) Ah (Mac.zs_len ⟨rfl,AB 64⟩) (by simp[zl]) ?_;intro w5 i5 g5;refine Hid.out ?_))
 rw[Ap (by rw[Mac.zs_len ⟨rfl,AB 64⟩,AB])]at i5;try simp only[World.size_alloc]
 rw[←hB]at i5 g5 Y0 Y1 Y3⊢;have hwB:w.heap.size≤B:=by omega
 have HB:=Aa hB;clear hB ia;obtain⟨M,hM⟩:∃ M,M=B+1+1+1:=⟨_,rfl⟩;rw[←hM]at i5 g5⊢;have hBM:B+1+1<M:=by omega
 have HM:=Aa hM;clear hM;have Z0:=Ar Y0 g5 (by simp;omega);have Z1:=Ar Y1 g5 (by simp;omega);have Z3:=Y3.gr g5 (by simp;omega);have F1:Ext w w5:=Ext.grown F0 g5 (fun k e=>by cases e;omega);clear Y0 Y1 Y3 F0 g5;refine Aa ?_;obtain⟨-,k1,k2,k3,-⟩:=bx3 Z0;go_wp2_with fail
 refine(BE t x y 0 0 a c n _ htv HN.out (s.ext F1) (by omega) (by omega) (by omega) (by omega) (by omega) (by omega) (by omega) (by omega)).mono ?_
 rintro e w4 ⟨a4,c4,rfl,o4,e4⟩
 have hM5:=i5.lt;have S4b:∀ z,a4=some z→M<z.block∧z.block<w4.heap.size:=fun z hz=>by
  have:=o4.lt z.block (by rw[hz];rfl);omega
 have S4:=Sl.of_owns o4;have G0:=e4.blk Z0;have G1:=e4.blk Z1;have G3:=Z3.ext e4;have j5:=i5.ext e4;have F2:=F1.trans e4;clear Z0 Z1 Z3 F1 i5 e4 o4 k1 k2 k3;obtain⟨-,k1,k2,k3,-⟩:=bx3 G1;go_wp2_with fail
 refine(JE W H b d l px _ (by omega) hl0 (u.ext F2)).mono ?_
 rintro e wa ⟨a1,c1,rfl,own1,e2⟩
 have hgo:∃ g,a1=some ⟨g,0,none⟩∧g<wa.heap.size∧w4.heap.size≤g:=by
  rcases own1.2 with⟨-,h0⟩|⟨g,cc,cur,hv,hb,hb2,-⟩
  ·omega
  ·simp only[Value.slice.injEq]at hv;exact⟨g,hv.1,lt_of_block hb2,hb⟩
 obtain⟨g,rfl,hg1,hg2⟩:=hgo;have hMs:=j5.lt;have r0:=e2.blk G0;have r2:=G3.ext e2;have r5:=j5.ext e2;have S5:=S4.ext e2;have E2:=F2.trans e2;have own0:=AH own1 F2.size;clear G0 G1 G3 j5 F2 e2 own1 k1 k2 k3 S4;have a5:=Ext.alloc wa (.cells #[.int .i64 W,.int .i64 H,.slice (some ⟨g,0,none⟩) l c1] 30);have z0:=a5.blk r0;have z2:=r2.ext a5;have z5:=r5.ext a5;have S6:=S5.ext a5;have z4:=Aj wa (.cells #[.int .i64 W,.int .i64 H,.slice (some ⟨g,0,none⟩) l c1] 30);have own2:=Ae own0 a5;have E3:=E2.trans a5;have hO1:=r5.lt;obtain⟨O,hOe⟩:∃ O,O=wa.heap.size:=⟨_,rfl⟩;rw[←hOe]at z4 hg1 hO1;have HO2:=Aa hOe;clear r0 r2 r5 own0 E2 a5 S5;go_upto_region 4 with fail
 rw[←hOe];clear hOe;generalize wa.alloc (.cells #[.int .i64 W,.int .i64 H,.slice (some ⟨g,0,none⟩) l c1] 30)=w2 at *;have NN:NS w g l c1 t.w t.h a n c W H B O M px (Mac.zs ⟨2,0,0,Bn,zl 64⟩) w2 :=
  ⟨E3,own2,z0,z4,z2,z5,⟨hwB,by omega,by omega,by omega⟩,⟨by omega,by omega,by omega,by omega,by omega,by omega,by omega⟩⟩
 have SB:=Aa (show ∀ z,a4=some z→z.block≠M∧z.block≠g from fun z hz=>by have:=S4b z hz;omega);clear z0 z2 z4 z5 own2 E3 S4b;go_wp2_with fail
 go_loopw [16] (fun i wr=>∃ k:Nat,k≤4∧i= .int .i64 k∧NS w g l c1 t.w t.h a n c W H B O M (inS t ⟨W,H,px⟩ x y q top k).1 (BP t ⟨W,H,px⟩ x y q top k).zs wr∧Hid (Sl wr a4 64 ((blkL t x y 0 0).map (Value.int .i64)))) (fun i _=>4-(intOf i).toNat)
 case atStart=>exact⟨0,by omega,rfl,NN,Aa S6⟩
 case round =>
  obtain⟨k,hk,rfl,N0,S0⟩:=hrel;clear NN S6
  by_cases hlt:k<4
  ·have hd:decide ((k:Int)<4)=true:=by simp;omega
   have hpb:=NU t (x:Int) (y:Int) (i:=k%2*4) (j:=k/2*4) (by omega) (by omega);rw[←Int.natCast_add,←Int.natCast_add]at hpb;have Hpb:=Aa hpb;clear hpb;have hZv:=HV.out k;have hZn:=HLn.out k;have hms:=HMl.out k (by omega);have hst1:=LH t ⟨W,H,px⟩ x y q top hlt;have hst2:=LG t ⟨W,H,px⟩ x y q top hlt;have hst3:=show putS (inS t ⟨W,H,px⟩ x y q top k).1 W (x+k%2*4) (y+k/2*4) (inP t ⟨W,H,px⟩ x y top (inS t ⟨W,H,px⟩ x y q top k).1 k) (dec (inL t ⟨W,H,px⟩ x y q top (inS t ⟨W,H,px⟩ x y q top k).1 k) q) 16=(inS t ⟨W,H,px⟩ x y q top (k+1)).1 from rfl;rw[←hst1]at hst2;clear hst1;unfold inL inP inM inE inU at hst2 hst3;simp only at hst2 hst3;obtain⟨Z,hZ⟩:∃ Z,Z=(inS t ⟨W,H,px⟩ x y q top k).1:=⟨_,rfl⟩;obtain⟨Z1,hZ1⟩:∃ Z,Z=(inS t ⟨W,H,px⟩ x y q top (k+1)).1:=⟨_,rfl⟩;obtain⟨ms,hms0⟩:∃ m,m=(BP t ⟨W,H,px⟩ x y q top k).zs:=⟨_,rfl⟩;obtain⟨ms2,hms2⟩:∃ m,m=(BP t ⟨W,H,px⟩ x y q top (k+1)).zs:=⟨_,rfl⟩;rw[←hZ]at N0 hZv hZn hst2 hst3;rw[←hms0]at N0 hms hst2;rw[←hZ1]at hst3;rw[←hms2]at hst2;have HZ1:=Aa hZ1;have HM2:=Aa hms2;have HZv:=Aa hZv;have HZn:=Aa hZn;have Hms:=Aa hms;obtain⟨xi,hxi⟩:∃ v,v=x+k%2*4:=⟨_,rfl⟩;obtain⟨yj,hyj⟩:∃ v,v=y+k/2*4:=⟨_,rfl⟩;rw[←hxi,←hyj]at hst2 hst3;have hxi4:xi+4≤W:=by omega
   have hyj4:yj+4≤H:=by omega
   have Hxi:=Aa (show(x:Int)+(k:Int)%2*4=((xi:Nat):Int) by omega);have Hyj:=Aa (show(y:Int)+(k:Int)/2*4=((yj:Nat):Int) by omega);have hI:=Inn.out yj xi hyj4 hxi4;have hEok:=Jw hZv (xi:Int) (yj:Int) top;have hUs:=Gp htv (xi:Int) (yj:Int);have hUl:=CO t (xi:Int) (yj:Int);obtain⟨U,hU⟩:∃ U,U=prt t (xi:Int) (yj:Int):=⟨_,rfl⟩;obtain⟨E,hE⟩:∃ E,E=edg ⟨W,H,Z⟩ (xi:Int) (yj:Int) top:=⟨_,rfl⟩;rw[←hU]at hst2 hst3 hUs hUl;rw[←hE]at hst2 hst3 hEok;have hmd4:=My U E;obtain⟨md,hmd⟩:∃ m,m=bst U E:=⟨_,rfl⟩;rw[←hmd]at hst2 hst3 hmd4;have hPs:=Dm md hEok;have hPl:=A9 md E;obtain⟨PR,hPR⟩:∃ P,P=prd md E:=⟨_,rfl⟩;rw[←hPR]at hst2 hst3 hPs hPl;have hdr:=Cm hUs hPs hUl hPl;have hLl:=BF (dif U PR) q;have hLb:=IZ (Bo U PR) hdr hq;obtain⟨L,hL⟩:∃ L,L=cod (dif U PR) q:=⟨_,rfl⟩;rw[←hL]at hst2 hst3 hLl hLb;obtain⟨D,hD⟩:∃ D,D=dec L q:=⟨_,rfl⟩;rw[←hD]at hst3;have HDl:=Aa (show D.length=16 by rw[hD,Dg]);have HDb:=Aa (show bdA 1099511627776 D by rw[hD];exact GM _ _);have HPb:=Aa (Cf hPs);have HUb:=Aa (Cf hUs);have Hst2:=Aa hst2;have Hst3:=Aa hst3;have HEok:=Aa hEok;have HUs:=Aa hUs;have HUl:=Aa hUl;have HPs:=Aa hPs;have HPl:=Aa hPl;have Hdr:=Aa hdr;have HLl:=Aa hLl;have HLb:=Aa hLb;have HU:=Aa hU;have HE:=Aa hE;have HMd:=Aa hmd;have HPR:=Aa hPR;have HL:=Aa hL;have HD:=Aa hD;have Hms1:=Aa (show(ms.set (3+k) (md:Int)).length=71 by rw[List.length_set,hms]);have Hmn:=Aa (show nth (ms.set (3+k) (md:Int)) (3+k)=(md:Int) by simp[nth,hms,show 3+k<71 by omega]);have Hsl:=Aa (show sub ms2 (7+k*16) 16=L by rw[←hst2];exact Jn (by rw[List.length_set,hms,hLl];omega) hLl);have Hm2l:=Aa (show ms2.length=71 by rw[←hst2,Gr (by rw[List.length_set,hms,hLl];omega),List.length_set,hms]);clear hZ hZ1 hms0 hms2 hxi hyj hU hE hmd hPR hL hD hst2 hst3 hEok hUs hUl hPs hPl hdr hLl hLb hZv hZn hms;have Hpu:=Aa (show pof (blkL t x y 0 0) (k%2*4) (k/2*4)=U by rw[HU.out,Hpb.out];congr 1 <;> (have h1:=Hxi.out;have h2:=Hyj.out;omega));obtain⟨-,k1,k2,k3,-⟩:=bx3 N0.br;go_wp2_with fail
   rw[Hxi.out,Hyj.out];refine(IJ ⟨W,H,Z⟩ xi yj W H top (some ⟨g,0,none⟩) c1 l _ HZv.out HZn.out (Sl.of_owns N0.own) rfl rfl (by omega) (by omega) ht0).mono ?_
   rintro e w6 ⟨rfl,e6⟩
   rw[←HE.out];have N1:=N0.e e6;have S1:=S0.out.ext e6;have SK:=Aa (fun z hz=>Cs S1 z hz (by omega));have pE:=EB.new w6 ed0;have ea:=Ext.alloc w6 (.cells (edC ed0) 67);have N2:=N1.e ea;have S2:=S1.ext ea;obtain⟨bE,hbE⟩:∃ K,K=w6.heap.size:=⟨_,rfl⟩;have hlt1:=N1.lt;have hes:=N1.ex.size;rw[←hbE]at hlt1 hes SK;have LT:=Aa (show w.heap.size≤bE∧B<bE∧g<bE∧O<bE∧M<bE∧B+1+1<bE from ⟨hes,hlt1.1,hlt1.2.1,hlt1.2.2.1,hlt1.2.2.2.1,hlt1.2.2.2.2⟩);clear N0 S0 N1 S1 e6 ea hlt1 hes k1 k2 k3;go_wp2_with (refine A7 67 _ _ rfl rfl pE rfl _ rfl (CJ E) 11 Aq (As HEok.out.ln) (As D7) ?_;intro w7 i7 g7;refine Hid.out ?_)
   rw[←hbE]at i7 g7⊢;have HbE:=Aa hbE;have N3:=N2.loc g7 (Nat.le_refl _) LT.out;have S3:=S2.grown g7 (fun z hz=>by have:=SK.out z hz;simp;omega);have iE:EB w7 bE E:=i7;have hME:=LT.out.2.2.2.2.1;clear hbE N2 S2 pE g7 i7;refine Aa ?_;go_wp2_with fail
   refine Am (by kernel_rfl) [(48,0),(49,1),(50,2),(51,3),(52,4),(53,5),(54,6),(55,7)] [[],[],[],[1,2],[],[1,2,3,4],[],[0,1,2,3,4,5,6],[0,1,2,3,4,5,6,7]] (fun i own ys wx=>match i with|0=>own= .int .i64 (k:Nat)|1=>own= .slice a4 64 c4|2=>own= .int .i64 (k:Nat)|3=>own= .agg (ic U)|4=>own= .agg (edC E)|5=>own= .int .i64 (md:Nat)|6=>own= .pointer (some ⟨M,3,none⟩)|7=>own= .pointer (some ⟨M,3+k,none⟩)|8=>True|_=>True) (fun Lx wx=>NS w g l c1 t.w t.h a n c W H B O M Z (if Lx 8=true then ms.set (3+k) (md:Int)else ms) wx∧EB wx bE E∧Sl wx a4 64 ((blkL t x y 0 0).map (Value.int .i64))) (by kernel_rfl) (by kernel_rfl) (by kernel_rfl) ?g0_r1 ?gop_r1 ?gend_r1
   case g0_r1=>exact⟨N3.e (Ext.drewN _ 1),EB.ext iE (Ext.drewN _ 1),S3.drewN 1⟩
   case gop_r1 =>
    refine⟨?_,?_,?_,?o3,?o4,?o5,?_,?o7,?o8,trivial⟩ <;> (intro Lx xs wx hG hl ha hb hD hI Qo Kx hK hQo;simp only[Ad,Nat.reduceAdd,Nat.reduceEqDiff,↓reduceIte]at hQo⊢)
    case o3 =>
     clear hl ha hb;rw[ddq (hD 1 rfl),ddq (hD 2 rfl)]at hQo⊢;clear hD hI;go_wp2_with fail
     refine(DJ (blkL t x y 0 0) k hlt a4 c4 _ hG.2.2).mono ?_
     rintro e w9 ⟨rfl,e9⟩
     rw[Hpu.out];go_wp2;exact hK.out _ _ ⟨rfl,⟨hG.1.e e9,EB.ext hG.2.1 e9,hG.2.2.ext e9⟩,fun _ _ _ _ _ _ h=>h⟩
    case o4 =>
     clear hl ha hb hD hI;go_wp2_with (refine AA 67 _ rfl rfl hG.2.1 rfl _ Rq rfl 11 Aq (As HEok.out.ln) ?_)
     exact hK.out _ _ ⟨rfl,hG,kkp⟩
    case o5 =>
     clear hl ha hb;rw[ddq (hD 3 rfl),ddq (hD 4 rfl)]at hQo⊢;clear hD hI;go_wp2_with fail
     refine(G8 U E _ HUl.out HUs.out HEok.out).mono ?_
     rintro e w9 ⟨rfl,e9⟩
     rw[←HMd.out];go_wp2;exact hK.out _ _ ⟨rfl,⟨hG.1.e e9,EB.ext hG.2.1 e9,hG.2.2.ext e9⟩,fun _ _ _ _ _ _ h=>h⟩
    case o7 =>
     clear hl ha hb;rw[ddq (hD 0 rfl),ddq (hD 6 rfl)]at hQo⊢;clear hD hI;go_wp2;exact hK.out _ _ ⟨rfl,hG,kkp⟩
    case o8 =>
     have l8:Lx 8=false:=hl;clear hl ha hb;rw[ddq (hD 5 rfl),ddq (hD 7 rfl)]at hQo⊢;clear hD hI;rw[l8,ifF]at hG;have cx:=hG.1.bm.cell (i:=3+k) (by rw[Hms.out];omega);have fx:=hG.1.bm.frozen (3+k);have N9:=hG.1.mac (Ax wx M (3+k) (.int .i64 (md:Nat))) (hG.1.bm.set (3+k) (md:Int));have E9:=EB.set_other hG.2.1 (c:=M) (i:=3+k) (v := .int .i64 (md:Nat)) (by omega);have S9:=hG.2.2.grown (Ax wx M (3+k) (.int .i64 (md:Nat))) (fun z hz=>by have:=SB.out z hz;simp;omega);go_wp2;exact hQo undef _ (hK.out _ _ ⟨trivial,⟨N9,E9,S9⟩,fun _ _ _ _ _ _ h=>h⟩)
    all_goals
     clear hl ha hb hD hI;go_wp2;exact hK.out _ _ ⟨rfl,hG,kkp⟩
   intro xs wx hV hG0;obtain⟨Lx,hL,hG⟩:=hG0;have l8:Lx 8=true:=hL 8 (by decide);clear hL hV;simp only[Ad,Nat.reduceAdd,Nat.reduceEqDiff,↓reduceIte];generalize xs 0=y0,xs 1=y1,xs 2=y2,xs 3=y3,xs 4=y4,xs 5=y5,xs 6=y6,xs 7=y7,xs 8=y8 at *
   replace hG:NS w g l c1 t.w t.h a n c W H B O M Z (if Lx 8=true then ms.set (3+k) (md:Int)else ms) wx∧EB wx bE E∧Sl wx a4 64 ((blkL t x y 0 0).map (Value.int .i64)):=hG
   rw[l8,ifT]at hG;obtain⟨N4,iE4,S4⟩:=hG;clear N3 iE S3;obtain⟨K2,hK2⟩:∃ K,K=wx.heap.size:=⟨_,rfl⟩;generalize wx=w11 at *;have hlt1:=N4.lt;have hlE:=EB.lt iE4;have hes:=N4.ex.size;have hs2:=fun z hz=>Cs S4 z hz (by omega)
   rw[←hK2]at hlt1 hlE hes hs2;have SK2:=Aa hs2;have LT2:=Aa (show w.heap.size≤K2∧B<K2∧g<K2∧O<K2∧M<K2∧B+1+1<K2 from ⟨hes,hlt1.1,hlt1.2.1,hlt1.2.2.1,hlt1.2.2.2.1,hlt1.2.2.2.2⟩);have HK2:=Aa hK2;have hMK2:=LT2.out.2.2.2.2.1;clear hK2 hlt1 hes hs2;go_wp2_with fail
   have hext:Stab (fun wa wb=>Ext wa wb) (fun i own ys wx=>match i with|0=>own= .int .i64 (k:Nat)|1=>own= .pointer (some ⟨M,3,none⟩)|2=>own= .pointer (some ⟨M,3+k,none⟩)|3=>own= .int .i64 (md:Nat)|4=>own= .agg (edC E)|5=>own= .agg (ic PR)|6=>IA wx K2 own|7=>IS wx K2 (ys 6) PR|_=>True):=by
    intro i own ys wa wb e h
    match i,h with
    | 0,h|1,h|2,h|3,h|4,h|5,h=>exact h
    | 6,h|7,h=>exact h.ext e
    | _+8,_=>trivial
   have Hext:=Aa hext;clear hext;refine An (by kernel_rfl) [(20,6),(56,0),(57,1),(58,2),(59,3),(60,4),(61,5)] [[],[],[0,1],[0,1,2],[],[0,1,2,3,4],[],[0,1,2,3,4,5,6]] (fun i own ys wx=>match i with|0=>own= .int .i64 (k:Nat)|1=>own= .pointer (some ⟨M,3,none⟩)|2=>own= .pointer (some ⟨M,3+k,none⟩)|3=>own= .int .i64 (md:Nat)|4=>own= .agg (edC E)|5=>own= .agg (ic PR)|6=>IA wx K2 own|7=>IS wx K2 (ys 6) PR|_=>True) (fun kx wx=>NS w g l c1 t.w t.h a n c W H B O M Z (ms.set (3+k) (md:Int)) wx∧K2≤wx.heap.size∧EB wx bE E∧Sl wx a4 64 ((blkL t x y 0 0).map (Value.int .i64))) (by kernel_rfl) (by kernel_rfl) (by kernel_rfl) ?g0_r2 ?gop_r2 ?gend_r2
   case g0_r2=>exact⟨N4.e (Ext.drewN _ 1),by rw[HK2.out];exact Nat.le_refl _,EB.ext iE4 (Ext.drewN _ 1),S4.drewN 1⟩
   case gop_r2 =>
    refine⟨?_,?_,?o2,?o3,?o4,?o5,?o6,?o7,trivial⟩ <;> (intro kx xs wx hk hG hD hI Qo Kx hK hQo;simp only[Ad,Nat.reduceAdd,Nat.reduceEqDiff,↓reduceIte]at hQo⊢)
    case o2 =>
     rw[ddq (hD 0 rfl),ddq (hD 1 rfl)]at hQo⊢;clear hD hI;go_wp2;exact hK.out _ _ ⟨rfl,hG,kkp⟩
    case o3 =>
     rw[ddq (hD 2 rfl)]at hQo⊢;clear hD hI;have cx:=hG.1.bm.cell (i:=3+k) (by rw[Hms1.out];omega);rw[Hmn.out]at cx;go_wp2;exact hK.out _ _ ⟨rfl,hG,kkp⟩
    case o4 =>
     clear hD hI;go_wp2_with (refine AA 67 _ rfl rfl hG.2.2.1 rfl _ Rq rfl 11 Aq (As HEok.out.ln) ?_)
     exact hK.out _ _ ⟨rfl,hG,kkp⟩
    case o5 =>
     rw[ddq (hD 3 rfl),ddq (hD 4 rfl)]at hQo⊢;clear hD hI;go_wp2_with fail
     refine(D9 E md _ HEok.out (by omega)).mono ?_
     rintro e w9 ⟨rfl,e9⟩
     rw[←HPR.out];go_wp2;exact hK.out _ _ ⟨rfl,⟨hG.1.e e9,Nat.le_trans hG.2.1 e9.size,EB.ext hG.2.2.1 e9,hG.2.2.2.ext e9⟩,fun i _ _ _ own ys h=>Hext.out i own ys _ _ e9 h⟩
    case o6 =>
     clear hD hI;have ea:=Ext.alloc wx (.cells (ic (List.replicate 16 0)) 47);go_wp2;exact hK.out _ _ ⟨⟨_,_,rfl,hG.2.1,IB.new _ _ (List.replicate 16 0),by simp⟩,⟨hG.1.e ea,Nat.le_trans hG.2.1 ea.size,EB.ext hG.2.2.1 ea,hG.2.2.2.ext ea⟩,fun i _ _ _ own ys h=>Hext.out i own ys _ _ ea h⟩
    case o7 =>
     have d6:IA wx K2 (xs 6):=hD 6 rfl;have d5:_=_:=hD 5 rfl;clear hD hI;generalize hx6:xs 6=y6 at *;have Hx6:=Aa hx6;clear hx6;generalize xs 5=y5 at *;obtain⟨b6,us6,rfl,hb6,z6,l6⟩:=d6;subst d5;refine Af 47 _ _ rfl rfl z6 0 16 rfl _ rfl PR rfl Ag HPl.out (by rw[l6];omega) ?_;intro w9 i9 g9;rw[Ap (by rw[HPl.out,l6])]at i9;have hst:∀(wy:World),StI wx wy→Stbn 8 7 [[],[],[0,1],[0,1,2],[],[0,1,2,3,4],[],[0,1,2,3,4,5,6]] (fun i own ys wx=>match i with|0=>own= .int .i64 (k:Nat)|1=>own= .pointer (some ⟨M,3,none⟩)|2=>own= .pointer (some ⟨M,3+k,none⟩)|3=>own= .int .i64 (md:Nat)|4=>own= .agg (edC E)|5=>own= .agg (ic PR)|6=>IA wx K2 own|7=>IS wx K2 (ys 6) PR|_=>True) wx wy:=by
      intro wy hy ii hii hne hc own ys h
      match ii,h with
      | 0,h|1,h|2,h|3,h|4,h|5,h=>exact h
      | 6,h=>exact h.stI hy
      | 7,h=>exact absurd rfl hne
      | _+8,_=>trivial
     exact hQo undef _ (hK.out _ _ ⟨⟨b6,Hx6.out,hb6,i9⟩,⟨hG.1.loc g9 hb6 LT2.out,Nat.le_trans hG.2.1 g9.size,EB.gr hG.2.2.1 g9 (by simp;omega),hG.2.2.2.grown g9 (fun z hz=>by have:=SK2.out z hz;simp;omega)⟩,hst _ ⟨b6,_,_,g9,z6,i9,HPl.out⟩⟩)
    all_goals
     clear hD hI;go_wp2;exact hK.out _ _ ⟨rfl,hG,kkp⟩
   clear Hext;intro xs wx hV hG;have d7:IS wx K2 ((xs 6)) PR:=hV 7 (by decide);clear hV;simp only[Ad,Nat.reduceAdd,Nat.reduceEqDiff,↓reduceIte];generalize xs 0=y0,xs 1=y1,xs 2=y2,xs 3=y3,xs 4=y4,xs 5=y5,xs 6=y6,xs 7=y7 at *
   replace hG:NS w g l c1 t.w t.h a n c W H B O M Z (ms.set (3+k) (md:Int)) wx∧K2≤wx.heap.size∧EB wx bE E∧Sl wx a4 64 ((blkL t x y 0 0).map (Value.int .i64)):=hG
   obtain⟨bP,rfl,hbP,iP⟩:=d7;obtain⟨N5,hK4,iE5,S5⟩:=hG;clear N4 iE4 S4 hK4 iE5;have hMP:M<bP:=by omega
   have hgP:g<bP:=by have:=LT2.out.2.2.1;omega
   generalize wx=w12 at *;go_wp2_with fail
   refine Am (by kernel_rfl) [(62,0),(63,1),(64,2),(65,3),(66,4),(67,5),(68,6),(69,7),(70,8),(71,9)] [[],[],[],[1,2],[],[1,2,3,4],[],[1,2,3,4,5,6],[],[0,1,2,3,4,5,6,7,8],[0,1,2,3,4,5,6,7,8,9]] (fun i own ys wx=>match i with|0=>own= .int .i64 (k:Nat)|1=>own= .slice a4 64 c4|2=>own= .int .i64 (k:Nat)|3=>own= .agg (ic U)|4=>own= .agg (ic PR)|5=>own= .agg (ic (dif U PR))|6=>own= .int .i64 (q:Nat)|7=>own= .agg (ic L)|8=>own= .pointer (some ⟨M,7,none⟩)|9=>own= .pointer (some ⟨M,7+k*16,none⟩)|10=>True|_=>True) (fun Lx wx=>NS w g l c1 t.w t.h a n c W H B O M Z (if Lx 10=true then ms2 else ms.set (3+k) (md:Int)) wx∧IB wx bP 47 PR∧Sl wx a4 64 ((blkL t x y 0 0).map (Value.int .i64))) (by kernel_rfl) (by kernel_rfl) (by kernel_rfl) ?g0_r3 ?gop_r3 ?gend_r3
   case g0_r3=>exact⟨N5.e (Ext.drewN _ 1),iP.drewN 1,S5.drewN 1⟩
   case gop_r3 =>
    refine⟨?_,?_,?_,?o3,?o4,?o5,?_,?o7,?_,?o9,?o10,trivial⟩ <;> (intro Lx xs wx hG hl ha hb hD hI Qo Kx hK hQo;simp only[Ad,Nat.reduceAdd,Nat.reduceEqDiff,↓reduceIte]at hQo⊢)
    case o3 =>
     clear hl ha hb;rw[ddq (hD 1 rfl),ddq (hD 2 rfl)]at hQo⊢;clear hD hI;go_wp2_with fail
     refine(DJ (blkL t x y 0 0) k hlt a4 c4 _ hG.2.2).mono ?_
     rintro e w9 ⟨rfl,e9⟩
     rw[Hpu.out];go_wp2;exact hK.out _ _ ⟨rfl,⟨hG.1.e e9,hG.2.1.ext e9,hG.2.2.ext e9⟩,fun _ _ _ _ _ _ h=>h⟩
    case o4 =>
     clear hl ha hb hD hI;go_wp2_with (refine Ab 47 _ rfl rfl hG.2.1 0 16 rfl _ Rm rfl Ag (by rw[HPl.out];omega) _ (by rw[Ak _ _ (HPl.out)]) ?_)
     exact hK.out _ _ ⟨rfl,hG,kkp⟩
    case o5 =>
     clear hl ha hb;rw[ddq (hD 3 rfl),ddq (hD 4 rfl)]at hQo⊢;clear hD hI;go_wp2_with fail
     refine(IM U PR _ HUl.out HPl.out HUb.out HPb.out).mono ?_
     rintro e w9 ⟨rfl,e9⟩
     go_wp2;exact hK.out _ _ ⟨rfl,⟨hG.1.e e9,hG.2.1.ext e9,hG.2.2.ext e9⟩,fun _ _ _ _ _ _ h=>h⟩
    case o7 =>
     clear hl ha hb;rw[ddq (hD 5 rfl),ddq (hD 6 rfl)]at hQo⊢;clear hD hI;go_wp2_with fail
     refine(DT (dif U PR) q _ (Bo _ _) Hdr.out hq).mono ?_
     rintro e w9 ⟨rfl,e9⟩
     rw[←HL.out];go_wp2;exact hK.out _ _ ⟨rfl,⟨hG.1.e e9,hG.2.1.ext e9,hG.2.2.ext e9⟩,fun _ _ _ _ _ _ h=>h⟩
    case o9 =>
     clear hl ha hb;rw[ddq (hD 0 rfl),ddq (hD 8 rfl)]at hQo⊢;clear hD hI;go_wp2;exact hK.out _ _ ⟨rfl,hG,kkp⟩
    case o10 =>
     have l10:Lx 10=false:=hl;clear hl ha hb;rw[ddq (hD 7 rfl),ddq (hD 9 rfl)]at hQo⊢;clear hD hI;rw[l10,ifF]at hG;have ib:=hG.1.bm;refine Af 47 _ _ rfl rfl ib (7+k*16) 16 rfl _ rfl L rfl Ag HLl.out (by rw[Hms1.out];omega) ?_;intro w9 i9 g9;rw[Hst2.out]at i9;exact hQo undef _ (hK.out _ _ ⟨trivial,⟨hG.1.mac g9 i9,hG.2.1.gr g9 (by simp;omega),hG.2.2.grown g9 (fun z hz=>by have:=SB.out z hz;simp;omega)⟩,fun _ _ _ _ _ _ h=>h⟩)
    all_goals
     clear hl ha hb hD hI;go_wp2;exact hK.out _ _ ⟨rfl,hG,kkp⟩
   intro xs wx hV hG0;obtain⟨Lx,hL,hG⟩:=hG0;have l10:Lx 10=true:=hL 10 (by decide);clear hL hV;simp only[Ad,Nat.reduceAdd,Nat.reduceEqDiff,↓reduceIte];generalize xs 0=y0,xs 1=y1,xs 2=y2,xs 3=y3,xs 4=y4,xs 5=y5,xs 6=y6,xs 7=y7,xs 8=y8,xs 9=y9,xs 10=y10 at *
   replace hG:NS w g l c1 t.w t.h a n c W H B O M Z (if Lx 10=true then ms2 else ms.set (3+k) (md:Int)) wx∧IB wx bP 47 PR∧Sl wx a4 64 ((blkL t x y 0 0).map (Value.int .i64)):=hG
   rw[l10,ifT]at hG;obtain⟨N6,iP6,S6⟩:=hG;clear N5 iP S5;generalize wx=w13 at *;go_wp2_with fail
   refine Am (by kernel_rfl) [(72,0),(73,1),(74,2),(75,3),(76,4),(77,5),(78,6),(79,7),(80,8),(81,9),(82,10)] [[],[],[],[],[],[],[4,5],[4,5,6],[],[4,5,6,7,8],[0,1,2,3,4,5,6,7,8,9]] (fun i own ys wx=>match i with|0=>own= .agg #[.int .i64 W,.int .i64 H,.slice (some ⟨g,0,none⟩) l c1]|1=>own= .int .i64 (xi:Nat)|2=>own= .int .i64 (yj:Nat)|3=>own= .agg (ic PR)|4=>own= .int .i64 (k:Nat)|5=>own= .pointer (some ⟨M,7,none⟩)|6=>own= .pointer (some ⟨M,7+k*16,none⟩)|7=>own= .agg (ic L)|8=>own= .int .i64 (q:Nat)|9=>own= .agg (ic D)|10=>True|_=>True) (fun Lx wx=>NS w g l c1 t.w t.h a n c W H B O M (if Lx 10=true then Z1 else Z) ms2 wx∧IB wx bP 47 PR∧Sl wx a4 64 ((blkL t x y 0 0).map (Value.int .i64))) (by kernel_rfl) (by kernel_rfl) (by kernel_rfl) ?g0_r4 ?gop_r4 ?gend_r4
   case g0_r4=>exact⟨N6.e (Ext.drewN _ 1),iP6.drewN 1,S6.drewN 1⟩
   case gop_r4 =>
    refine⟨?o0,?_,?_,?o3,?_,?_,?o6,?o7,?_,?o9,?o10,trivial⟩ <;> (intro Lx xs wx hG hl ha hb hD hI Qo Kx hK hQo;simp only[Ad,Nat.reduceAdd,Nat.reduceEqDiff,↓reduceIte]at hQo⊢)
    case o0 =>
     clear hl ha hb hD hI;obtain⟨-,k0,k1,k2,-⟩:=bx3 hG.1.br;go_wp2;exact hK.out _ _ ⟨rfl,hG,kkp⟩
    case o3 =>
     clear hl ha hb hD hI;go_wp2_with (refine Ab 47 _ rfl rfl hG.2.1 0 16 rfl _ Rm rfl Ag (by rw[HPl.out];omega) _ (by rw[Ak _ _ (HPl.out)]) ?_)
     exact hK.out _ _ ⟨rfl,hG,kkp⟩
    case o6 =>
     clear hl ha hb;rw[ddq (hD 4 rfl),ddq (hD 5 rfl)]at hQo⊢;clear hD hI;go_wp2;exact hK.out _ _ ⟨rfl,hG,kkp⟩
    case o7 =>
     clear hl ha hb;rw[ddq (hD 6 rfl)]at hQo⊢;clear hD hI;go_wp2_with (refine Ab 47 _ rfl rfl hG.1.bm (7+k*16) 16 rfl _ Rm rfl Ag (by rw[Hm2l.out];omega) _ (by rw[Hsl.out]) ?_)
     exact hK.out _ _ ⟨rfl,hG,kkp⟩
    case o9 =>
     clear hl ha hb;rw[ddq (hD 7 rfl),ddq (hD 8 rfl)]at hQo⊢;clear hD hI;go_wp2_with fail
     refine(EU L q _ HLl.out HLb.out hq).mono ?_
     rintro e w9 ⟨rfl,e9⟩
     rw[←HD.out];go_wp2;exact hK.out _ _ ⟨rfl,⟨hG.1.e e9,hG.2.1.ext e9,hG.2.2.ext e9⟩,fun _ _ _ _ _ _ h=>h⟩
    case o10 =>
     have l10:Lx 10=false:=hl;clear hl ha hb;rw[ddq (hD 0 rfl),ddq (hD 1 rfl),ddq (hD 2 rfl),ddq (hD 3 rfl),ddq (hD 9 rfl)]at hQo⊢;clear hD hI;rw[l10,ifF]at hG;go_wp2_with fail
     refine(Iy W H xi yj w.heap.size g l c1 Z PR D _ HPl.out HDl.out HPb.out HDb.out hW32 (by omega) (by omega) hI (by omega) hG.1.own).mono ?_
     rintro e w9 ⟨rfl,o9,g9⟩
     go_wp2;rw[Hst3.out]at o9;exact hK.out _ _ ⟨trivial,⟨hG.1.put g9 o9,hG.2.1.gr g9 (by simp;omega),hG.2.2.grown g9 (fun z hz=>by have:=SB.out z hz;simp;omega)⟩,fun _ _ _ _ _ _ h=>h⟩
    all_goals
     clear hl ha hb hD hI;go_wp2;exact hK.out _ _ ⟨rfl,hG,kkp⟩
   intro xs wx hV hG0;obtain⟨Lx,hL,hG⟩:=hG0;have l10:Lx 10=true:=hL 10 (by decide);clear hL hV;simp only[Ad,Nat.reduceAdd,Nat.reduceEqDiff,↓reduceIte];generalize xs 0=y0,xs 1=y1,xs 2=y2,xs 3=y3,xs 4=y4,xs 5=y5,xs 6=y6,xs 7=y7,xs 8=y8,xs 9=y9,xs 10=y10 at *
   replace hG:NS w g l c1 t.w t.h a n c W H B O M (if Lx 10=true then Z1 else Z) ms2 wx∧IB wx bP 47 PR∧Sl wx a4 64 ((blkL t x y 0 0).map (Value.int .i64)):=hG
   rw[l10,ifT]at hG;clear N6 iP6 S6;have HG:=Aa hG;clear hG;go_wp2;go_roundw
   case rel=>exact⟨k+1,by omega,by go_num,by rw[←HZ1.out,←HM2.out];exact HG.out.1,Aa HG.out.2.2⟩
   case measure=>simp[intOf];omega
  ·obtain rfl:k=4:=by omega
   have Hzl:=Aa (HMl.out 4 (by omega));have hbM:=N0.bm;have hbz:=N0.bz;have hex:=N0.ex;have hh1:=N0.h1;clear N0;go_wp2_with (first|(refine Ab 50 _ rfl rfl hbM 0 71 rfl _ Ro rfl Ah (by rw[Hzl.out];omega) _ (by rw[Ak _ _ (Hzl.out)]) ?_)|(refine Af 50 _ _ rfl rfl hbz 0 71 rfl _ rfl (BP t ⟨W,H,px⟩ x y q top 4).zs rfl Ah (Hzl.out) (by simp[zl]) ?_;intro w6 p6 g6;refine Hid.out ?_))
   rw[Ap (by rw[Hzl.out,AB])]at p6;have E6:Ext w w6:=Ext.grown hex g6 (fun q hq=>by cases hq;omega);refine Aa ?_;go_wp2;exact bodyPost_ret (v := .agg (ic (BP t ⟨W,H,px⟩ x y q top 4).zs)) (results_cell_row rfl _ _ (B+1+1) 50 (ic (BP t ⟨W,H,px⟩ x y q top 4).zs) (0,0) _ rfl p6 Ro rfl (by rw[AJ,Hzl.out];exact Ah)) rfl ⟨rfl,E6⟩
end Go.Proofs.YtijnbalgnhigbaaGreatDoor
