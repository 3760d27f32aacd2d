/- The decisions for a macroblock: rows of decisions in a box. | impl.MacroBins: the decisions for a macroblock. | What a macroblock costs; the program's walk. | Words of the laws of three pictures and a macroblock. -/
import Derived.Test.YtbnhaegidfbgbaaGreatDoorQr11
import Derived.Deep.CutRange
set_option linter.unusedVariables false
set_option linter.unusedSimpArgs false
set_option maxRecDepth 100000
set_option maxHeartbeats 4000000
namespace Go.Proofs.YtbnhaegidfbgbaaGreatDoor
open Go.RowKit
attribute [local go_sem] Oper.semAt_some
/-- Nothing below B changed, and of the rest only rows of type T and the box X. -/
structure FX (B T X : Nat) (w w' : World) : Prop where
 lo:Below B w w'
 ot:∀(i:Nat) (o:Obj),w.heap[i]?=some o→notT T o→i≠X→w'.heap[i]?=some o
theorem FX.refl (B T X:Nat) (w:World):FX B T X w w:=⟨Below.refl _ _,fun _ _ h _ _=>h⟩
theorem FX.fr {B T X:Nat} {a b c:World} (h:FX B T X a b) (k:FR B T b c):FX B T X a c:=⟨h.lo.trans k.lo,fun i o h1 h2 h3=>k.ot i o (h.ot i o h1 h2 h3) h2⟩
theorem FX.ext {B T X:Nat} {a b c:World} (h:FX B T X a b) (k:Ext b c) (hB:B≤b.heap.size):FX B T X a c:=h.fr (FR.of_ext k hB)
theorem FX.set {B T X:Nat} {a b:World} (h:FX B T X a b) (hX:B≤X) (v:Value):FX B T X a (b.setCell ⟨X,0,none⟩ v) :=
 ⟨h.lo.setCell (p:=⟨X,0,none⟩) hX v,fun i o h1 h2 h3=>blk_set_other (h.ot i o h1 h2 h3) h3⟩
theorem FX.ib {B T X U b:Nat} {zs:List Int} {w w':World} (f:FX B T X w w') (h:IB w b U zs) (hne:U≠T) (hb:b≠X):IB w' b U zs:=f.ot b _ h (fun cs fr e=>by cases e;exact hne rfl) hb
theorem FX.size {B T X:Nat} {w w':World} (h:FX B T X w w'):w.heap.size≤w'.heap.size:=h.lo.size
theorem FX.grown {B T X:Nat} {a b c:World} {row:Option Nat} (h:FX B T X a b) (g:b.grownBy c row) (hr:∀ r,row=some r→a.heap.size≤r) (hB:B≤a.heap.size):FX B T X a c :=
 ⟨h.lo.trans ⟨g.os,g.tape,g.output,g.size,fun k hk=>g.block k (by have:=h.size;omega) (fun e=>by have:=hr k e.symm;omega)⟩,fun i o h1 h2 h3=>(g.block i (lt_of_block (h.ot i o h1 h2 h3)) (fun e=>by have:=hr i e.symm;have:=lt_of_block h1;omega)).trans (h.ot i o h1 h2 h3)⟩
/-- The box that holds the row. -/
def BB (w:World) (X:Nat) (v:Value):Prop:=w.heap[X]?=some (.cells #[v] 40 (0,0))
theorem BB.cell {w:World} {X:Nat} {v:Value} (h:BB w X v):w.cell? ⟨X,0,none⟩=some v∧w.frozen? ⟨X,0,none⟩=false:=by
 obtain⟨-,h1,h2⟩:=bx1 h;exact⟨h1,h2⟩
theorem BB.set {w:World} {X:Nat} {v:Value} (h:BB w X v) (u:Value):BB (w.setCell ⟨X,0,none⟩ u) X u:=by
 have h1:=heap_setCell_same w X 0 _ _ u h;show _=_
 simpa using h1
theorem BB.fr {B X:Nat} {w w':World} {v:Value} (h:BB w X v) (f:FR B 133 w w'):BB w' X v:=f.blk h (by decide)
theorem BB.ext {X:Nat} {w w':World} {v:Value} (h:BB w X v) (e:Ext w w'):BB w' X v:=e.blk h
theorem own_setBB {w:World} {X B s n:Nat} {v v' u:Value} {xs:List Value} (o:w.ownsRow B 133 s v n xs) (h:BB w X v'):(w.setCell ⟨X,0,none⟩ u).ownsRow B 133 s v n xs:=by
 refine o.kept (gr_set w X 0 u) ?_;rcases o.2 with⟨rfl,-⟩|⟨g,cap,cur,rfl,-,hg,-⟩
 ·exact .inl rfl
 ·right
  intro e;cases e;unfold BB at h;rw[hg]at h;cases h
theorem appendNumber_at (v:Value) (N:Nat) (xs:List Int) (n b B:Nat) (bi:Int) (hbi:bi=(b:Int)) (w:World) (own:w.ownsRow B 133 2 v N (xs.map (Value.int .i64))) (hB:B≤w.heap.size) (hN:N≤1000000) (hn:n<32768) (hb:b≤100) :
 Calls Tryz.prog 106 #[v,.int .i64 n,.int .i64 bi] w fun e w'=>∃ a c,e= .returned (.slice a (N+numN n) c)∧w'.ownsRow B 133 2 (.slice a (N+numN n) c) (N+numN n) ((xs++numL n b).map (Value.int .i64))∧FR B 133 w w':=by
 subst hbi;exact appendNumber_any v N xs n b B w own hB hN hn hb
/-- Where the coder stands: N decisions xs in the box. -/
def ST (w1:World) (B0 X N:Nat) (xs:List Int) (wx:World):Prop:=FX B0 133 X w1 wx∧∃ a c,BB wx X (.slice a N c)∧wx.ownsRow B0 133 2 (.slice a N c) N (xs.map (Value.int .i64))
/-- Marks of ranges over functions among the deferred calls. -/
def MK (lo:Nat):List Deferred→World→Prop
 | [],_=>True
 | d::ds,w=>∃ D,d.target= .collected D∧lo≤D∧w.heap[D]?=some (.deferred (some []))∧(∀ d'∈ds,d'.target ≠ .collected D)∧MK lo ds w
theorem MK.keep {lo:Nat} {w w':World} (h:∀(i:Nat) (o:Obj),w.heap[i]?=some o→o.isCells=false→w'.heap[i]?=some o):∀ ds,MK lo ds w→MK lo ds w'
 | [],_=>trivial
 | d::ds,⟨D,h1,h2,h3,h4,h5⟩=>⟨D,h1,h2,h _ _ h3 rfl,h4,MK.keep h ds h5⟩
theorem MK.put {lo D:Nat} {w:World} (o:Obj):∀ ds,MK lo ds w→(∀ d∈ds,d.target ≠ .collected D)→MK lo ds (w.putObj D o)
 | [],_,_=>trivial
 | d::ds,⟨E,h1,h2,h3,h4,h5⟩,hn=>⟨E,h1,h2,(World.putObj_heap_other (fun e=>hn d (List.mem_cons_self) (by rw[h1,e]))).trans h3,h4,MK.put o ds h5 (fun d' hd=>hn d' (List.mem_cons_of_mem _ hd))⟩
theorem MK.lt {lo:Nat} {w:World} : ∀ ds,MK lo ds w→∀ d∈ds,∀ D,w.heap.size≤D→d.target ≠ .collected D
 | [],_,d,hd,_,_=>by cases hd
 | e::ds,⟨E,h1,h2,h3,h4,h5⟩,d,hd,D,hD=>by
  rcases List.mem_cons.1 hd with rfl|hd
  ·rw[h1];intro he;have:=lt_of_block h3;cases he;omega
  ·exact MK.lt ds h5 d hd D hD
theorem FX.trans {B T X:Nat} {a b c:World} (h:FX B T X a b) (k:FX B T X b c):FX B T X a c:=⟨h.lo.trans k.lo,fun i o h1 h2 h3=>k.ot i o (h.ot i o h1 h2 h3) h2 h3⟩
theorem FX.keepsN {B T X:Nat} {w w':World} {v:Value} (f:FX B T X w w') (hX:BB w X v):KeepsOthers w w':=⟨f.size,fun i o h1 h2=>f.ot i o h1 (fun cs fr e=>by subst e;cases h2) (fun e=>by subst e;unfold BB at hX;rw[hX]at h1;cases h1;cases h2)⟩
theorem MK.ko {lo:Nat} {w w':World} (h:KeepsOthers w w') (ds:List Deferred) (m:MK lo ds w):MK lo ds w':=MK.keep h.same ds m
/-- The runs' decisions. -/
def rcL : List (Int×Int)→List Int
 | [] => []
 | r::l=>(numL r.1.toNat 23++numL (sidx r.2-1).toNat 30)++rcL l
def rcN : List (Int×Int)→Nat
 | []=>0
 | r::l=>(numN r.1.toNat+numN (sidx r.2-1).toNat)+rcN l
theorem rcL_snoc (r:Int×Int):∀ l,rcL (l ++ [r])=rcL l++(numL r.1.toNat 23++numL (sidx r.2-1).toNat 30)
 | []=>by simp[rcL]
 | q::l=>by simp[rcL,rcL_snoc r l]
theorem rcN_snoc (r:Int×Int):∀ l,rcN (l ++ [r])=rcN l+(numN r.1.toNat+numN (sidx r.2-1).toNat)
 | []=>by simp[rcN]
 | q::l=>by simp[rcN,rcN_snoc r l];omega
theorem bk_take (zs:List Int):∀ k,k≤(runsL zs).length→bkL zs k=numL (runsL zs).length 16++rcL ((runsL zs).take k)∧bkN zs k=numN (runsL zs).length+rcN ((runsL zs).take k)
 | 0,_=>by simp[bkL,bkN,rcL,rcN]
 | k+1,h=>by
  obtain⟨h1,h2⟩:=bk_take zs k (by omega);have e:(runsL zs).take (k+1)=(runsL zs).take k ++ [(runsL zs).getD k (0,0)]:=by
   rw[List.take_add_one];simp[List.getD,List.getElem?_eq_getElem (show k<(runsL zs).length by omega)]
  rw[e,rcL_snoc,rcN_snoc,bkL,bkN,h1,h2];exact⟨by simp,by omega⟩
theorem blk_rc (zs:List Int):blkB zs=numL (runsL zs).length 16++rcL (runsL zs)∧blkC zs=numN (runsL zs).length+rcN (runsL zs):=by
 have h:=bk_take zs (runsL zs).length (Nat.le_refl _);rw[List.take_length]at h;exact h
theorem rn_rng (x:Rn 4080):∃ z s:Nat,x.1.1=z∧z≤15∧sidx x.1.2-1=s∧s≤8160 ∧ -4080≤x.1.2∧x.1.2≤4080:=by
 obtain⟨⟨z,l⟩,h1,h2,h3,h4,h5⟩:=x;simp only at h1 h2 h3 h4 h5⊢;refine⟨z.toNat,(sidx l-1).toNat,by omega,by omega,?_,?_,h4,h5⟩
 ·unfold sidx;split <;> omega
 ·unfold sidx;split <;> omega
theorem rcN_le : ∀ l:List (Rn 4080),rcN (l.map (·.1))≤l.length*62
 | []=>by simp[rcN]
 | x::l=>by
  have ih:=rcN_le l;obtain⟨z,s,e1,h1,e2,h2,-,-⟩:=rn_rng x;have q1:numN x.1.1.toNat≤31:=numN_le (by omega);have q2:numN (sidx x.1.2-1).toNat≤31:=numN_le (by omega);simp only[List.map_cons,rcN,List.length_cons];omega
/-- What holds between two rounds over the runs of a block. -/
structure RI (B0 Bx : Nat) (wL : World) (Ib : Nat) (zs : List Int) (N : Nat) (L : List Int) (pre : List (Rn 4080)) (W : World) : Prop where
 fx:FX B0 133 Bx wL W
 ib:IB W Ib 29 zs
 bb:∃ a c,BB W Bx (.slice a (N+rcN (pre.map (·.1))) c)∧W.ownsRow B0 133 2 (.slice a (N+rcN (pre.map (·.1))) c) (N+rcN (pre.map (·.1))) ((L++rcL (pre.map (·.1))).map (Value.int .i64))
theorem blk_nc {W W':World} {b:Nat} {cs:Array Value} {T:TypeId} {fr:Nat×Nat} {row:Option Nat} {n:Nat} (h:W.heap[b]?=some (.cells cs T fr)) (g:W.grownBy W' row) (hr:∀ r,row=some r→n≤r∧∃ o:Obj,W.heap[r]?=some o∧o.isCells=false):W'.heap[b]?=some (.cells cs T fr) :=
 blk_gr h g (fun e=>by obtain⟨-,o,ho,hc⟩:=hr b e;rw[h]at ho;cases ho;cases hc)
theorem own_nc {W W':World} {b e s k:Nat} {v:Value} {xs:List Value} {row:Option Nat} {n:Nat} (h:W.ownsRow b e s v k xs) (g:W.grownBy W' row) (hr:∀ r,row=some r→n≤r∧∃ o:Obj,W.heap[r]?=some o∧o.isCells=false):W'.ownsRow b e s v k xs:=by
 refine h.kept g ?_;rcases h.2 with⟨rfl,-⟩|⟨q,cap,cur,rfl,-,hq,-⟩
 ·exact .inl rfl
 ·right
  intro e;obtain⟨-,o,ho,hc⟩:=hr q e.symm;rw[hq]at ho;cases ho;cases hc
theorem RI.own {B0 Bx Ib N:Nat} {wL:World} {zs L:List Int} (hB:B0≤wL.heap.size):OwnFrom wL.heap.size (fun pre W=>RI B0 Bx wL Ib zs N L pre W):=fun pre W W' row h g hr=>by
 obtain⟨h1,h2,a,c,h3,h4⟩:=h;exact⟨h1.grown g (fun r e=>(hr r e).1) hB,blk_nc h2 g hr,a,c,blk_nc h3 g hr,own_nc h4 g hr⟩
/-- What holds between two blocks of levels. -/
def LPI (m:Mac) (N0:Nat) (xs0:List Int) (B0 Bx:Nat) (w1:World) (a:Act) (wr:World):Prop:=∃(k:Nat) (ds:List Deferred) (l:List Value),a=⟨l.toArray,ds⟩∧l.length=77∧l[3]?=some (.pointer (some ⟨Bx,0,none⟩))∧l[4]?=some (.pointer (some ⟨Bx+1,0,none⟩))∧l[54]?=some (.agg (ic m.lv))∧l[55]?=some (.int .i64 (k:Nat))∧k≤4∧MK w1.heap.size ds wr∧FX B0 133 Bx w1 wr∧B0≤wr.heap.size∧∃ a c,BB wr Bx (.slice a (N0+lvNn m k) c)∧wr.ownsRow B0 133 2 (.slice a (N0+lvNn m k) c) (N0+lvNn m k) ((xs0++lvBn m k).map (Value.int .i64))
theorem list77 (l:List Value) (h:l.length=77):l=(List.range 77).map (fun i=>l.getD i undef):=by
 refine List.ext_getElem (by simp[h]) fun i h1 h2 => ?_
 simp[List.getD,h1]
theorem LPI.elim {m:Mac} {N0:Nat} {xs0:List Int} {B0 Bx:Nat} {w1:World} {a:Act} {wr:World} (h:LPI m N0 xs0 B0 Bx w1 a wr):∃(k:Nat) (ds:List Deferred) (f:Nat→Value),a=⟨(f 0::f 1::f 2::(.pointer (some ⟨Bx,0,none⟩))::(.pointer (some ⟨Bx+1,0,none⟩))::f 5::f 6::f 7::f 8::f 9::f 10::f 11::f 12::f 13::f 14::f 15::f 16::f 17::f 18::f 19::f 20::f 21::f 22::f 23::f 24::f 25::f 26::f 27::f 28::f 29::f 30::f 31::f 32::f 33::f 34::f 35::f 36::f 37::f 38::f 39::f 40::f 41::f 42::f 43::f 44::f 45::f 46::f 47::f 48::f 49::f 50::f 51::f 52::f 53::(.agg (ic m.lv))::(.int .i64 (k:Nat))::f 56::f 57::f 58::f 59::f 60::f 61::f 62::f 63::f 64::f 65::f 66::f 67::f 68::f 69::f 70::f 71::f 72::f 73::f 74::f 75::f 76 :: []).toArray,ds⟩∧k≤4∧MK w1.heap.size ds wr∧FX B0 133 Bx w1 wr∧B0≤wr.heap.size∧∃ a c,BB wr Bx (.slice a (N0+lvNn m k) c)∧wr.ownsRow B0 133 2 (.slice a (N0+lvNn m k) c) (N0+lvNn m k) ((xs0++lvBn m k).map (Value.int .i64)):=by
 obtain⟨k,ds,l,rfl,hl,h3,h4,h54,h55,hr⟩:=h;refine⟨k,ds,fun i=>l.getD i undef,?_,hr⟩;have e:=list77 l hl;have g3:l.getD 3 undef= .pointer (some ⟨Bx,0,none⟩):=by simp[List.getD,h3]
 have g4:l.getD 4 undef= .pointer (some ⟨Bx+1,0,none⟩):=by simp[List.getD,h4]
 have g54:l.getD 54 undef= .agg (ic m.lv):=by simp[List.getD,h54]
 have g55:l.getD 55 undef= .int .i64 (k:Nat):=by simp[List.getD,h55]
 rw[←g3,←g4,←g54,←g55];exact congrArg (fun z:List Value=>(⟨z.toArray,ds⟩:Act)) e
theorem RI.ext {B0 Bx Ib N:Nat} {wL W W':World} {zs L:List Int} {pre:List (Rn 4080)} (h:RI B0 Bx wL Ib zs N L pre W) (e:Ext W W') (hB:B0≤wL.heap.size):RI B0 Bx wL Ib zs N L pre W':=by
 obtain⟨h1,h2,a,c,h3,h4⟩:=h;exact⟨h1.ext e (Nat.le_trans hB h1.size),h2.ext e,a,c,h3.ext e,owns_ext h4 e⟩
/-- The round's frame: the run lies in a box of its own. -/
def AX (Bx:Nat) (wL:World) (x:Rn 4080) (a':Act) (W:World):Prop:=∃(Rx:Nat) (l:List Value),wL.heap.size≤Rx∧W.heap[Rx]?=some (.cells #[.int .i64 x.1.1,.int .i64 x.1.2] 140 (0,0))∧a'=⟨l.toArray,[]⟩∧l.length=77∧l[3]?=some (.pointer (some ⟨Bx,0,none⟩))∧l[11]?=some (.pointer (some ⟨Rx,0,none⟩))
theorem AX.own (Bx:Nat) (wL:World) (x:Rn 4080) (a':Act):OwnFrom wL.heap.size (fun(_:Unit) W=>AX Bx wL x a' W):=fun _ W W' row h g hr=>by
 obtain⟨Rx,l,h1,h2,h3⟩:=h;exact⟨Rx,l,h1,blk_nc h2 g hr,h3⟩
theorem AX.elim {Bx:Nat} {wL:World} {x:Rn 4080} {a':Act} {W:World} (h:AX Bx wL x a' W):∃(Rx:Nat) (f:Nat→Value),wL.heap.size≤Rx∧W.heap[Rx]?=some (.cells #[.int .i64 x.1.1,.int .i64 x.1.2] 140 (0,0))∧a'=⟨(f 0::f 1::f 2::(.pointer (some ⟨Bx,0,none⟩))::f 4::f 5::f 6::f 7::f 8::f 9::f 10::(.pointer (some ⟨Rx,0,none⟩))::f 12::f 13::f 14::f 15::f 16::f 17::f 18::f 19::f 20::f 21::f 22::f 23::f 24::f 25::f 26::f 27::f 28::f 29::f 30::f 31::f 32::f 33::f 34::f 35::f 36::f 37::f 38::f 39::f 40::f 41::f 42::f 43::f 44::f 45::f 46::f 47::f 48::f 49::f 50::f 51::f 52::f 53::f 54::f 55::f 56::f 57::f 58::f 59::f 60::f 61::f 62::f 63::f 64::f 65::f 66::f 67::f 68::f 69::f 70::f 71::f 72::f 73::f 74::f 75::f 76 :: []).toArray,[]⟩:=by
 obtain⟨Rx,l,h1,h2,rfl,hl,h3,h11⟩:=h;refine⟨Rx,fun i=>l.getD i undef,h1,h2,?_⟩;have e:=list77 l hl;have g3:l.getD 3 undef= .pointer (some ⟨Bx,0,none⟩):=by simp[List.getD,h3]
 have g11:l.getD 11 undef= .pointer (some ⟨Rx,0,none⟩):=by simp[List.getD,h11]
 rw[←g3,←g11];exact congrArg (fun z:List Value=>(⟨z.toArray,[]⟩:Act)) e
/-- A function that holds such marks comes to its end. -/
theorem leaves_MK {F:Fence} {n:Nat} {P:Program} {fn:Func} {tmps:Array Value} {R:Ending→World→Prop} {lo:Nat} (Φ:World→Prop) (hput:∀ W D,lo≤D→W.heap[D]?=some (.deferred (some []))→Φ W→Φ (W.putObj D (.deferred none))) (hend:∀ W,Φ W→LeavesIn F n P fn tmps R [] .returning W) :
 ∀ ds w,MK lo ds w→Φ w→LeavesInM F n P fn tmps R ds .returning w
 | [],w,_,h=>hend w h
 | d::ds,w,⟨D,h1,h2,h3,h4,h5⟩,h=>⟨by simp,.inl ⟨D,_,h1,run_takeDeferred h3,leaves_MK Φ hput hend ds _ (MK.put _ ds h5 h4) (hput w D h2 h3 h)⟩⟩
theorem appendMacro_some (v0:Value) (N0:Nat) (xs0:List Int) (m:Mac) (B0:Nat) (w:World) (own:w.ownsRow B0 133 2 v0 N0 (xs0.map (Value.int .i64))) (hB:B0≤w.heap.size) (hN:N0≤100000) (hm:m.ok) (hv:m.valid) (h0:m.kind≠0) :
 Calls Tryz.prog 53 #[v0,.agg (ic m.zs),.bool false] w fun e w'=>∃ a c,e= .returned (.slice a (N0+macN m) c)∧w'.ownsRow B0 133 2 (.slice a (N0+macN m) c) (N0+macN m) ((xs0++macL m).map (Value.int .i64))∧FR B0 133 w w':=by
 have Hl:=Lib.hid (Mac.zs_len hm);have Hm:=Lib.hid hm;have HV:=Lib.hid hv;have HK0:=Lib.hid h0;obtain⟨a0,c0,rfl⟩:=owns_form own;obtain⟨Bx,hBx⟩:∃ Bx,Bx=w.heap.size:=⟨_,rfl⟩;have E1:=(Ext.alloc w (.cells #[.slice a0 N0 c0] 40)).trans (Ext.alloc _ (.cells (ic m.zs) 32));have b0:BB ((w.alloc (.cells #[.slice a0 N0 c0] 40)).alloc (.cells (ic m.zs) 32)) Bx (.slice a0 N0 c0):=by rw[hBx];exact(Ext.alloc _ _).blk (blk_new w _)
 have I1:=IB.new (w.alloc (.cells #[.slice a0 N0 c0] 40)) 32 m.zs;rw[World.size_alloc,←hBx]at I1;have o0:=owns_ext own E1;have hB0:B0≤((w.alloc (.cells #[.slice a0 N0 c0] 40)).alloc (.cells (ic m.zs) 32)).heap.size:=by simp;omega
 have hs1:((w.alloc (.cells #[.slice a0 N0 c0] 40)).alloc (.cells (ic m.zs) 32)).heap.size=Bx+2:=by simp[hBx]
 have hBX:B0≤Bx:=by omega
 have hk:=I1.cell (i:=0) (by rw[Mac.zs_len hm];omega);rw[Mac.zs_kind]at hk;have HBx:=Lib.hid hBx;have HS1:=Lib.hid hs1;have hk0:(m.kind == 0)=false:=by simpa using h0
 obtain⟨hkr1,hkr2⟩:=hv.1;obtain⟨xa,ya,ex,lx,ey,ly⟩:=mv_rng hv;have HX:=Lib.hid ex;have HY:=Lib.hid ey;obtain⟨q1,q2,q3,q4⟩:=hv.2.1;clear own hm hv h0 ex ey hs1;refine calls_of_marks 4 Tryz.func53 rfl ?_;simp only[Tryz.ntmps53,List.size_toArray,List.length_cons,List.length_nil,Nat.reduceAdd,Nat.reduceSub,Array.replicate_succ,Array.replicate_zero,List.push_toArray,List.append_toArray,List.nil_append,List.cons_append];go_upto_region 1 with fail
 try simp only[World.size_alloc]
 rw[←hBx];generalize (w.alloc (.cells #[.slice a0 N0 c0] 40)).alloc (.cells (ic m.zs) 32)=w1 at *;clear hBx;obtain⟨k0,k1⟩:=b0.cell;go_wp2_with (at_builtin;refine wpList_appk _ rfl (o0.alloc _) (by simp;omega) _ _ 40 rfl (.agg #[.int .i64 0,.int .i64 0]) 16 Tryz.underlying40 info_Bin rfl (by decide) rfl ⟨w1.heap.size,0,none⟩ 2 2 [.int .i64 0,.int .i64 1,.int .i64 1,.int .i64 _] rfl rfl ((Sl_new w1 [.int .i64 0,.int .i64 1,.int .i64 1,.int .i64 _] 133).cellsOf _ (by simp)) (by intro u hu;simp at hu;rcases hu with rfl|rfl|rfl|rfl <;> rfl) (by omega) (by omega) ?_;intro v2 w2 own2 gr2 _;refine Hid.out ?_)
 refine Lib.hid ?_;obtain⟨a2,c2,rfl⟩:=owns_form own2;have FA:=(FR.of_ext (B:=B0) (T:=133) (Ext.alloc w1 (.cells #[.int .i64 0,.int .i64 1,.int .i64 1,.int .i64 _] 133)) hB0).trans (FR.of_row (o0.alloc _) gr2 (by simp;omega));have b2:=b0.fr FA;have o2:=ownc own2 (show _=(xs0 ++ [0,1,1,m.kind-1]).map (Value.int .i64) by simp);clear k0 k1;obtain⟨k0,k1⟩:=b2.cell;go_upto_region 5 with fail
 have FB:=((FX.refl B0 133 Bx w1).fr FA).set hBX (.slice a2 (N0+2) c2);have b3:=b2.set (.slice a2 (N0+2) c2);have o3:=own_setBB (u := .slice a2 (N0+2) c2) o2 b2;have hB3:B0≤(w2.setCell ⟨Bx,0,none⟩ (.slice a2 (N0+2) c2)).heap.size:=Nat.le_trans hB0 FB.size;generalize w2.setCell ⟨Bx,0,none⟩ (.slice a2 (N0+2) c2)=w3 at *;clear own2 gr2 FA b2 o2 k0 k1 b0 o0;obtain⟨F0,b0,o0⟩:=And.intro FB (And.intro b3 o3);clear FB b3 o3 hB0 hk;have hB0:=hB3;clear hB3;obtain⟨N,hN0⟩:∃ N,N=N0+2:=⟨_,rfl⟩;obtain⟨L,hxs⟩:∃ L,L=xs0 ++ [0,1,1,m.kind-1]:=⟨_,rfl⟩;rw[←hN0]at o0 b0⊢;rw[←hxs]at o0;have HN0:=Lib.hid hN0;have HXS:=Lib.hid hxs;have hNb:N≤100002:=by omega
 clear hN0 hxs;have hk3:=(F0.ib I1 (by decide) (by omega)).cell (i:=0) (by rw[Hl.out];omega);rw[Mac.zs_kind]at hk3;go_upto_if 31 with fail
 clear hk3;go_cut []from 31 (fun wx=>∃ a c,FX B0 133 Bx w1 wx∧BB wx Bx (.slice a (N0+miN m) c)∧wx.ownsRow B0 133 2 (.slice a (N0+miN m) c) (N0+miN m) ((xs0++miL m).map (Value.int .i64))∧B0≤wx.heap.size)
 case first =>
  by_cases h1:m.kind=1
  ·have hke:(m.kind == 1)=true:=by simpa using h1
   have HMN:=Lib.hid (show miN m=2+(numN xa+numN ya) by rw[miN,if_pos h1,HX.out,HY.out];simp);have HML:=Lib.hid (show miL m = [0,1,1,m.kind-1]++(numL xa 2++numL ya 2) by rw[miL,if_pos h1,mvL,HX.out,HY.out];simp[hdL]);clear h1;rw[hke];clear hke;go_upto_region 6 with fail
   refine wp_region_invL (by kernel_rfl) [(32,0),(33,1),(34,2),(35,3),(36,4),(37,5)] [[],[],[1],[1,2],[1,2,3],[0,1,2,3,4],[0,1,2,3,4,5]] (fun i own ys wx=>match i with|0=>own= .slice a2 N c2|1=>own= .pointer (some ⟨Bx+1,1,none⟩)|2=>own= .pointer (some ⟨Bx+1,1,none⟩)|3=>own= .int .i64 m.x|4=>own= .int .i64 (xa:Nat)|5=>∃(a3:Option Addr) (c3:Nat),own= .slice a3 (N+numN xa) c3∧wx.ownsRow B0 133 2 (.slice a3 (N+numN xa) c3) (N+numN xa) ((L++numL xa 2).map (Value.int .i64))|6=>∃(a3:Option Addr) (c3:Nat),BB wx Bx (.slice a3 (N+numN xa) c3)∧wx.ownsRow B0 133 2 (.slice a3 (N+numN xa) c3) (N+numN xa) ((L++numL xa 2).map (Value.int .i64))|_=>True) (fun Lx wx=>FX B0 133 Bx w1 wx∧(∃ z,BB wx Bx z∧(Lx 6=false→z= .slice a2 N c2))∧(Lx 5=false→wx.ownsRow B0 133 2 (.slice a2 N c2) N (L.map (Value.int .i64)))∧B0≤wx.heap.size) (by kernel_rfl) (by kernel_rfl) (by kernel_rfl) ?g0_r1 ?gop_r1 ?gend_r1
   case g0_r1=>exact⟨F0.ext (Ext.drewN _ 1) hB0,⟨_,b0,fun _=>rfl⟩,fun _=>o0,hB0⟩
   case gop_r1 =>
    refine⟨?o0,?o1,?o2,?o3,?o4,?o5,?o6,trivial⟩ <;> (intro Lx xs wx hG hl ha hb hD hI Qo Kx hK hQo;simp only[patchS,Nat.reduceAdd,Nat.reduceEqDiff,↓reduceIte]at hQo⊢)
    case o0 =>
     have l6:Lx 6=false:=hb 6 rfl;clear hl ha hb hD hI;obtain⟨z,g1,g2⟩:=hG.2.1;obtain rfl:=g2 l6;obtain⟨k0,k1⟩:=g1.cell;go_wp2;exact hK.out _ _ ⟨rfl,hG,kkp⟩
    case o1 =>
     clear hl ha hb hD hI;go_wp2;exact hK.out _ _ ⟨rfl,hG,kkp⟩
    case o2 =>
     clear hl ha hb;rw[ddq (hD 1 rfl)]at hQo⊢;clear hD hI;go_wp2;exact hK.out _ _ ⟨rfl,hG,kkp⟩
    case o3 =>
     clear hl ha hb;rw[ddq (hD 2 rfl)]at hQo⊢;clear hD hI;have hcx:=(hG.1.ib I1 (by decide) (by omega)).cell (i:=1) (by rw[Hl.out];omega);rw[Mac.zs_x]at hcx;go_wp2;exact hK.out _ _ ⟨rfl,hG,kkp⟩
    case o4 =>
     clear hl ha hb;rw[ddq (hD 3 rfl)]at hQo⊢;clear hD hI;go_wp2_with fail
     refine(impl_SignedIndex_in m.x _ (by omega) (by omega)).mono ?_
     rintro e wz ⟨rfl,rfl⟩
     rw[HX.out];go_wp2;exact hK.out _ _ ⟨rfl,hG,kkp⟩
    case o5 =>
     have l5:Lx 5=false:=hl;clear hl ha hb;rw[ddq (hD 0 rfl),ddq (hD 4 rfl)]at hQo⊢;clear hD hI;go_wp2_with fail
     refine(appendNumber_at _ N L xa 2 B0 2 rfl wx (hG.2.2.1 l5) hG.2.2.2 (by omega) (by omega) (by omega)).mono ?_
     rintro e wz ⟨az,cz,rfl,oz,fz⟩
     go_wp2;have hst:∀(wy:World),True→Stbn 7 5 [[],[],[1],[1,2],[1,2,3],[0,1,2,3,4],[0,1,2,3,4,5]] (fun i own ys wx=>match i with|0=>own= .slice a2 N c2|1=>own= .pointer (some ⟨Bx+1,1,none⟩)|2=>own= .pointer (some ⟨Bx+1,1,none⟩)|3=>own= .int .i64 m.x|4=>own= .int .i64 (xa:Nat)|5=>∃(a3:Option Addr) (c3:Nat),own= .slice a3 (N+numN xa) c3∧wx.ownsRow B0 133 2 (.slice a3 (N+numN xa) c3) (N+numN xa) ((L++numL xa 2).map (Value.int .i64))|6=>∃(a3:Option Addr) (c3:Nat),BB wx Bx (.slice a3 (N+numN xa) c3)∧wx.ownsRow B0 133 2 (.slice a3 (N+numN xa) c3) (N+numN xa) ((L++numL xa 2).map (Value.int .i64))|_=>True) wx wy:=by
      intro wy hy ii hii hne hc own ys h
      match ii,h with
      | 0,h|1,h|2,h|3,h|4,h=>exact h
      | 5,h=>exact absurd rfl hne
      | 6,h=>exact absurd hc (by decide)
      | _+7,_=>trivial
     obtain⟨z,g1,g2⟩:=hG.2.1;exact hK.out _ _ ⟨⟨az,cz,rfl,oz⟩,⟨hG.1.fr fz,⟨z,g1.fr fz,g2⟩,(fun x=>Bool.noConfusion x),Nat.le_trans hG.2.2.2 fz.size⟩,hst _ trivial⟩
    case o6 =>
     clear hl ha hb;have d5:∃(a3:Option Addr) (c3:Nat),(xs 5) = .slice a3 (N+numN xa) c3∧wx.ownsRow B0 133 2 (.slice a3 (N+numN xa) c3) (N+numN xa) ((L++numL xa 2).map (Value.int .i64)):=hD 5 rfl;clear hD hI;generalize xs 5=y5 at *;obtain⟨a3,c3,rfl,o3⟩:=d5;obtain⟨z,g1,g2⟩:=hG.2.1;obtain⟨k0,k1⟩:=g1.cell;go_wp2;have hst:∀(wy:World),(∀(v:Value) (n:Nat) (us:List Value),wx.ownsRow B0 133 2 v n us→wy.ownsRow B0 133 2 v n us)→Stbn 7 6 [[],[],[1],[1,2],[1,2,3],[0,1,2,3,4],[0,1,2,3,4,5]] (fun i own ys wx=>match i with|0=>own= .slice a2 N c2|1=>own= .pointer (some ⟨Bx+1,1,none⟩)|2=>own= .pointer (some ⟨Bx+1,1,none⟩)|3=>own= .int .i64 m.x|4=>own= .int .i64 (xa:Nat)|5=>∃(a3:Option Addr) (c3:Nat),own= .slice a3 (N+numN xa) c3∧wx.ownsRow B0 133 2 (.slice a3 (N+numN xa) c3) (N+numN xa) ((L++numL xa 2).map (Value.int .i64))|6=>∃(a3:Option Addr) (c3:Nat),BB wx Bx (.slice a3 (N+numN xa) c3)∧wx.ownsRow B0 133 2 (.slice a3 (N+numN xa) c3) (N+numN xa) ((L++numL xa 2).map (Value.int .i64))|_=>True) wx wy:=by
      intro wy hy ii hii hne hc own ys h
      match ii,h with
      | 0,h|1,h|2,h|3,h|4,h=>exact h
      | 5,h=>obtain⟨a9,c9,h1,h2⟩:=h;exact⟨a9,c9,h1,hy _ _ _ h2⟩
      | 6,h=>exact absurd rfl hne
      | _+7,_=>trivial
     exact hQo undef _ (hK.out _ _ ⟨⟨a3,c3,g1.set _,own_setBB o3 g1⟩,⟨hG.1.set hBX _,⟨_,g1.set _,(fun x=>Bool.noConfusion x)⟩,(fun x=>own_setBB (hG.2.2.1 x) g1),by simpa using hG.2.2.2⟩,hst _ (fun _ _ _ h=>own_setBB h g1)⟩)
   intro xs wx hV hG0;obtain⟨Lx,hL,hG⟩:=hG0;have l5:Lx 5=true:=hL 5 (by decide);have l6:Lx 6=true:=hL 6 (by decide);clear hL;have d6:∃(a3:Option Addr) (c3:Nat),BB wx Bx (.slice a3 (N+numN xa) c3)∧wx.ownsRow B0 133 2 (.slice a3 (N+numN xa) c3) (N+numN xa) ((L++numL xa 2).map (Value.int .i64)):=hV 6 (by decide);clear hV;simp only[patchS,Nat.reduceAdd,Nat.reduceEqDiff,↓reduceIte];generalize xs 0=y0,xs 1=y1,xs 2=y2,xs 3=y3,xs 4=y4,xs 5=y5,xs 6=y6 at *
   replace hG:FX B0 133 Bx w1 wx∧(∃ z,BB wx Bx z∧(Lx 6=false→z= .slice a2 N c2))∧(Lx 5=false→wx.ownsRow B0 133 2 (.slice a2 N c2) N (L.map (Value.int .i64)))∧B0≤wx.heap.size:=hG
   obtain⟨a4,c4,b4,o4⟩:=d6;obtain⟨N5,hN5⟩:∃ q,q=N+numN xa:=⟨_,rfl⟩;obtain⟨L5,hL5⟩:∃ q,q=L++numL xa 2:=⟨_,rfl⟩;rw[←hN5]at b4 o4;rw[←hL5]at o4;try rw[←hN5]
   have F5:=hG.1;have hB5:=hG.2.2.2;have HN5:=Lib.hid hN5;have HL5:=Lib.hid hL5;have hNb5:N5≤101000:=by have:=numN_le (show xa<32768 by omega);omega
   have b5:=b4;have o5:=o4;clear hN5 hL5 hG F0 b0 o0 hB0 b4 o4;generalize wx=w4 at *;go_upto_region 7 with fail
   refine wp_region_invL (by kernel_rfl) [(38,0),(39,1),(40,2),(41,3),(42,4),(43,5)] [[],[],[1],[1,2],[1,2,3],[0,1,2,3,4],[0,1,2,3,4,5]] (fun i own ys wx=>match i with|0=>own= .slice a4 N5 c4|1=>own= .pointer (some ⟨Bx+1,1,none⟩)|2=>own= .pointer (some ⟨Bx+1,2,none⟩)|3=>own= .int .i64 m.y|4=>own= .int .i64 (ya:Nat)|5=>∃(a3:Option Addr) (c3:Nat),own= .slice a3 (N5+numN ya) c3∧wx.ownsRow B0 133 2 (.slice a3 (N5+numN ya) c3) (N5+numN ya) ((L5++numL ya 2).map (Value.int .i64))|6=>∃(a3:Option Addr) (c3:Nat),BB wx Bx (.slice a3 (N5+numN ya) c3)∧wx.ownsRow B0 133 2 (.slice a3 (N5+numN ya) c3) (N5+numN ya) ((L5++numL ya 2).map (Value.int .i64))|_=>True) (fun Lx wx=>FX B0 133 Bx w1 wx∧(∃ z,BB wx Bx z∧(Lx 6=false→z= .slice a4 N5 c4))∧(Lx 5=false→wx.ownsRow B0 133 2 (.slice a4 N5 c4) N5 (L5.map (Value.int .i64)))∧B0≤wx.heap.size) (by kernel_rfl) (by kernel_rfl) (by kernel_rfl) ?g0_r2 ?gop_r2 ?gend_r2
   case g0_r2=>exact⟨F5.ext (Ext.drewN _ 1) hB5,⟨_,b5,fun _=>rfl⟩,fun _=>o5,hB5⟩
   case gop_r2 =>
    refine⟨?o0,?o1,?o2,?o3,?o4,?o5,?o6,trivial⟩ <;> (intro Lx xs wx hG hl ha hb hD hI Qo Kx hK hQo;simp only[patchS,Nat.reduceAdd,Nat.reduceEqDiff,↓reduceIte]at hQo⊢)
    case o0 =>
     have l6:Lx 6=false:=hb 6 rfl;clear hl ha hb hD hI;obtain⟨z,g1,g2⟩:=hG.2.1;obtain rfl:=g2 l6;obtain⟨k0,k1⟩:=g1.cell;go_wp2;exact hK.out _ _ ⟨rfl,hG,kkp⟩
    case o1 =>
     clear hl ha hb hD hI;go_wp2;exact hK.out _ _ ⟨rfl,hG,kkp⟩
    case o2 =>
     clear hl ha hb;rw[ddq (hD 1 rfl)]at hQo⊢;clear hD hI;go_wp2;exact hK.out _ _ ⟨rfl,hG,kkp⟩
    case o3 =>
     clear hl ha hb;rw[ddq (hD 2 rfl)]at hQo⊢;clear hD hI;have hcx:=(hG.1.ib I1 (by decide) (by omega)).cell (i:=2) (by rw[Hl.out];omega);rw[Mac.zs_y]at hcx;go_wp2;exact hK.out _ _ ⟨rfl,hG,kkp⟩
    case o4 =>
     clear hl ha hb;rw[ddq (hD 3 rfl)]at hQo⊢;clear hD hI;go_wp2_with fail
     refine(impl_SignedIndex_in m.y _ (by omega) (by omega)).mono ?_
     rintro e wz ⟨rfl,rfl⟩
     rw[HY.out];go_wp2;exact hK.out _ _ ⟨rfl,hG,kkp⟩
    case o5 =>
     have l5:Lx 5=false:=hl;clear hl ha hb;rw[ddq (hD 0 rfl),ddq (hD 4 rfl)]at hQo⊢;clear hD hI;go_wp2_with fail
     refine(appendNumber_at _ N5 L5 ya 2 B0 2 rfl wx (hG.2.2.1 l5) hG.2.2.2 (by omega) (by omega) (by omega)).mono ?_
     rintro e wz ⟨az,cz,rfl,oz,fz⟩
     go_wp2;have hst:∀(wy:World),True→Stbn 7 5 [[],[],[1],[1,2],[1,2,3],[0,1,2,3,4],[0,1,2,3,4,5]] (fun i own ys wx=>match i with|0=>own= .slice a4 N5 c4|1=>own= .pointer (some ⟨Bx+1,1,none⟩)|2=>own= .pointer (some ⟨Bx+1,2,none⟩)|3=>own= .int .i64 m.y|4=>own= .int .i64 (ya:Nat)|5=>∃(a3:Option Addr) (c3:Nat),own= .slice a3 (N5+numN ya) c3∧wx.ownsRow B0 133 2 (.slice a3 (N5+numN ya) c3) (N5+numN ya) ((L5++numL ya 2).map (Value.int .i64))|6=>∃(a3:Option Addr) (c3:Nat),BB wx Bx (.slice a3 (N5+numN ya) c3)∧wx.ownsRow B0 133 2 (.slice a3 (N5+numN ya) c3) (N5+numN ya) ((L5++numL ya 2).map (Value.int .i64))|_=>True) wx wy:=by
      intro wy hy ii hii hne hc own ys h
      match ii,h with
      | 0,h|1,h|2,h|3,h|4,h=>exact h
      | 5,h=>exact absurd rfl hne
      | 6,h=>exact absurd hc (by decide)
      | _+7,_=>trivial
     obtain⟨z,g1,g2⟩:=hG.2.1;exact hK.out _ _ ⟨⟨az,cz,rfl,oz⟩,⟨hG.1.fr fz,⟨z,g1.fr fz,g2⟩,(fun x=>Bool.noConfusion x),Nat.le_trans hG.2.2.2 fz.size⟩,hst _ trivial⟩
    case o6 =>
     clear hl ha hb;have d5:∃(a3:Option Addr) (c3:Nat),(xs 5) = .slice a3 (N5+numN ya) c3∧wx.ownsRow B0 133 2 (.slice a3 (N5+numN ya) c3) (N5+numN ya) ((L5++numL ya 2).map (Value.int .i64)):=hD 5 rfl;clear hD hI;generalize xs 5=y5 at *;obtain⟨a3,c3,rfl,o3⟩:=d5;obtain⟨z,g1,g2⟩:=hG.2.1;obtain⟨k0,k1⟩:=g1.cell;go_wp2;have hst:∀(wy:World),(∀(v:Value) (n:Nat) (us:List Value),wx.ownsRow B0 133 2 v n us→wy.ownsRow B0 133 2 v n us)→Stbn 7 6 [[],[],[1],[1,2],[1,2,3],[0,1,2,3,4],[0,1,2,3,4,5]] (fun i own ys wx=>match i with|0=>own= .slice a4 N5 c4|1=>own= .pointer (some ⟨Bx+1,1,none⟩)|2=>own= .pointer (some ⟨Bx+1,2,none⟩)|3=>own= .int .i64 m.y|4=>own= .int .i64 (ya:Nat)|5=>∃(a3:Option Addr) (c3:Nat),own= .slice a3 (N5+numN ya) c3∧wx.ownsRow B0 133 2 (.slice a3 (N5+numN ya) c3) (N5+numN ya) ((L5++numL ya 2).map (Value.int .i64))|6=>∃(a3:Option Addr) (c3:Nat),BB wx Bx (.slice a3 (N5+numN ya) c3)∧wx.ownsRow B0 133 2 (.slice a3 (N5+numN ya) c3) (N5+numN ya) ((L5++numL ya 2).map (Value.int .i64))|_=>True) wx wy:=by
      intro wy hy ii hii hne hc own ys h
      match ii,h with
      | 0,h|1,h|2,h|3,h|4,h=>exact h
      | 5,h=>obtain⟨a9,c9,h1,h2⟩:=h;exact⟨a9,c9,h1,hy _ _ _ h2⟩
      | 6,h=>exact absurd rfl hne
      | _+7,_=>trivial
     exact hQo undef _ (hK.out _ _ ⟨⟨a3,c3,g1.set _,own_setBB o3 g1⟩,⟨hG.1.set hBX _,⟨_,g1.set _,(fun x=>Bool.noConfusion x)⟩,(fun x=>own_setBB (hG.2.2.1 x) g1),by simpa using hG.2.2.2⟩,hst _ (fun _ _ _ h=>own_setBB h g1)⟩)
   intro xs wx hV hG0;obtain⟨Lx,hL,hG⟩:=hG0;have l5:Lx 5=true:=hL 5 (by decide);have l6:Lx 6=true:=hL 6 (by decide);clear hL;have d6:∃(a3:Option Addr) (c3:Nat),BB wx Bx (.slice a3 (N5+numN ya) c3)∧wx.ownsRow B0 133 2 (.slice a3 (N5+numN ya) c3) (N5+numN ya) ((L5++numL ya 2).map (Value.int .i64)):=hV 6 (by decide);clear hV;simp only[patchS,Nat.reduceAdd,Nat.reduceEqDiff,↓reduceIte];generalize xs 0=y0,xs 1=y1,xs 2=y2,xs 3=y3,xs 4=y4,xs 5=y5,xs 6=y6 at *
   replace hG:FX B0 133 Bx w1 wx∧(∃ z,BB wx Bx z∧(Lx 6=false→z= .slice a4 N5 c4))∧(Lx 5=false→wx.ownsRow B0 133 2 (.slice a4 N5 c4) N5 (L5.map (Value.int .i64)))∧B0≤wx.heap.size:=hG
   obtain⟨a6,c6,b4,o4⟩:=d6;obtain⟨N6,hN6⟩:∃ q,q=N5+numN ya:=⟨_,rfl⟩;obtain⟨L6,hL6⟩:∃ q,q=L5++numL ya 2:=⟨_,rfl⟩;rw[←hN6]at b4 o4;rw[←hL6]at o4;try rw[←hN6]
   have F6:=hG.1;have hB6:=hG.2.2.2;have HN6:=Lib.hid hN6;have HL6:=Lib.hid hL6;have hNb6:N6≤102000:=by have:=numN_le (show ya<32768 by omega);omega
   have b6:=b4;have o6:=o4;clear hN6 hL6 hG F5 b5 o5 hB5 b4 o4;generalize wx=w5 at *;go_wp2;go_meet
   case rel=>exact⟨a6,c6,F6,by rw[HMN.out,show N0+(2+(numN xa+numN ya))=N6 by rw[HN6.out,HN5.out,HN0.out];omega];exact b6,by rw[HMN.out,HML.out,show N0+(2+(numN xa+numN ya))=N6 by rw[HN6.out,HN5.out,HN0.out];omega];exact ownc o6 (by rw[HL6.out,HL5.out,HXS.out];simp),hB6⟩
  ·have hke:(m.kind == 1)=false:=by simpa using h1
   have h2:m.kind=2:=by have:=HK0.out;omega
   have HK2:=Lib.hid h2;have HMN:=Lib.hid (show miN m=2+mdN m 4 by rw[miN,if_neg h1]);have HML:=Lib.hid (show miL m = [0,1,1,m.kind-1]++mdL m 4 by rw[miL,if_neg h1];rfl);have I3:=F0.ib I1 (by decide) (by omega);rw[hke];clear h1 h2 hke;go_wp2_with (refine wpList_iload 28 _ rfl rfl I3 3 4 rfl _ Tryz.underlying28 rfl size_A4 (by rw[Hl.out];omega) _ (by rw[Mac.zs_modes Hm.out]) ?_)
   go_loopw [46] (fun y wr=>∃ k:Nat,k≤4∧y= .int .i64 k∧FX B0 133 Bx w1 wr∧B0≤wr.heap.size∧∃ a c,BB wr Bx (.slice a (N+mdN m k) c)∧wr.ownsRow B0 133 2 (.slice a (N+mdN m k) c) (N+mdN m k) ((L++mdL m k).map (Value.int .i64))) (fun y _=>4-(intOf y).toNat)
   case atStart=>exact⟨0,by omega,rfl,F0,hB0,_,_,b0,by simpa [mdL,mdN] using o0⟩
   case round =>
    obtain⟨k,hk,rfl,F4,hB4,a4,c4,b4,o4⟩:=hrel;clear F0 b0 o0 hB0
    by_cases hlt:k<4
    ·have hd:decide ((k:Int)<4)=true:=by simp;omega
     obtain⟨z,ez,lz⟩:=md_rng HV.out HK2.out hlt;have HZ:=Lib.hid ez;have hmn:=mdN_le HV.out HK2.out k (by omega);have HLs:=Lib.hid (show mdL m (k+1)=mdL m k++numL z 9 by rw[mdL,ez];simp);have HC:=Lib.hid (show N+mdN m k+numN z=N+mdN m (k+1) by rw[mdN,ez];simp;omega);obtain⟨k0,k1⟩:=b4.cell;clear ez;go_wp2_with (refine wpList_iindex 28 _ _ rfl rfl m.modes rfl k 4 _ rfl rfl 3 Tryz.underlying28 Tryz.underlying3 size_int hlt Hm.out.modes ?_;rw[HZ.out])
     refine(appendNumber_at _ (N+mdN m k) (L++mdL m k) z 9 B0 9 rfl _ o4 hB4 (by omega) (by omega) (by omega)).mono ?_
     rintro e w5 ⟨a5,c5,rfl,o5,f5⟩
     rw[HC.out]at o5⊢;have b5:=b4.fr f5;clear k0 k1;obtain⟨k0,k1⟩:=b5.cell;have F6:=(F4.fr f5).set hBX (.slice a5 (N+mdN m (k+1)) c5);have b6:=b5.set (.slice a5 (N+mdN m (k+1)) c5);have o6:=own_setBB (u := .slice a5 (N+mdN m (k+1)) c5) o5 b5;have hB6:B0≤(w5.setCell ⟨Bx,0,none⟩ (.slice a5 (N+mdN m (k+1)) c5)).heap.size:=by have:=Nat.le_trans hB4 f5.size;simpa using this
     clear b5 o5 F4 f5 b4 o4;go_wp2;go_roundw
     case rel=>exact⟨k+1,by omega,by go_num,F6,hB6,_,_,b6,ownc o6 (by rw[HLs.out];simp)⟩
     case measure=>simp[intOf] <;> omega
    ·have HKR:=Lib.hid (show k=4 by omega);have hd:decide ((k:Int)<4)=false:=by simp;omega
     go_wp2;go_meet
     case rel=>exact⟨a4,c4,F4,by rw[HMN.out,show N0+(2+mdN m 4)=N+mdN m k by rw[HKR.out,HN0.out];omega];exact b4,by rw[HMN.out,HML.out,show N0+(2+mdN m 4)=N+mdN m k by rw[HKR.out,HN0.out];omega];exact ownc o4 (by rw[HKR.out,HXS.out];simp),hB4⟩
 case rest =>
  obtain⟨a6,c6,F6,b6,o6,hB6⟩:=hcut;clear hk0 q1 q2 q3 q4 lx ly HX HY;have HB1:=Lib.hid (show B0≤w1.heap.size by have:=HS1.out;omega);have HBw:=Lib.hid (show Bx<w1.heap.size by have:=HS1.out;omega);have I5:=F6.ib I1 (by decide) (by omega);go_wp2_with (refine wpList_iload 30 _ rfl rfl I5 7 64 rfl _ Tryz.underlying30 rfl size_A16A4 (by rw[Hl.out];omega) _ (by rw[Mac.zs_lv Hm.out]) ?_)
  refine wp_loop (LPI m N0 xs0 B0 Bx w1) (fun a _=>4-(intOf (a.tmps.getD 55 undef)).toNat) ?lp0 ?lpr
  case lp0=>exact⟨0,[],_,rfl,rfl,rfl,rfl,rfl,rfl,by omega,trivial,F6,hB6,a6,c6,b6,o6⟩
  case lpr =>
   intro a wr hI;obtain⟨k,ds,f,rfl,hk,hM,F7,hB7,a7,c7,b7,o7⟩:=hI.elim;clear hI F6 b6 o6 hB6 I5
   by_cases hlt:k<4
   ·have hd:decide ((k:Int)<4)=true:=by simp;omega
    obtain⟨zs,hzs⟩:∃ zs,zs=sub m.lv (k*16) 16:=⟨_,rfl⟩;obtain⟨l1,l2⟩:=lv_bd Hm.out HV.out hlt;rw[←hzs]at l1 l2;have Hz:=Lib.hid hzs;have Hzl:=Lib.hid l1;have Hzb:=Lib.hid l2;have hbc:=blkC_le l1 l2;have hln:=lvNn_le Hm.out HV.out HK0.out k (by omega);have HLs:=Lib.hid (show lvBn m (k+1)=lvBn m k++blkB zs by rw[hzs];rfl);have HC:=Lib.hid (show lvNn m (k+1)=lvNn m k+blkC zs by rw[hzs];rfl);have hR:=runsL_len zs;clear hzs l1 l2;obtain⟨Nk,hNk⟩:∃ q,q=N0+lvNn m k:=⟨_,rfl⟩;obtain⟨Lk,hLk⟩:∃ q,q=xs0++lvBn m k:=⟨_,rfl⟩;rw[←hNk]at b7 o7;rw[←hLk]at o7;have HNk:=Lib.hid hNk;have HLk:=Lib.hid hLk;have hNkb:Nk≤105000:=by omega
    clear hNk hLk;obtain⟨Zb,hZb⟩:∃ q,q=wr.heap.size:=⟨_,rfl⟩;have p0:=IB.new wr 29 (zl 16);go_upto_region 16 with(first|(refine wpList_iindexa _ _ _ rfl rfl m.lv rfl k 4 16 _ rfl rfl _ _ Tryz.underlying30 Tryz.underlying29 rfl size_A16s hlt ?_;rw[←Hz.out])|(refine wpList_iallocz 29 rfl rfl 16 zero_A16s ?_;(try simp only[World.size_alloc]))|(refine wpList_istore 29 _ _ rfl rfl p0 0 16 rfl _ rfl zs rfl size_A16s Hzl.out (by simp[zl]) ?_;intro w8 p8 g8;refine Hid.out ?_))
    refine Lib.hid ?_;rw[spl_all (by rw[Hzl.out,zl_len])]at p8;rw[←hZb]at p8 g8⊢;have hsz7:=F7.size;have hbw:=HBw.out;have F8:FX B0 133 Bx w1 w8:=(F7.ext (Ext.alloc wr (.cells (ic (zl 16)) 29)) hB7).grown g8 (fun r e=>by cases e;omega) HB1.out;have b8:BB w8 Bx (.slice a7 Nk c7):=blk_gr ((Ext.alloc wr (.cells (ic (zl 16)) 29)).blk b7) g8 (by simp;omega);have o8:=(owns_ext o7 (Ext.alloc wr (.cells (ic (zl 16)) 29))).kept g8 (by
     cases ha:a7 with
     | none=>exact .inl rfl
     | some y=>right;have:=(o7.lt y.block (by rw[ha];rfl)).2;simp[Value.ownBlock];omega)
    have M8:=MK.keep (w':=w8) (fun i o h _=>(g8.block i (by have:=lt_of_block h;simp;omega) (fun e=>by have:=lt_of_block h;cases e;omega)).trans ((Ext.alloc wr (.cells (ic (zl 16)) 29)).blk h)) ds hM;have hB8:B0≤w8.heap.size:=Nat.le_trans HB1.out F8.size;have hZX:Zb≠Bx:=by omega
    have HZb:=Lib.hid hZb;clear p0 g8 F7 b7 o7 hM hB7 hZb;go_upto_region 16 with fail
    have hext:Stab (fun wa wb=>Ext wa wb) (fun i own ys wx=>match i with|0=>own= .slice a7 Nk c7|1=>own= .agg (ic zs)|2=>own= .int .i64 ((runsL zs).length:Nat)|3=>∃(a3:Option Addr) (c3:Nat),own= .slice a3 (Nk+numN (runsL zs).length) c3∧wx.ownsRow B0 133 2 (.slice a3 (Nk+numN (runsL zs).length) c3) (Nk+numN (runsL zs).length) ((Lk++numL (runsL zs).length 16).map (Value.int .i64))|4=>∃(a3:Option Addr) (c3:Nat),BB wx Bx (.slice a3 (Nk+numN (runsL zs).length) c3)∧wx.ownsRow B0 133 2 (.slice a3 (Nk+numN (runsL zs).length) c3) (Nk+numN (runsL zs).length) ((Lk++numL (runsL zs).length 16).map (Value.int .i64))|_=>True):=by
     intro i own ys wa wb e h
     match i,h with
     | 0,h|1,h|2,h=>exact h
     | 3,h=>obtain⟨a9,c9,h1,h2⟩:=h;exact⟨a9,c9,h1,owns_ext h2 e⟩
     | 4,h=>obtain⟨a9,c9,h1,h2⟩:=h;exact⟨a9,c9,h1.ext e,owns_ext h2 e⟩
     | _+5,_=>trivial
    have Hext:=Lib.hid hext;clear hext;refine wp_region_invL (by kernel_rfl) [(58,0),(59,1),(60,2),(61,3)] [[],[],[1],[0,1,2],[0,1,2,3]] (fun i own ys wx=>match i with|0=>own= .slice a7 Nk c7|1=>own= .agg (ic zs)|2=>own= .int .i64 ((runsL zs).length:Nat)|3=>∃(a3:Option Addr) (c3:Nat),own= .slice a3 (Nk+numN (runsL zs).length) c3∧wx.ownsRow B0 133 2 (.slice a3 (Nk+numN (runsL zs).length) c3) (Nk+numN (runsL zs).length) ((Lk++numL (runsL zs).length 16).map (Value.int .i64))|4=>∃(a3:Option Addr) (c3:Nat),BB wx Bx (.slice a3 (Nk+numN (runsL zs).length) c3)∧wx.ownsRow B0 133 2 (.slice a3 (Nk+numN (runsL zs).length) c3) (Nk+numN (runsL zs).length) ((Lk++numL (runsL zs).length 16).map (Value.int .i64))|_=>True) (fun Lx wx=>FX B0 133 Bx w8 wx∧(∃ z,BB wx Bx z∧(Lx 4=false→z= .slice a7 Nk c7))∧(Lx 3=false→wx.ownsRow B0 133 2 (.slice a7 Nk c7) Nk (Lk.map (Value.int .i64)))∧B0≤wx.heap.size) (by kernel_rfl) (by kernel_rfl) (by kernel_rfl) ?g0_r3 ?gop_r3 ?gend_r3
    case g0_r3=>exact⟨(FX.refl B0 133 Bx w8).ext (Ext.drewN _ 1) hB8,⟨_,b8,fun _=>rfl⟩,fun _=>o8,hB8⟩
    case gop_r3 =>
     refine⟨?o0,?o1,?o2,?o3,?o4,trivial⟩ <;> (intro Lx xs wx hG hl ha hb hD hI Qo Kx hK hQo;simp only[patchS,Nat.reduceAdd,Nat.reduceEqDiff,↓reduceIte]at hQo⊢)
     case o0 =>
      have l4:Lx 4=false:=hb 4 rfl;clear hl ha hb hD hI;obtain⟨z,g1,g2⟩:=hG.2.1;obtain rfl:=g2 l4;obtain⟨k0,k1⟩:=g1.cell;go_wp2;exact hK.out _ _ ⟨rfl,hG,kkp⟩
     case o1 =>
      clear hl ha hb hD hI;have zx:=hG.1.ib p8 (by decide) hZX;go_wp2_with (refine wpList_iload 29 _ rfl rfl zx 0 16 rfl _ Tryz.underlying29 rfl size_A16s (by rw[Hzl.out];omega) _ (by rw[sub_all _ _ Hzl.out]) ?_)
      exact hK.out _ _ ⟨rfl,hG,kkp⟩
     case o2 =>
      clear hl ha hb;rw[ddq (hD 1 rfl)]at hQo⊢;clear hD hI;go_wp2_with fail
      refine(NonzeroCount_any zs _ Hzl.out 4080 Hzb.out).mono ?_
      rintro e wz ⟨rfl,ez⟩
      go_wp2;obtain⟨z,g1,g2⟩:=hG.2.1;exact hK.out _ _ ⟨rfl,⟨hG.1.ext ez hG.2.2.2,⟨z,g1.ext ez,g2⟩,(fun x=>owns_ext (hG.2.2.1 x) ez),Nat.le_trans hG.2.2.2 ez.size⟩,fun i _ _ _ own ys h=>Hext.out i own ys _ _ ez h⟩
     case o3 =>
      have l3:Lx 3=false:=hl;clear hl ha hb;rw[ddq (hD 0 rfl),ddq (hD 2 rfl)]at hQo⊢;clear hD hI;go_wp2_with fail
      refine(appendNumber_at _ Nk Lk (runsL zs).length 16 B0 16 rfl wx (hG.2.2.1 l3) hG.2.2.2 (by omega) (by omega) (by omega)).mono ?_
      rintro e wz ⟨az,cz,rfl,oz,fz⟩
      go_wp2;have hst:∀(wy:World),True→Stbn 5 3 [[],[],[1],[0,1,2],[0,1,2,3]] (fun i own ys wx=>match i with|0=>own= .slice a7 Nk c7|1=>own= .agg (ic zs)|2=>own= .int .i64 ((runsL zs).length:Nat)|3=>∃(a3:Option Addr) (c3:Nat),own= .slice a3 (Nk+numN (runsL zs).length) c3∧wx.ownsRow B0 133 2 (.slice a3 (Nk+numN (runsL zs).length) c3) (Nk+numN (runsL zs).length) ((Lk++numL (runsL zs).length 16).map (Value.int .i64))|4=>∃(a3:Option Addr) (c3:Nat),BB wx Bx (.slice a3 (Nk+numN (runsL zs).length) c3)∧wx.ownsRow B0 133 2 (.slice a3 (Nk+numN (runsL zs).length) c3) (Nk+numN (runsL zs).length) ((Lk++numL (runsL zs).length 16).map (Value.int .i64))|_=>True) wx wy:=by
       intro wy hy ii hii hne hc own ys h
       match ii,h with
       | 0,h|1,h|2,h=>exact h
       | 3,h=>exact absurd rfl hne
       | 4,h=>exact absurd hc (by decide)
       | _+5,_=>trivial
      obtain⟨z,g1,g2⟩:=hG.2.1;exact hK.out _ _ ⟨⟨az,cz,rfl,oz⟩,⟨hG.1.fr fz,⟨z,g1.fr fz,g2⟩,(fun x=>Bool.noConfusion x),Nat.le_trans hG.2.2.2 fz.size⟩,hst _ trivial⟩
     case o4 =>
      clear hl ha hb;have d3:∃(a3:Option Addr) (c3:Nat),(xs 3) = .slice a3 (Nk+numN (runsL zs).length) c3∧wx.ownsRow B0 133 2 (.slice a3 (Nk+numN (runsL zs).length) c3) (Nk+numN (runsL zs).length) ((Lk++numL (runsL zs).length 16).map (Value.int .i64)):=hD 3 rfl;clear hD hI;generalize xs 3=y3 at *;obtain⟨a3,c3,rfl,o3⟩:=d3;obtain⟨z,g1,g2⟩:=hG.2.1;obtain⟨k0,k1⟩:=g1.cell;go_wp2;have hst:∀(wy:World),(∀(v:Value) (n:Nat) (us:List Value),wx.ownsRow B0 133 2 v n us→wy.ownsRow B0 133 2 v n us)→Stbn 5 4 [[],[],[1],[0,1,2],[0,1,2,3]] (fun i own ys wx=>match i with|0=>own= .slice a7 Nk c7|1=>own= .agg (ic zs)|2=>own= .int .i64 ((runsL zs).length:Nat)|3=>∃(a3:Option Addr) (c3:Nat),own= .slice a3 (Nk+numN (runsL zs).length) c3∧wx.ownsRow B0 133 2 (.slice a3 (Nk+numN (runsL zs).length) c3) (Nk+numN (runsL zs).length) ((Lk++numL (runsL zs).length 16).map (Value.int .i64))|4=>∃(a3:Option Addr) (c3:Nat),BB wx Bx (.slice a3 (Nk+numN (runsL zs).length) c3)∧wx.ownsRow B0 133 2 (.slice a3 (Nk+numN (runsL zs).length) c3) (Nk+numN (runsL zs).length) ((Lk++numL (runsL zs).length 16).map (Value.int .i64))|_=>True) wx wy:=by
       intro wy hy ii hii hne hc own ys h
       match ii,h with
       | 0,h|1,h|2,h=>exact h
       | 3,h=>obtain⟨a9,c9,h1,h2⟩:=h;exact⟨a9,c9,h1,hy _ _ _ h2⟩
       | 4,h=>exact absurd rfl hne
       | _+5,_=>trivial
      exact hQo undef _ (hK.out _ _ ⟨⟨a3,c3,g1.set _,own_setBB o3 g1⟩,⟨hG.1.set hBX _,⟨_,g1.set _,(fun x=>Bool.noConfusion x)⟩,(fun x=>own_setBB (hG.2.2.1 x) g1),by simpa using hG.2.2.2⟩,hst _ (fun _ _ _ h=>own_setBB h g1)⟩)
    clear Hext;intro xs wx hV hG0;obtain⟨Lx,hL,hG⟩:=hG0;have l3:Lx 3=true:=hL 3 (by decide);have l4:Lx 4=true:=hL 4 (by decide);clear hL;have d4:∃(a3:Option Addr) (c3:Nat),BB wx Bx (.slice a3 (Nk+numN (runsL zs).length) c3)∧wx.ownsRow B0 133 2 (.slice a3 (Nk+numN (runsL zs).length) c3) (Nk+numN (runsL zs).length) ((Lk++numL (runsL zs).length 16).map (Value.int .i64)):=hV 4 (by decide);clear hV;simp only[patchS,Nat.reduceAdd,Nat.reduceEqDiff,↓reduceIte];generalize xs 0=y0,xs 1=y1,xs 2=y2,xs 3=y3,xs 4=y4 at *
    replace hG:FX B0 133 Bx w8 wx∧(∃ z,BB wx Bx z∧(Lx 4=false→z= .slice a7 Nk c7))∧(Lx 3=false→wx.ownsRow B0 133 2 (.slice a7 Nk c7) Nk (Lk.map (Value.int .i64)))∧B0≤wx.heap.size:=hG
    obtain⟨a4,c4,b4,o4⟩:=d4;have F9:=F8.trans hG.1;have Z9:=hG.1.ib p8 (by decide) hZX;have M9:=MK.ko (hG.1.keepsN b8) ds M8;have hB9:=hG.2.2.2;obtain⟨N9,hN9⟩:∃ q,q=Nk+numN (runsL zs).length:=⟨_,rfl⟩;obtain⟨L9,hL9⟩:∃ q,q=Lk++numL (runsL zs).length 16:=⟨_,rfl⟩;rw[←hN9]at b4 o4;rw[←hL9]at o4;have HN9:=Lib.hid hN9;have HL9:=Lib.hid hL9;have hN9b:N9≤106000:=by have:=numN_le (show(runsL zs).length<32768 by omega);omega
    clear hN9 hL9 hG F8 b8 o8 hB8 p8 M8;generalize wx=w9 at *;go_wp2_with (refine wpList_iload 29 _ rfl rfl Z9 0 16 rfl _ Tryz.underlying29 rfl size_A16s (by rw[Hzl.out];omega) _ (by rw[sub_all _ _ Hzl.out]) ?_)
    refine(runsIn_any zs _).mono ?_
    rintro e w10 ⟨rfl,rfl⟩
    obtain⟨Ib,hIb⟩:∃ q,q=w9.heap.size:=⟨_,rfl⟩;have IL:=IB.new w9 29 zs;have eL:=Ext.alloc w9 (.cells (ic zs) 29);have F10:=F9.ext eL hB9;have b10:=b4.ext eL;have o10:=owns_ext o4 eL;have M10:=MK.ko (KeepsOthers.alloc w9 (.cells (ic zs) 29)) ds M9;have hsL:(w9.alloc (.cells (ic zs) 29)).heap.size=Ib+1:=by simp[hIb]
    have hsz9:=F9.size;rw[←hIb]at IL⊢;generalize w9.alloc (.cells (ic zs) 29)=wL at *;have hB10:B0≤wL.heap.size:=by omega
    have HSL:=Lib.hid hsL;have hIL:Ib<wL.heap.size:=by omega
    have hbL:Bx<wL.heap.size:=by omega
    have hbI:Bx<Ib:=by omega
    clear hsL eL F9 Z9 M9 hB9 b4 o4 hIb;go_upto_region 99 with fail
    refine(wpIn_wide (n:=4)).1 ?_;refine wpIn_rangeFunc_ownH rfl (by omega) (gf:=148) (lb := #[.pointer (some ⟨Ib,0,none⟩)]) rfl trivial (enters_of Tryz.func148 (by kernel_rfl) rfl)
     (runs_stops 3 (by omega) Ib zs 4080 Hzl.out Hzb.out wL IL) keepB.t (keepB.b hIL) (Below.refl _ _) (fun _=>rfl)
     (fun pre W=>RI B0 Bx wL Ib zs N9 L9 pre W) (fun _ _ _=>False) (RI.own hB10) (fun _ _ _ _ _ h _ _=>h) ⟨FX.refl _ _ _ _,IL,_,_,b10,by simpa [rcL,rcN] using o10⟩ (AX Bx wL) (AX.own Bx wL) ?assign ?body ?done ?stop
    case assign =>
     intro l pre x W K hI hK;simp[encR]
     gi_wp2
     have e:=Ext.alloc W (.cells #[.int .i64 x.1.1,.int .i64 x.1.2] 140);exact hK _ _ ((KeepsOthers.alloc _ _).from _) ((e.blk hI.ib).trans hI.ib.symm) (hI.ext e hB10) ⟨W.heap.size,_,hI.fx.size,blk_new _ _,rfl,rfl,rfl,rfl⟩
    case body =>
     rintro l pre x a' W hl ⟨r,hr⟩ hI hAX hlen
     obtain⟨Rx,f,hRx,bR,rfl⟩:=hAX.elim;obtain⟨fx,ib,aW,cW,bW,oW⟩:=hI;obtain⟨zz,ss,ez,lz,es,ls,v1,v2⟩:=rn_rng x;have hcount:=rcN_le pre;have HCN:=Lib.hid (show N9+rcN ((pre ++ [x]).map (·.1))=N9+rcN (pre.map (·.1))+numN zz+numN ss by rw[List.map_append,List.map_cons,List.map_nil,rcN_snoc,ez,es];simp;omega);have HCL:=Lib.hid (show L9++rcL ((pre ++ [x]).map (·.1))=L9++rcL (pre.map (·.1))++numL zz 23++numL ss 30 by rw[List.map_append,List.map_cons,List.map_nil,rcL_snoc,ez,es];simp);obtain⟨NW,hNW⟩:∃ q,q=N9+rcN (pre.map (·.1)):=⟨_,rfl⟩;obtain⟨LW,hLW⟩:∃ q,q=L9++rcL (pre.map (·.1)):=⟨_,rfl⟩;rw[←hNW]at bW oW HCN;rw[←hLW]at oW HCL;have hNWb:NW≤107000:=by omega
     obtain⟨lv,hlv⟩:∃ q,q=x.1.2:=⟨_,rfl⟩;rw[←hlv]at bR es v1 v2;rw[ez]at bR;have HE:=Lib.hid es;have hBW:B0≤W.heap.size:=Nat.le_trans hB10 fx.size;have hRX:Rx≠Bx:=by omega
     have hIX:Ib≠Bx:=by omega
     have q1:=numN_le (show zz<32768 by omega);clear hNW hLW hlv ez es hcount hAX;obtain⟨k0,k1⟩:=bW.cell;obtain⟨-,r0,r1,-⟩:=bx2 bR
     gi_wp2_with fail
     refine⟨trivial,?_⟩;refine(CallsIn.inRound _ (callsIn_wide.2 (appendNumber_at _ NW LW zz 23 B0 23 rfl _ oW hBW (by omega) (by omega) (by omega)))).mono ?_
     rintro e w5 ⟨a5,c5,rfl,o5,f5⟩
     obtain⟨NZ,hNZ⟩:∃ q,q=NW+numN zz:=⟨_,rfl⟩;obtain⟨LZ,hLZ⟩:∃ q,q=LW++numL zz 23:=⟨_,rfl⟩;rw[←hNZ]at o5 HCN⊢;rw[←hLZ]at o5 HCL;have hNZb:NZ≤108000:=by omega
     clear hNZ hLZ;have b5:=bW.fr f5;clear k0 k1 r0 r1;obtain⟨k0,k1⟩:=b5.cell;have FA:=((FX.refl B0 133 Bx W).fr f5).set hBX (.slice a5 NZ c5);have b6:=b5.set (.slice a5 NZ c5);have o6:=own_setBB (u := .slice a5 NZ c5) o5 b5;have hB6:B0≤(w5.setCell ⟨Bx,0,none⟩ (.slice a5 NZ c5)).heap.size:=Nat.le_trans hBW FA.size;have bR6:=FA.ot _ _ bR (fun cs fr e=>by cases e) hRX
     gi_wp2_with fail
     generalize w5.setCell ⟨Bx,0,none⟩ (.slice a5 NZ c5)=w6 at *;clear k0 k1 b5 o5 f5 oW;refine wpIn_region_invL (by kernel_rfl) (by kernel_rfl) [(69,0),(70,1),(71,2),(72,3),(73,4),(74,5)] [[],[],[1],[1,2],[1,2,3],[0,1,2,3,4],[0,1,2,3,4,5]] (fun i own ys wx=>match i with|0=>own= .slice a5 NZ c5|1=>own= .pointer (some ⟨Rx,1,none⟩)|2=>own= .int .i64 lv|3=>own= .int .i64 ((ss:Int)+1)|4=>own= .int .i64 (ss:Nat)|5=>∃(a3:Option Addr) (c3:Nat),own= .slice a3 (NZ+numN ss) c3∧wx.ownsRow B0 133 2 (.slice a3 (NZ+numN ss) c3) (NZ+numN ss) ((LZ++numL ss 30).map (Value.int .i64))|6=>∃(a3:Option Addr) (c3:Nat),BB wx Bx (.slice a3 (NZ+numN ss) c3)∧wx.ownsRow B0 133 2 (.slice a3 (NZ+numN ss) c3) (NZ+numN ss) ((LZ++numL ss 30).map (Value.int .i64))|_=>True) (fun Lx wx=>FX B0 133 Bx w6 wx∧(∃ z,BB wx Bx z∧(Lx 6=false→z= .slice a5 NZ c5))∧(Lx 5=false→wx.ownsRow B0 133 2 (.slice a5 NZ c5) NZ (LZ.map (Value.int .i64)))∧B0≤wx.heap.size) (by kernel_rfl) (by kernel_rfl) (by kernel_rfl) ?g0_r4 ?gop_r4 ?gend_r4
     case g0_r4=>exact⟨(FX.refl B0 133 Bx w6).ext (Ext.drewN _ 1) hB6,⟨_,b6,fun _=>rfl⟩,fun _=>o6,hB6⟩
     case gop_r4 =>
      refine⟨?o0,?o1,?o2,?o3,?o4,?o5,?o6,trivial⟩ <;> (intro Lx xs wx hG hl ha hb hD hI Qo Kx hK hQo;simp only[patchS,Nat.reduceAdd,Nat.reduceEqDiff,↓reduceIte]at hQo⊢)
      case o0 =>
       have l6:Lx 6=false:=hb 6 rfl;clear hl ha hb hD hI;obtain⟨z,g1,g2⟩:=hG.2.1;obtain rfl:=g2 l6;obtain⟨k0,k1⟩:=g1.cell;go_wp2;exact hK.out _ _ ⟨rfl,hG,kkp⟩
      case o1 =>
       clear hl ha hb hD hI;go_wp2;exact hK.out _ _ ⟨rfl,hG,kkp⟩
      case o2 =>
       clear hl ha hb;rw[ddq (hD 1 rfl)]at hQo⊢;clear hD hI;have bx:=hG.1.ot _ _ bR6 (fun cs fr e=>by cases e) hRX;obtain⟨-,r0,r1,-⟩:=bx2 bx;go_wp2;exact hK.out _ _ ⟨rfl,hG,kkp⟩
      case o3 =>
       clear hl ha hb;rw[ddq (hD 2 rfl)]at hQo⊢;clear hD hI;go_wp2_with fail
       refine(impl_SignedIndex_in lv _ (by omega) (by omega)).mono ?_
       rintro e wz ⟨rfl,rfl⟩
       rw[show Value.int .i64 (sidx lv)=Value.int .i64 ((ss:Int)+1) by rw[←HE.out];congr 1;omega];go_wp2;exact hK.out _ _ ⟨rfl,hG,kkp⟩
      case o4 =>
       clear hl ha hb;rw[ddq (hD 3 rfl)]at hQo⊢;clear hD hI;go_wp2;exact hK.out _ _ ⟨by first|rfl|(congr 1;omega),hG,fun _ _ _ _ _ _ h=>h⟩
      case o5 =>
       have l5:Lx 5=false:=hl;clear hl ha hb;rw[ddq (hD 0 rfl),ddq (hD 4 rfl)]at hQo⊢;clear hD hI;go_wp2_with fail
       refine(appendNumber_at _ NZ LZ ss 30 B0 30 rfl wx (hG.2.2.1 l5) hG.2.2.2 (by omega) (by omega) (by omega)).mono ?_
       rintro e wz ⟨az,cz,rfl,oz,fz⟩
       go_wp2;have hst:∀(wy:World),True→Stbn 7 5 [[],[],[1],[1,2],[1,2,3],[0,1,2,3,4],[0,1,2,3,4,5]] (fun i own ys wx=>match i with|0=>own= .slice a5 NZ c5|1=>own= .pointer (some ⟨Rx,1,none⟩)|2=>own= .int .i64 lv|3=>own= .int .i64 ((ss:Int)+1)|4=>own= .int .i64 (ss:Nat)|5=>∃(a3:Option Addr) (c3:Nat),own= .slice a3 (NZ+numN ss) c3∧wx.ownsRow B0 133 2 (.slice a3 (NZ+numN ss) c3) (NZ+numN ss) ((LZ++numL ss 30).map (Value.int .i64))|6=>∃(a3:Option Addr) (c3:Nat),BB wx Bx (.slice a3 (NZ+numN ss) c3)∧wx.ownsRow B0 133 2 (.slice a3 (NZ+numN ss) c3) (NZ+numN ss) ((LZ++numL ss 30).map (Value.int .i64))|_=>True) wx wy:=by
        intro wy hy ii hii hne hc own ys h
        match ii,h with
        | 0,h|1,h|2,h|3,h|4,h=>exact h
        | 5,h=>exact absurd rfl hne
        | 6,h=>exact absurd hc (by decide)
        | _+7,_=>trivial
       obtain⟨z,g1,g2⟩:=hG.2.1;exact hK.out _ _ ⟨⟨az,cz,rfl,oz⟩,⟨hG.1.fr fz,⟨z,g1.fr fz,g2⟩,(fun x=>Bool.noConfusion x),Nat.le_trans hG.2.2.2 fz.size⟩,hst _ trivial⟩
      case o6 =>
       clear hl ha hb;have d5:∃(a3:Option Addr) (c3:Nat),(xs 5) = .slice a3 (NZ+numN ss) c3∧wx.ownsRow B0 133 2 (.slice a3 (NZ+numN ss) c3) (NZ+numN ss) ((LZ++numL ss 30).map (Value.int .i64)):=hD 5 rfl;clear hD hI;generalize xs 5=y5 at *;obtain⟨a3,c3,rfl,o3⟩:=d5;obtain⟨z,g1,g2⟩:=hG.2.1;obtain⟨k0,k1⟩:=g1.cell;go_wp2;have hst:∀(wy:World),(∀(v:Value) (n:Nat) (us:List Value),wx.ownsRow B0 133 2 v n us→wy.ownsRow B0 133 2 v n us)→Stbn 7 6 [[],[],[1],[1,2],[1,2,3],[0,1,2,3,4],[0,1,2,3,4,5]] (fun i own ys wx=>match i with|0=>own= .slice a5 NZ c5|1=>own= .pointer (some ⟨Rx,1,none⟩)|2=>own= .int .i64 lv|3=>own= .int .i64 ((ss:Int)+1)|4=>own= .int .i64 (ss:Nat)|5=>∃(a3:Option Addr) (c3:Nat),own= .slice a3 (NZ+numN ss) c3∧wx.ownsRow B0 133 2 (.slice a3 (NZ+numN ss) c3) (NZ+numN ss) ((LZ++numL ss 30).map (Value.int .i64))|6=>∃(a3:Option Addr) (c3:Nat),BB wx Bx (.slice a3 (NZ+numN ss) c3)∧wx.ownsRow B0 133 2 (.slice a3 (NZ+numN ss) c3) (NZ+numN ss) ((LZ++numL ss 30).map (Value.int .i64))|_=>True) wx wy:=by
        intro wy hy ii hii hne hc own ys h
        match ii,h with
        | 0,h|1,h|2,h|3,h|4,h=>exact h
        | 5,h=>obtain⟨a9,c9,h1,h2⟩:=h;exact⟨a9,c9,h1,hy _ _ _ h2⟩
        | 6,h=>exact absurd rfl hne
        | _+7,_=>trivial
       exact hQo undef _ (hK.out _ _ ⟨⟨a3,c3,g1.set _,own_setBB o3 g1⟩,⟨hG.1.set hBX _,⟨_,g1.set _,(fun x=>Bool.noConfusion x)⟩,(fun x=>own_setBB (hG.2.2.1 x) g1),by simpa using hG.2.2.2⟩,hst _ (fun _ _ _ h=>own_setBB h g1)⟩)
     intro xs wx hV hG0;obtain⟨Lx,hL,hG⟩:=hG0;have l5:Lx 5=true:=hL 5 (by decide);have l6:Lx 6=true:=hL 6 (by decide);clear hL;have d6:∃(a3:Option Addr) (c3:Nat),BB wx Bx (.slice a3 (NZ+numN ss) c3)∧wx.ownsRow B0 133 2 (.slice a3 (NZ+numN ss) c3) (NZ+numN ss) ((LZ++numL ss 30).map (Value.int .i64)):=hV 6 (by decide);clear hV;simp only[patchS,Nat.reduceAdd,Nat.reduceEqDiff,↓reduceIte];generalize xs 0=y0,xs 1=y1,xs 2=y2,xs 3=y3,xs 4=y4,xs 5=y5,xs 6=y6 at *
     replace hG:FX B0 133 Bx w6 wx∧(∃ z,BB wx Bx z∧(Lx 6=false→z= .slice a5 NZ c5))∧(Lx 5=false→wx.ownsRow B0 133 2 (.slice a5 NZ c5) NZ (LZ.map (Value.int .i64)))∧B0≤wx.heap.size:=hG
     obtain⟨a4,c4,b4,o4⟩:=d6
     gi_wp2
     have FT:=FA.trans hG.1;exact⟨(FT.keepsN bW).from _,(FT.ib ib (by decide) hIX).trans ib.symm,fx.trans FT,FT.ib ib (by decide) hIX,_,_,by rw[HCN.out];exact b4,by rw[HCN.out,HCL.out];exact o4⟩
    case done =>
     rintro D ys W hD hS hI hK
     obtain⟨fx,ib,aW,cW,bW,oW⟩:=hI;have hS2:ys.map (·.1)=runsL zs:=hS;rw[hS2]at bW oW;obtain⟨u1,u2⟩:=blk_rc zs;have HCN:N9+rcN (runsL zs)=N0+lvNn m (k+1):=by rw[HC.out,HN9.out,HNk.out,u2];omega
     have HCL:L9++rcL (runsL zs)=xs0++lvBn m (k+1):=by rw[HLs.out,HL9.out,HLk.out,u1];simp
     rw[HCN]at bW oW;rw[HCL]at oW;have hszL:=F10.size;have hszW:=fx.size;clear HCN HCL u1 u2 hS hS2;go_wp2;refine⟨⟨k+1,_::ds,_,rfl,rfl,rfl,rfl,rfl,by simp,by omega,⟨D,rfl,by omega,hK,fun d' hd'=>MK.lt ds M10 d' hd' D hD,MK.ko (fx.keepsN b10) ds M10⟩,F10.trans fx,by omega,aW,cW,bW,oW⟩,?_⟩;simp[intOf];omega
    case stop =>
     rintro D c pre W _ _ h _
     exact h.elim
   ·have HKR:=Lib.hid (show k=4 by omega);have hd:decide ((k:Int)<4)=false:=by simp;omega
    obtain⟨k0,k1⟩:=b7.cell;have H1:=Lib.hid (show N0+lvNn m k=N0+macN m by rw[HKR.out,macN,if_neg HK0.out]);have H2:=Lib.hid (show xs0++lvBn m k=xs0++macL m by rw[HKR.out,macL,if_neg HK0.out]);rw[H1.out,H2.out]at o7;rw[H1.out]at b7 k0;go_wp2;show LeavesInM Fence.wide 4 _ _ _ _ ds .returning wr;refine leaves_MK (lo:=w1.heap.size) (fun W=>FX B0 133 Bx w1 W∧W.ownsRow B0 133 2 (.slice a7 (N0+macN m) c7) (N0+macN m) ((xs0++macL m).map (Value.int .i64))) ?_ ?_ ds wr hM ⟨F7,o7⟩
    ·rintro W D hD hk ⟨h1,h2⟩
     exact⟨h1.grown (grownBy_putObj' W D _) (fun r e=>by cases e;exact hD) HB1.out,own_nc (n:=w1.heap.size) h2 (grownBy_putObj' W D _) (fun r e=>by cases e;exact⟨hD,_,hk,rfl⟩)⟩
    ·rintro W ⟨h1,h2⟩
     exact⟨_,results_tmp rfl _ _ _,a7,c7,rfl,h2,⟨(E1.mono hB).trans h1.lo,fun i o h3 h4=>h1.ot i o (E1.blk h3) h4 (by have:=lt_of_block h3;have:=HBx.out;omega)⟩⟩
end Go.Proofs.YtbnhaegidfbgbaaGreatDoor
namespace Go.Proofs.YtbnhaegidfbgbaaGreatDoor
open Go.RowKit
theorem appendMacro_skip (v0:Value) (N0:Nat) (xs0:List Int) (m:Mac) (B0:Nat) (w:World) (own:w.ownsRow B0 133 2 v0 N0 (xs0.map (Value.int .i64))) (hB:B0≤w.heap.size) (hN:N0≤100000) (hm:m.ok) (h0:m.kind=0) :
 Calls Tryz.prog 53 #[v0,.agg (ic m.zs),.bool false] w fun e w'=>∃ a c,e= .returned (.slice a (N0+macN m) c)∧w'.ownsRow B0 133 2 (.slice a (N0+macN m) c) (N0+macN m) ((xs0++macL m).map (Value.int .i64))∧FR B0 133 w w':=by
 have Hl:=Lib.hid (Mac.zs_len hm);obtain⟨a0,c0,rfl⟩:=owns_form own;obtain⟨Bx,hBx⟩:∃ Bx,Bx=w.heap.size:=⟨_,rfl⟩;have E1:=(Ext.alloc w (.cells #[.slice a0 N0 c0] 40)).trans (Ext.alloc _ (.cells (ic m.zs) 32));have b0:BB ((w.alloc (.cells #[.slice a0 N0 c0] 40)).alloc (.cells (ic m.zs) 32)) Bx (.slice a0 N0 c0):=by rw[hBx];exact(Ext.alloc _ _).blk (blk_new w _)
 have I1:=IB.new (w.alloc (.cells #[.slice a0 N0 c0] 40)) 32 m.zs;rw[World.size_alloc,←hBx]at I1;have o0:=owns_ext own E1;have hs1:((w.alloc (.cells #[.slice a0 N0 c0] 40)).alloc (.cells (ic m.zs) 32)).heap.size=Bx+2:=by simp[hBx]
 have hk:=I1.cell (i:=0) (by rw[Mac.zs_len hm];omega);rw[Mac.zs_kind,h0]at hk;have HN:=Lib.hid (show macN m=1 by rw[macN,if_pos h0]);have HL:=Lib.hid (show macL m = [0,0] by rw[macL,if_pos h0]);have F1:FR B0 133 w ((w.alloc (.cells #[.slice a0 N0 c0] 40)).alloc (.cells (ic m.zs) 32)):=FR.of_ext E1 hB;have HBx:=Lib.hid hBx;have HS1:=Lib.hid hs1;clear h0 hs1;go_enter Tryz.func53,Tryz.ntmps53
 go_upto_region 1 with fail
 try simp only[World.size_alloc]
 rw[←hBx];generalize (w.alloc (.cells #[.slice a0 N0 c0] 40)).alloc (.cells (ic m.zs) 32)=w1 at *;clear hBx;obtain⟨k0,k1⟩:=b0.cell;have hB1:B0≤w1.heap.size:=by rw[HS1.out];have:=HBx.out;omega
 go_wp2_with (at_builtin;refine wpList_appk _ rfl (o0.alloc _) (by simp;omega) _ _ 40 rfl (.agg #[.int .i64 0,.int .i64 0]) 16 Tryz.underlying40 info_Bin rfl (by decide) rfl ⟨w1.heap.size,0,none⟩ 1 1 [.int .i64 0,.int .i64 0] rfl rfl ((Sl_new w1 [.int .i64 0,.int .i64 0] 133).cellsOf _ (by simp)) (by intro u hu;simp at hu;subst hu;rfl) (by omega) (by omega) ?_;intro v2 w2 own2 gr2 _;refine Hid.out ?_)
 refine Lib.hid ?_;obtain⟨a2,c2,rfl⟩:=owns_form own2;have FA:=(FR.of_ext (B:=B0) (T:=133) (Ext.alloc w1 (.cells #[.int .i64 0,.int .i64 0] 133)) hB1).trans (FR.of_row (o0.alloc _) gr2 (by simp;omega));have o2:=ownc own2 (show _=(xs0 ++ [0,0]).map (Value.int .i64) by simp);go_wp2;go_ret
 rw[HN.out,HL.out];exact⟨_,_,rfl,o2,F1.trans FA⟩
theorem appendMacro_any (v0:Value) (N0:Nat) (xs0:List Int) (m:Mac) (B0:Nat) (w:World) (own:w.ownsRow B0 133 2 v0 N0 (xs0.map (Value.int .i64))) (hB:B0≤w.heap.size) (hN:N0≤100000) (hm:m.ok) (hv:m.valid) :
 Calls Tryz.prog 53 #[v0,.agg (ic m.zs),.bool false] w fun e w'=>∃ a c,e= .returned (.slice a (N0+macN m) c)∧w'.ownsRow B0 133 2 (.slice a (N0+macN m) c) (N0+macN m) ((xs0++macL m).map (Value.int .i64))∧FR B0 133 w w':=by
 by_cases h0:m.kind=0
 ·exact appendMacro_skip v0 N0 xs0 m B0 w own hB hN hm h0
 ·exact appendMacro_some v0 N0 xs0 m B0 w own hB hN hm hv h0
theorem impl_MacroBins_in (m:Mac) (w:World) (hm:m.ok) (hv:m.valid) :
 Calls Tryz.prog 14 #[.agg (ic m.zs),.bool false] w fun e w'=>∃ a c,e= .returned (.slice a (macN m) c)∧w'.ownsRow w.heap.size 133 2 (.slice a (macN m) c) (macN m) ((macL m).map (Value.int .i64))∧Ext w w':=by
 have Hl:=Lib.hid (Mac.zs_len hm);have Hm:=Lib.hid hm;have HV:=Lib.hid hv;have HD:=Lib.hid (show decide m.valid=true from decide_eq_true hv);obtain⟨Bx,hBx⟩:∃ Bx,Bx=w.heap.size:=⟨_,rfl⟩;have E1:=Ext.alloc w (.cells (ic m.zs) 32);have I1:=IB.new w 32 m.zs;have hz:=I1.lt;rw[←hBx]at I1;have hm1:=hm;clear hm hv;go_enter Tryz.func14,Tryz.ntmps14
 go_upto_region 1 with fail
 rw[←hBx];generalize w.alloc (.cells (ic m.zs) 32)=w1 at *;have HBx:=Lib.hid hBx;have hBl:w.heap.size≤Bx:=by omega
 clear hBx;go_wp2_with (refine wpList_iload 32 _ rfl rfl I1 0 71 rfl _ Tryz.underlying32 rfl size_Macro (by rw[Hl.out];omega) _ (by rw[sub_all _ _ Hl.out]) ?_)
 refine(impl_MacroValid_any m _ Hm.out).mono ?_;rw[HD.out]
 rintro e w2 ⟨rfl,e2⟩
 have I2:=I1.ext e2;have E2:=E1.trans e2;go_wp2_with (refine wpList_iload 32 _ rfl rfl I2 0 71 rfl _ Tryz.underlying32 rfl size_Macro (by rw[Hl.out];omega) _ (by rw[sub_all _ _ Hl.out]) ?_)
 have hB2:w.heap.size≤w2.heap.size:=by have:=e2.size;omega
 refine(appendMacro_any _ 0 [] m w.heap.size _ (World.ownsRow_nil _ _ _ _) hB2 (by omega) Hm.out HV.out).mono ?_
 rintro e w3 ⟨a,c,rfl,o3,f3⟩
 go_wp2;go_ret
 have hz:0+macN m=macN m:=Nat.zero_add _;rw[hz]at o3;exact⟨_,_,rfl,o3,FR.ext E2 f3 (Nat.le_refl _)⟩
/-- The sum of the squares of the first k differences. -/
def sqS (t D:Pic) (x y:Int):Nat→Int
 | 0=>0
 | k+1=>sqS t D x y k+(pat t (x+(k%8:Nat)) (y+(k/8:Nat))-pat D (x+(k%8:Nat)) (y+(k/8:Nat)))*(pat t (x+(k%8:Nat)) (y+(k/8:Nat))-pat D (x+(k%8:Nat)) (y+(k/8:Nat)))
theorem sq_rng {d:Int} (h1 : -255≤d) (h2:d≤255):0≤d*d∧d*d≤65025:=by
 have h:=Int.mul_nonneg (show 0≤255-d by omega) (show 0≤255+d by omega);rw[Int.sub_mul,Int.mul_add,Int.mul_add,Int.mul_comm d 255]at h;have h0:0≤d*d:=by
  rcases Int.le_total 0 d with h3|h3
  ·exact Int.mul_nonneg h3 h3
  ·have:=Int.mul_nonneg (show 0 ≤ -d by omega) (show 0 ≤ -d by omega)
   rwa [Int.neg_mul_neg]at this
 exact⟨h0,by omega⟩
theorem pd_rng {t D:Pic} (ht:t.valid) (hD:D.valid) (x y:Int) : -255≤pat t x y-pat D x y∧pat t x y-pat D x y≤255:=by
 have h1:=pat_rng ht x y;have h2:=pat_rng hD x y;omega
theorem sqS_rng {t D:Pic} (ht:t.valid) (hD:D.valid) (x y:Int) (k:Nat):0≤sqS t D x y k∧sqS t D x y k≤65025*k:=by
 induction k with
 | zero=>exact⟨Int.le_refl _,Int.le_refl _⟩
 | succ k ih =>
  rw[sqS];have hd:=pd_rng ht hD (x+(k%8:Nat)) (y+(k/8:Nat));have:=sq_rng hd.1 hd.2;generalize (pat t (x+(k%8:Nat)) (y+(k/8:Nat))-pat D (x+(k%8:Nat)) (y+(k/8:Nat)))*(pat t (x+(k%8:Nat)) (y+(k/8:Nat))-pat D (x+(k%8:Nat)) (y+(k/8:Nat)))=z at *;omega
theorem rate_rng {m:Mac} {q:Nat} (hm:m.ok) (hv:m.valid) (hq:q<16):0≤stp q*(macN m:Int)∧stp q*(macN m:Int)≤2560000:=by
 have h1:=stp_rng hq;have h2:=macN_le hm hv;have h3:=Int.mul_nonneg (show 0≤stp q by omega) (show(0:Int)≤(macN m:Int) by omega);have h4:=Int.mul_le_mul h1.2 (show(macN m:Int)≤5000 by omega) (by omega) (by omega);exact⟨h3,by omega⟩
/-- The decoded picture of a macroblock. -/
noncomputable def recD (ref p : Pic) (x y : Int) (m : Mac) (q top : Int) : Pic := ⟨p.w, p.h, bldS ref p x.toNat y.toNat m q.toNat top 4⟩
/-- The cost. -/
noncomputable def costP (t ref p : Pic) (x y : Int) (m : Mac) (q top : Int) : Int := if alikeP t p ∧ okR ref p x y m q top then sqS t (recD ref p x y m q top) x y 64 + stp q.toNat * (macN m : Int) else -1
theorem cellP {w:World} {g n k:Nat} {xs:List Int} {z:Int} (h:Sl w (some ⟨g,0,none⟩) n (xs.map (Value.int .i64))) (hk:k<n) (hz:nth xs k=z):w.cell? ⟨g,k,none⟩=some (.int .i64 z):=by
 obtain⟨b,off,ha,hc⟩:=h.int hk;simp only[Option.some.injEq,Addr.mk.injEq]at ha;obtain⟨rfl,rfl,-⟩:=ha;rw[Nat.zero_add,hz]at hc;exact hc
theorem impl_QuantStep_inC (q:Nat) (w:World) (hT:TabQ w) (hq:q<16) :
 Calls Tryz.prog 13 #[.int .i64 q] w fun e w'=>e= .returned (.int .i64 (stp q))∧w=w':=by
 have ht:=hT q hq;have hs:=stp_rng hq;generalize stp q=s at *;go_enter Tryz.func13,Tryz.ntmps13
 go_wp2_with fail
 refine(qualityValid_in _ _ (by omega) (by omega)).mono ?_
 rintro e w1 ⟨rfl,rfl⟩
 go_wp2;go_ret
 exact⟨rfl,rfl⟩
theorem impl_cost_in (t ref:Pic) (W H x y:Nat) (px:List Int) (m:Mac) (q:Nat) (top:Int) (at1 a b:Option Addr) (tc c d tn n l:Nat) (w:World) (hT:TabQ w) (htn:tn=t.px.length) (hn:n=ref.px.length) (hl:l=px.length) (nc:n≤9223372036854775807) (rt:Sl w at1 tn (t.px.map (Value.int .i64))) (r:Sl w a n (ref.px.map (Value.int .i64))) (s:Sl w b l (px.map (Value.int .i64))) (hm:m.ok) (htv:t.valid) (ho:okR ref ⟨W,H,px⟩ x y m q top) :
 Calls Tryz.prog 40 #[.agg #[.int .i64 t.w,.int .i64 t.h,.slice at1 tn tc],.agg #[.int .i64 ref.w,.int .i64 ref.h,.slice a n c],.agg #[.int .i64 W,.int .i64 H,.slice b l d],.int .i64 (x:Nat),.int .i64 (y:Nat),.agg (ic m.zs),.int .i64 q,.int .i64 top] w fun e w'=>e= .returned (.int .i64 (sqS t ⟨W,H,bldS ref ⟨W,H,px⟩ x y m q top 4⟩ x y 64+stp q*(macN m:Int)))∧Ext w w':=by
 have hlen:=Pic.len_le ho.1.1;simp only at hlen;rw[←hl]at hlen;obtain⟨bl,hbl⟩:∃ bl,bl=bldS ref ⟨W,H,px⟩ x y m q top 4:=⟨_,rfl⟩;have hDv:Pic.valid ⟨W,H,bl⟩:=by rw[hbl];exact bldS_valid ho.1.1 ref x y m q top 4
 have hxy:(x:Int)<40∧(y:Int)<40:=by
  have h1:=ho.1.1.1;have h2:=ho.1.1.2.1;have h3:=ho.1.2.2.1;have h4:=ho.1.2.2.2.2.2.1;simp only[side]at h1 h2 h3 h4;omega
 have HDn:=Lib.hid (show l=bl.length by rw[hbl,bldS_len];exact hl);have Hbl:=Lib.hid hbl;clear hbl;have hrt:=rate_rng hm ho.2.1 (show q<16 by have:=ho.2.2.1;omega);have Htn:=Lib.hid htn;have Hn:=Lib.hid hn;have HL:=Lib.hid hl;have Hm:=Lib.hid hm;have Hl:=Lib.hid (Mac.zs_len hm);have Hok:=Lib.hid ho;have HTV:=Lib.hid htv;have HDv:=Lib.hid hDv;have hq:q<16:=by have:=ho.2.2.1;omega
 have ht0:0≤top:=ho.2.2.2.1.1;clear hn hl hm ho htn htv hDv;have a2:=Ext.alloc (w.alloc (.cells #[.int .i64 t.w,.int .i64 t.h,.slice at1 tn tc] 25)) (.cells #[.int .i64 ref.w,.int .i64 ref.h,.slice a n c] 25);have a3:=Ext.alloc ((w.alloc (.cells #[.int .i64 t.w,.int .i64 t.h,.slice at1 tn tc] 25)).alloc (.cells #[.int .i64 ref.w,.int .i64 ref.h,.slice a n c] 25)) (.cells #[.int .i64 W,.int .i64 H,.slice b l d] 25);have a4:=Ext.alloc (((w.alloc (.cells #[.int .i64 t.w,.int .i64 t.h,.slice at1 tn tc] 25)).alloc (.cells #[.int .i64 ref.w,.int .i64 ref.h,.slice a n c] 25)).alloc (.cells #[.int .i64 W,.int .i64 H,.slice b l d] 25)) (.cells (ic m.zs) 32);have p0:=a4.blk (a3.blk (a2.blk (blk_new w (.cells #[.int .i64 t.w,.int .i64 t.h,.slice at1 tn tc] 25))));have p1:=a4.blk (a3.blk (blk_new (w.alloc (.cells #[.int .i64 t.w,.int .i64 t.h,.slice at1 tn tc] 25)) (.cells #[.int .i64 ref.w,.int .i64 ref.h,.slice a n c] 25)));have p2:=a4.blk (blk_new ((w.alloc (.cells #[.int .i64 t.w,.int .i64 t.h,.slice at1 tn tc] 25)).alloc (.cells #[.int .i64 ref.w,.int .i64 ref.h,.slice a n c] 25)) (.cells #[.int .i64 W,.int .i64 H,.slice b l d] 25));have p3:=IB.new (((w.alloc (.cells #[.int .i64 t.w,.int .i64 t.h,.slice at1 tn tc] 25)).alloc (.cells #[.int .i64 ref.w,.int .i64 ref.h,.slice a n c] 25)).alloc (.cells #[.int .i64 W,.int .i64 H,.slice b l d] 25)) 32 m.zs;have E1:=(((Ext.alloc w (.cells #[.int .i64 t.w,.int .i64 t.h,.slice at1 tn tc] 25)).trans a2).trans a3).trans a4;simp only[World.size_alloc]at p1 p2 p3;clear a2 a3 a4;obtain⟨B,hB⟩:∃ B,B=w.heap.size:=⟨_,rfl⟩;rw[←hB]at p0 p1 p2 p3;have hwB:w.heap.size≤B:=by omega
 have HB:=Lib.hid hB;have hb1:=p3.lt;go_enter Tryz.func40,Tryz.ntmps40
 go_upto_region 1 with fail
 try simp only[World.size_alloc]
 rw[←hB];clear hB;generalize (((w.alloc (.cells #[.int .i64 t.w,.int .i64 t.h,.slice at1 tn tc] 25)).alloc (.cells #[.int .i64 ref.w,.int .i64 ref.h,.slice a n c] 25)).alloc (.cells #[.int .i64 W,.int .i64 H,.slice b l d] 25)).alloc (.cells (ic m.zs) 32)=w1 at *;obtain⟨-,i0,i1,i2,-⟩:=bx3 p2;go_wp2_with fail
 refine(clone_any W H b d l px _ (by omega) (s.ext E1)).mono ?_
 rintro e wa ⟨a1,c1,rfl,own1,e2⟩
 have r0:=e2.blk p0;have r1:=e2.blk p1;have r2:=e2.blk p2;have r3:=p3.ext e2;have E2:=E1.trans e2;clear p0 p1 p2 p3 E1 e2 i0 i1 i2;have hgo:∃ g,a1=some ⟨g,0,none⟩∧g<wa.heap.size∧w1.heap.size≤g:=by
  rcases own1.2 with⟨-,h0⟩|⟨g,cc,cur,hv,hb,hb2,-⟩
  ·omega
  ·simp only[Value.slice.injEq]at hv;exact⟨g,hv.1,lt_of_block hb2,hb⟩
 obtain⟨g,rfl,hg1,hg2⟩:=hgo;have a5:=Ext.alloc wa (.cells #[.int .i64 W,.int .i64 H,.slice (some ⟨g,0,none⟩) l c1] 25);have z0:=a5.blk r0;have z1:=a5.blk r1;have z3:=r3.ext a5;have z4:=blk_new wa (.cells #[.int .i64 W,.int .i64 H,.slice (some ⟨g,0,none⟩) l c1] 25);have own2:=owns_ext own1 a5;have E3:=E2.trans a5;have hO:=r3.lt;obtain⟨O,hOe⟩:∃ O,O=wa.heap.size:=⟨_,rfl⟩;rw[←hOe]at z4 hg1 hO;have HO2:=Lib.hid hOe;clear r0 r1 r2 r3 own1 E2 a5;obtain⟨-,i0,i1,i2,-⟩:=bx3 z1;obtain⟨-,o0,o1,o2,-⟩:=bx3 z4;have hOlt:=lt_of_block z4;go_upto_region 2 with fail
 rw[←hOe];clear hOe;generalize wa.alloc (.cells #[.int .i64 W,.int .i64 H,.slice (some ⟨g,0,none⟩) l c1] 25)=w2 at *;go_wp2_with (refine wpList_iload 32 _ rfl rfl z3 0 71 rfl _ Tryz.underlying32 rfl size_Macro (by rw[Hl.out];omega) _ (by rw[sub_all _ _ Hl.out]) ?_)
 have hrz : ¬ m.kind=2→∀ z,a=some z→z.block≠g:=fun hk z hz=>by
  have h9:=Pic.len_le (okR_ref Hok.out hk);rw[←Hn.out]at h9;have:=sl_bound r z hz (by omega);omega
 have hT0:=World.block_lt_of_cell? w _ (hT 0 (by omega));refine(rebuild_any ref W H x y px m q top a n c w1.heap.size g l c1 _ (hT.ext E3) (by simp only at hT0;omega) own2 Hok.out.1 Hm.out Hok.out.2.1 hq (fun hk=>okR_ref Hok.out hk) Hn.out (r.ext E3) hrz).mono ?_
 rintro e w3 ⟨rfl,own3,g3⟩
 rw[←Hbl.out]at own3;have u0:=blk_gr z0 g3 (by simp;omega);have u3:=z3.gr g3 (by simp;omega);have u4:=blk_gr z4 g3 (by simp;omega);have hs1:B≤w1.heap.size:=by omega
 have E4:Ext w w3:=Ext.grown E3 g3 (fun k e=>by cases e;omega);have SD:=Sl.of_owns own3;clear z0 z1 z3 z4 own2 own3 E3 g3 i0 i1 i2 o0 o1 o2;have RT:=rt.ext E4;obtain⟨s0,hs0⟩:∃ s0,s0=stp q:=⟨_,rfl⟩;obtain⟨N0,hN0⟩:∃ N0,N0=macN m:=⟨_,rfl⟩;obtain⟨C,hC⟩:∃ C,C=stp q*(macN m:Int):=⟨_,rfl⟩;rw[←hC]at hrt;have HC:=Lib.hid (show s0*(N0:Int)=C by rw[hs0,hN0,hC]);have HW:=Lib.hid (show wrap64 (s0*(N0:Int))=C by rw[hs0,hN0,←hC];unfold wrap64;omega);have HS0:=Lib.hid hs0;have HN0:=Lib.hid hN0;have HC0:=Lib.hid hC;have hs0r:=stp_rng hq;rw[←hs0]at hs0r;have hN0r:=macN_le Hm.out Hok.out.2.1;rw[←hN0]at hN0r;have hTe:=hT.ext E4;clear hs0 hN0 hC;go_upto_region 3 with fail
 refine wp_region_inv2 (by kernel_rfl) [(18,6),(31,0),(32,1),(33,2),(34,3),(35,4),(36,5)] [[],[0],[],[0,1,2],[0,1,2,3],[0,1,2,3,4],[0,1,2,3,4,5]] (fun i own ys wx=>match i with|0=>own= .int .i64 (q:Nat)|1=>own= .int .i64 s0|2=>own= .agg (ic m.zs)|3=>∃(a3:Option Addr) (c3:Nat),own= .slice a3 N0 c3|4=>own= .int .i64 (N0:Nat)|5=>own= .int .i64 C|6=>own= .int .i64 C|_=>True) (fun kx wx=>Ext w3 wx) (by kernel_rfl) (by kernel_rfl) (by kernel_rfl) ?g0_r1 ?gop_r1 ?gend_r1
 case g0_r1=>exact Ext.drewN _ 1
 case gop_r1 =>
  refine⟨?o0,?o1,?o2,?o3,?o4,?o5,?o6,trivial⟩ <;> (intro kx xs wx hk hG hD hI Qo Kx hK hQo;simp only[patchS,Nat.reduceAdd,Nat.reduceEqDiff,↓reduceIte]at hQo⊢)
  case o0 =>
   clear hD hI;go_wp2;exact hK.out _ _ ⟨rfl,hG,kkp⟩
  case o1 =>
   rw[ddq (hD 0 rfl)]at hQo⊢;clear hD hI;go_wp2_with fail
   refine(impl_QuantStep_inC q _ (hTe.ext hG) hq).mono ?_
   rintro e wz ⟨rfl,rfl⟩
   rw[←HS0.out];go_wp2;exact hK.out _ _ ⟨rfl,hG,kkp⟩
  case o2 =>
   clear hD hI;go_wp2_with (refine wpList_iload 32 _ rfl rfl (u3.ext hG) 0 71 rfl _ Tryz.underlying32 rfl size_Macro (by rw[Hl.out];omega) _ (by rw[sub_all _ _ Hl.out]) ?_)
   exact hK.out _ _ ⟨rfl,hG,kkp⟩
  case o3 =>
   rw[ddq (hD 2 rfl)]at hQo⊢;clear hD hI;go_wp2_with fail
   refine(impl_MacroBins_in m _ Hm.out Hok.out.2.1).mono ?_
   rintro e wz ⟨az,cz,rfl,-,ez⟩
   rw[←HN0.out];go_wp2;exact hK.out _ _ ⟨⟨az,cz,rfl⟩,hG.trans ez,fun _ _ _ _ _ _ h=>h⟩
  case o4 =>
   have d3:∃(a3:Option Addr) (c3:Nat),(xs 3) = .slice a3 N0 c3:=hD 3 rfl;clear hD hI;generalize xs 3=y3 at *;obtain⟨a3,c3,rfl⟩:=d3;go_wp2;exact hK.out _ _ ⟨rfl,hG,kkp⟩
  case o5 =>
   rw[ddq (hD 1 rfl),ddq (hD 4 rfl)]at hQo⊢;clear hD hI;go_wp2;exact hK.out _ _ ⟨by first|rw[HW.out]|rw[HC.out],hG,fun _ _ _ _ _ _ h=>h⟩
  case o6 =>
   rw[ddq (hD 5 rfl)]at hQo⊢;clear hD hI;go_wp2;exact hK.out _ _ ⟨rfl,hG,kkp⟩
 intro xs wx hV hG;have d6:_=_:=hV 6 (by decide);clear hV;simp only[patchS,Nat.reduceAdd,Nat.reduceEqDiff,↓reduceIte];generalize xs 0=y0,xs 1=y1,xs 2=y2,xs 3=y3,xs 4=y4,xs 5=y5,xs 6=y6 at *
 replace hG:Ext w3 wx:=hG
 subst d6;have E5:=E4.trans hG;have x0:=hG.blk u0;have x4:=hG.blk u4;have SD5:=SD.ext hG;have RT5:=RT.ext hG;clear hG u0 u3 u4 SD RT hTe E4;generalize wx=w5 at *;go_wp2_with fail
 go_loopw [18,37] (fun v i wr=>∃ k:Nat,k≤64∧i= .int .i64 k∧v= .int .i64 (C+sqS t ⟨W,H,bl⟩ x y k)∧Ext w5 wr) (fun _ i _=>64-(intOf i).toNat)
 case atStart=>exact⟨0,by omega,rfl,by simp[sqS],Below.refl _ _⟩
 case round =>
  obtain⟨k,hk,rfl,rfl,Ek⟩:=hrel;have hsr:=sqS_rng HTV.out HDv.out x y k
  by_cases hlt:k<64
  ·have hd:decide ((k:Int)<64)=true:=by simp;omega
   obtain⟨ii,hi⟩:∃ ii,ii=k%8:=⟨_,rfl⟩;obtain⟨jj,hj⟩:∃ jj,jj=k/8:=⟨_,rfl⟩;have hpd:=pd_rng HTV.out HDv.out ((x:Int)+(ii:Nat)) ((y:Int)+(jj:Nat));have hsq:=sq_rng hpd.1 hpd.2;have Hnx:=Lib.hid (show sqS t ⟨W,H,bl⟩ x y (k+1)=_ by rw[sqS,←hi,←hj]);obtain⟨pt,hpt⟩:∃ z,z=pat t ((x:Int)+(ii:Nat)) ((y:Int)+(jj:Nat)):=⟨_,rfl⟩;obtain⟨pd,hpD⟩:∃ z,z=pat ⟨W,H,bl⟩ ((x:Int)+(ii:Nat)) ((y:Int)+(jj:Nat)):=⟨_,rfl⟩;have hp1:=pat_rng HTV.out ((x:Int)+(ii:Nat)) ((y:Int)+(jj:Nat));have hp2:=pat_rng HDv.out ((x:Int)+(ii:Nat)) ((y:Int)+(jj:Nat));rw[←hpt]at hp1;rw[←hpD]at hp2;rw[←hpt,←hpD]at hpd hsq Hnx;have HPT:=Lib.hid hpt;have HPD:=Lib.hid hpD;have Hi:=Lib.hid (show(k:Int)%8=(ii:Int) by omega);have Hj:=Lib.hid (show(k:Int)/8=(jj:Int) by omega);have hib:ii<8:=by omega
   have hjb:jj<8:=by omega
   have Hwq:=Lib.hid (show wrap64 ((pt-pd)*(pt-pd))=(pt-pd)*(pt-pd) by generalize (pt-pd)*(pt-pd)=z at hsq⊢;unfold wrap64;omega);clear hi hj hpt hpD;have X0:=Lib.hid (Ek.blk x0);have X4:=Lib.hid (Ek.blk x4);go_upto_region 7 with fail
   refine wp_region_inv2 (by kernel_rfl) [(20,21),(40,0),(41,1),(42,2),(43,3),(44,4),(45,5),(46,6),(47,7),(48,8),(49,9),(50,10),(51,11),(52,12),(53,13),(54,14),(55,15),(56,16),(57,17),(58,18),(59,19),(60,20)] [[],[],[],[2],[1,2,3],[],[],[6],[5,6,7],[0,1,2,3,4,5,6,7,8],[],[],[],[12],[11,12,13],[],[],[16],[15,16,17],[0,1,2,3,4,5,6,7,8,9,10,11,12,13,14,15,16,17,18],[0,1,2,3,4,5,6,7,8,9,10,11,12,13,14,15,16,17,18,19],[0,1,2,3,4,5,6,7,8,9,10,11,12,13,14,15,16,17,18,19,20]] (fun i own ys wx=>match i with|0=>own= .agg #[.int .i64 t.w,.int .i64 t.h,.slice at1 tn tc]|1=>own= .int .i64 (x:Nat)|2=>own= .int .i64 (k:Nat)|3=>own= .int .i64 ((k:Int)%8)|4=>own= .int .i64 ((x:Int)+(ii:Nat))|5=>own= .int .i64 (y:Nat)|6=>own= .int .i64 (k:Nat)|7=>own= .int .i64 ((k:Int)/8)|8=>own= .int .i64 ((y:Int)+(jj:Nat))|9=>own= .int .i64 pt|10=>own= .agg #[.int .i64 W,.int .i64 H,.slice (some ⟨g,0,none⟩) l c1]|11=>own= .int .i64 (x:Nat)|12=>own= .int .i64 (k:Nat)|13=>own= .int .i64 ((k:Int)%8)|14=>own= .int .i64 ((x:Int)+(ii:Nat))|15=>own= .int .i64 (y:Nat)|16=>own= .int .i64 (k:Nat)|17=>own= .int .i64 ((k:Int)/8)|18=>own= .int .i64 ((y:Int)+(jj:Nat))|19=>own= .int .i64 pd|20=>own= .int .i64 (pt-pd)|21=>own= .int .i64 (pt-pd)|_=>True) (fun kx wx=>Ext wr wx) (by kernel_rfl) (by kernel_rfl) (by kernel_rfl) ?g0_r2 ?gop_r2 ?gend_r2
   case g0_r2=>exact Ext.drewN _ 1
   case gop_r2 =>
    refine⟨?o0,?_,?_,?o3,?o4,?_,?_,?o7,?o8,?o9,?o10,?_,?_,?o13,?o14,?_,?_,?o17,?o18,?o19,?o20,?o21,trivial⟩ <;> (intro kx xs wx hk hG hD hI Qo Kx hK hQo;simp only[patchS,Nat.reduceAdd,Nat.reduceEqDiff,↓reduceIte]at hQo⊢)
    case o0 =>
     clear hD hI;obtain⟨-,k0,k1,k2,-⟩:=bx3 (hG.blk X0.out);go_wp2;exact hK.out _ _ ⟨rfl,hG,kkp⟩
    case o3 =>
     rw[ddq (hD 2 rfl)]at hQo⊢;clear hD hI;go_wp2;exact hK.out _ _ ⟨rfl,hG,kkp⟩
    case o4 =>
     rw[ddq (hD 1 rfl),ddq (hD 3 rfl)]at hQo⊢;clear hD hI;go_wp2;exact hK.out _ _ ⟨by rw[←Hi.out],hG,fun _ _ _ _ _ _ h=>h⟩
    case o7 =>
     rw[ddq (hD 6 rfl)]at hQo⊢;clear hD hI;go_wp2;exact hK.out _ _ ⟨rfl,hG,kkp⟩
    case o8 =>
     rw[ddq (hD 5 rfl),ddq (hD 7 rfl)]at hQo⊢;clear hD hI;go_wp2;exact hK.out _ _ ⟨by rw[←Hj.out],hG,fun _ _ _ _ _ _ h=>h⟩
    case o9 =>
     rw[ddq (hD 0 rfl),ddq (hD 4 rfl),ddq (hD 8 rfl)]at hQo⊢;clear hD hI;go_wp2_with fail
     refine(at_any t ((x:Int)+(ii:Nat)) ((y:Int)+(jj:Nat)) at1 tc tn _ HTV.out Htn.out (RT5.ext (Ek.trans hG))).mono ?_
     rintro e wz ⟨rfl,ez⟩
     rw[←HPT.out];go_wp2;exact hK.out _ _ ⟨rfl,hG.trans ez,fun _ _ _ _ _ _ h=>h⟩
    case o10 =>
     clear hD hI;obtain⟨-,k0,k1,k2,-⟩:=bx3 (hG.blk X4.out);go_wp2;exact hK.out _ _ ⟨rfl,hG,kkp⟩
    case o13 =>
     rw[ddq (hD 12 rfl)]at hQo⊢;clear hD hI;go_wp2;exact hK.out _ _ ⟨rfl,hG,kkp⟩
    case o14 =>
     rw[ddq (hD 11 rfl),ddq (hD 13 rfl)]at hQo⊢;clear hD hI;go_wp2;exact hK.out _ _ ⟨by rw[←Hi.out],hG,fun _ _ _ _ _ _ h=>h⟩
    case o17 =>
     rw[ddq (hD 16 rfl)]at hQo⊢;clear hD hI;go_wp2;exact hK.out _ _ ⟨rfl,hG,kkp⟩
    case o18 =>
     rw[ddq (hD 15 rfl),ddq (hD 17 rfl)]at hQo⊢;clear hD hI;go_wp2;exact hK.out _ _ ⟨by rw[←Hj.out],hG,fun _ _ _ _ _ _ h=>h⟩
    case o19 =>
     rw[ddq (hD 10 rfl),ddq (hD 14 rfl),ddq (hD 18 rfl)]at hQo⊢;clear hD hI;go_wp2_with fail
     refine(at_any ⟨W,H,bl⟩ ((x:Int)+(ii:Nat)) ((y:Int)+(jj:Nat)) (some ⟨g,0,none⟩) c1 l _ HDv.out HDn.out (SD5.ext (Ek.trans hG))).mono ?_
     rintro e wz ⟨rfl,ez⟩
     rw[←HPD.out];go_wp2;exact hK.out _ _ ⟨rfl,hG.trans ez,fun _ _ _ _ _ _ h=>h⟩
    case o20 =>
     rw[ddq (hD 9 rfl),ddq (hD 19 rfl)]at hQo⊢;clear hD hI;go_wp2;exact hK.out _ _ ⟨rfl,hG,kkp⟩
    case o21 =>
     rw[ddq (hD 20 rfl)]at hQo⊢;clear hD hI;go_wp2;exact hK.out _ _ ⟨rfl,hG,kkp⟩
    all_goals
     clear hD hI;go_wp2;exact hK.out _ _ ⟨rfl,hG,kkp⟩
   intro xs wx hV hG;have d21:_=_:=hV 21 (by decide);clear hV;simp only[patchS,Nat.reduceAdd,Nat.reduceEqDiff,↓reduceIte];generalize xs 0=y0,xs 1=y1,xs 2=y2,xs 3=y3,xs 4=y4,xs 5=y5,xs 6=y6,xs 7=y7,xs 8=y8,xs 9=y9,xs 10=y10,xs 11=y11,xs 12=y12,xs 13=y13,xs 14=y14,xs 15=y15,xs 16=y16,xs 17=y17,xs 18=y18,xs 19=y19,xs 20=y20,xs 21=y21 at *
   replace hG:Ext wr wx:=hG
   subst d21;obtain⟨dv,hdv⟩:∃ dv,dv=pt-pd:=⟨_,rfl⟩;rw[←hdv]at hpd hsq Hnx Hwq⊢;have HDV:=Lib.hid hdv;clear hdv;obtain⟨S,hS⟩:∃ S,S=sqS t ⟨W,H,bl⟩ x y k:=⟨_,rfl⟩;rw[←hS]at hsr Hnx⊢;clear hS;go_wp2;go_roundw
   case rel=>exact⟨k+1,by omega,by go_num,by rw[Hnx.out];congr 1;generalize dv*dv=z at *;first|omega|(unfold wrap64;omega),Ek.trans hG⟩
   case measure=>simp[intOf];omega
  ·obtain rfl:k=64:=by omega
   obtain⟨S,hS⟩:∃ S,S=sqS t ⟨W,H,bl⟩ x y 64:=⟨_,rfl⟩;rw[←hS]at hsr⊢;have HS:=Lib.hid hS;clear hS;go_wp2;go_ret
   exact⟨ret_int (by rw[←Hbl.out,←HS.out,←HC0.out];omega),E5.trans Ek⟩
theorem byte_rangeV {L:List Int} (h:∀ z∈L,(Lit.int .u8 z).wf=true):∀ z∈L,0≤z∧z≤255:=by
 intro z hz;have:=h z hz;simp[Lit.wf,IntKind.min,IntKind.max,IntKind.signed,IntKind.bits]at this;exact⟨by omega,by omega⟩
theorem sl_kept {w w':World} {a:Option Addr} {n r:Nat} {xs:List Value} (h:Sl w a n xs) (g:w.grownBy w' (some r)) (hb:∀ y,a=some y→0<n→y.block<r):Sl w' a n xs:=by
 by_cases h0:n=0
 ·subst h0;exact⟨h.1,fun i hi=>by omega⟩
 ·exact h.grown g (fun y hy e=>by have:=hb y hy (by omega);simp at e;omega)
theorem PBx.e {w w':World} {b:Nat} {p:Pic} {a:Option Addr} {n c:Nat} (h:PBx w b p a n c) (e:Ext w w'):PBx w' b p a n c:=e.blk h
/-- What lies in the law's boxes: three pictures. -/
structure L3 (w : World) (O : Nat) (t : Pic) (a : Option Addr) (n c : Nat) (r : Pic) (a2 : Option Addr) (n2 c2 : Nat) (p : Pic) (a3 : Option Addr) (n3 c3 : Nat) (wx : World) : Prop where
 ex:Ext w wx
 b1:PBx wx O t a n c
 b2:PBx wx (O+1) r a2 n2 c2
 b3:PBx wx (O+1+1) p a3 n3 c3
 s1:Sl wx a n (t.px.map (Value.int .i64))
 s2:Sl wx a2 n2 (r.px.map (Value.int .i64))
 s3:Sl wx a3 n3 (p.px.map (Value.int .i64))
theorem L3.e {w wx wy:World} {O n c n2 c2 n3 c3:Nat} {t r p:Pic} {a a2 a3:Option Addr} (h:L3 w O t a n c r a2 n2 c2 p a3 n3 c3 wx) (e:Ext wx wy):L3 w O t a n c r a2 n2 c2 p a3 n3 c3 wy :=
 ⟨h.ex.trans e,e.blk h.b1,e.blk h.b2,e.blk h.b3,h.s1.ext e,h.s2.ext e,h.s3.ext e⟩
theorem L3.g {w wx wy:World} {O n c n2 c2 n3 c3 u:Nat} {t r p:Pic} {a a2 a3:Option Addr} (h:L3 w O t a n c r a2 n2 c2 p a3 n3 c3 wx) (g:wx.grownBy wy (some u)) (hw:w.heap.size≤u) (hu:O+1+1<u) (h1:∀ y,a=some y→0<n→y.block<u) (h2:∀ y,a2=some y→0<n2→y.block<u) (h3:∀ y,a3=some y→0<n3→y.block<u):L3 w O t a n c r a2 n2 c2 p a3 n3 c3 wy :=
 ⟨Ext.grown h.ex g (fun k hk=>by cases hk;exact hw),blk_gr h.b1 g (by simp;omega),blk_gr h.b2 g (by simp;omega),blk_gr h.b3 g (by simp;omega),sl_kept h.s1 g h1,sl_kept h.s2 g h2,sl_kept h.s3 g h3⟩
/-- The world behind the law's three boxes. -/
theorem L3.new {w w1:World} {n c n2 c2 n3 c3:Nat} {t r p:Pic} {a a2 a3:Option Addr} (E:Ext w w1) (s1:Sl w1 a n (t.px.map (Value.int .i64))) (s2:Sl w1 a2 n2 (r.px.map (Value.int .i64))) (s3:Sl w1 a3 n3 (p.px.map (Value.int .i64))) :
 L3 w w1.heap.size t a n c r a2 n2 c2 p a3 n3 c3 (((w1.alloc (.cells #[.int .i64 t.w,.int .i64 t.h,.slice a n c] 25)).alloc (.cells #[.int .i64 r.w,.int .i64 r.h,.slice a2 n2 c2] 25)).alloc (.cells #[.int .i64 p.w,.int .i64 p.h,.slice a3 n3 c3] 25)):=by
 have x1:=Ext.alloc w1 (.cells #[.int .i64 t.w,.int .i64 t.h,.slice a n c] 25);have x2:=Ext.alloc (w1.alloc (.cells #[.int .i64 t.w,.int .i64 t.h,.slice a n c] 25)) (.cells #[.int .i64 r.w,.int .i64 r.h,.slice a2 n2 c2] 25);have x3:=Ext.alloc ((w1.alloc (.cells #[.int .i64 t.w,.int .i64 t.h,.slice a n c] 25)).alloc (.cells #[.int .i64 r.w,.int .i64 r.h,.slice a2 n2 c2] 25)) (.cells #[.int .i64 p.w,.int .i64 p.h,.slice a3 n3 c3] 25);have y1:=blk_new w1 (.cells #[.int .i64 t.w,.int .i64 t.h,.slice a n c] 25);have y2:=blk_new (w1.alloc (.cells #[.int .i64 t.w,.int .i64 t.h,.slice a n c] 25)) (.cells #[.int .i64 r.w,.int .i64 r.h,.slice a2 n2 c2] 25);have y3:=blk_new ((w1.alloc (.cells #[.int .i64 t.w,.int .i64 t.h,.slice a n c] 25)).alloc (.cells #[.int .i64 r.w,.int .i64 r.h,.slice a2 n2 c2] 25)) (.cells #[.int .i64 p.w,.int .i64 p.h,.slice a3 n3 c3] 25);simp only[World.size_alloc]at y2 y3;exact⟨((E.trans x1).trans x2).trans x3,x3.blk (x2.blk y1),x3.blk y2,y3,((s1.ext x1).ext x2).ext x3,((s2.ext x1).ext x2).ext x3,((s3.ext x1).ext x2).ext x3⟩
end Go.Proofs.YtbnhaegidfbgbaaGreatDoor
