/- Copies of coded pictures, cutting and joining lists of them: the reference's. | Layers: TrailingZeros, LayerOf, LayerReference. | DropLayers, both sides. | The binary range coder: plain. | The range coder: the reference's probabilities. | The program's scan order. | The length of a number in bits; rows of decisions and what stays beside them; the decisions for a number. | The range coder: the reference's memory. -/
import Derived.Test.YtmokncpppmchfaaDoorQs3
import Derived.Shelf.Spec.TrailingZeros
import Derived.Lib.BitFns
import Derived.Lib.Strings
import Derived.Lib.Slices
import Derived.Lib.Small
import Derived.Lib.Walk
import Derived.Deep.Cut
import Derived.RangeFuncOwn
import Derived.OneCell
set_option linter.unusedVariables false
set_option linter.unusedSimpArgs false
set_option maxRecDepth 100000
set_option maxHeartbeats 4000000
namespace Go.Proofs.YtmokncpppmchfaaDoor
open Go.RowKit
theorem wpList_appsk {P:Program} (w:World) {ops:Array Oper} {rest:List Oper} {o:Oper} {a:Act} {Q:Exit→Act→World→Prop} {base e:Nat} {v:Value} {n:Nat} {xs:List Value}
 (hw:Region.wanted o (yielded ops a.tmps)=true)
 (hown:w.ownsRow base e 1 v n xs) (hbase:base≤w.heap.size)
 (s x:Operand) (t:TypeId) (ho:o.op= .call { callee := .builtin .append,args := #[s,x],argTypes := #[t,t] })
 (z:Value) (bytes:Nat) (h1:P.underlying t=some (.slice e)) (h2:(P.info? e).map (fun i=>(i.zero,i.size,i.bytes))=some (some z,1,bytes)) (hz1:z.cells.size=1)
 (hs:a.eval s=v) (A:Option Addr) (m c:Nat) (us:List Value) (hx:a.eval x= .slice A m c) (src:Sl w A m us) (hu1:∀ u∈us,u.oneCell'=true)
 (hb:(n+m)*bytes≤140737488355328) (hn:n+m<2^62)
 (h:∀ v' w',w'.ownsRow base e 1 v' (n+m) (xs++us)→w.grownBy w' v.ownBlock→(∀ b' n' own xs',n'≤n→w.ownsRow b' e 1 own n' xs'→w'.ownsRow b' e 1 own n' xs')→wpList P ops Q rest (a.put o.dst v') w'):wpList P ops Q (o::rest) a w:=by
 cases A with
 | none =>
  obtain⟨i0,hi,hz0,hz1',hz2⟩:=info_parts h2;have hm:m=0:=by
   refine Classical.byContradiction fun h0 => ?_
   obtain⟨b,off,ha,-⟩:=src.2 0 (by omega);cases ha
  subst hm;have hus:us = []:=List.eq_nil_of_length_eq_zero src.1;subst hus;refine wpList_want hw fun _ hK => ?_
  have hrun:=run_app_nil (P:=P) w base t o.type e i0 1 h1 hi v n xs hown c;unfold Oper.wp execOp;simp only[ho,resolve,invoke,builtin,Sem.run_bind,Sem.run_pure,Result.andThen_ok,List.map_toArray,List.map_cons,List.map_nil,hs,hx,hrun];exact hK _ _ (h v w (by simpa using hown) (World.grownBy.refl w _) (fun _ _ _ _ _ h=>h))
 | some ad =>
  refine wpList_appk w hw hown hbase s x t ho z bytes h1 h2 hz1 (by decide) hs ad m c us hx (by rw[src.1];omega) ?_ hu1 hb hn h
  by_cases hm:0<m
  ·exact src.cellsOf _ hm
  ·have hus:us = []:=List.eq_nil_of_length_eq_zero (by rw[src.1];omega);subst hus;intro j u hj;simp at hj
/-- A fresh row of bytes is overwritten. -/
theorem SSk.fresh {w w':World} {lo hi n k p b0 n0 c0:Nat} {v:Value} {f:Nat→List Int} {cs x0:List Value} (h:SSk w lo hi v n k f cs) (g:w.grownBy w' (some p)) (hp:hi≤p) (o:w.ownsRow b0 5 1 (.slice (some ⟨p,0,none⟩) n0 c0) n0 x0):SSk w' lo hi v n k f cs:=by
 obtain⟨bs,h1,h2,h3,h4,h5⟩:=h;refine⟨bs,h1.kept g (own_ne2 h1 o (by decide)),h2,h3,h4,fun i hi2 => ?_⟩;obtain⟨a',c',k1,k2,k3⟩:=h5 i hi2;refine⟨a',c',k1,k2.kept g ?_,k3⟩;have:=seq_le h4 (show i+1≤k from hi2) (Nat.le_refl _);cases a' with
 | none=>exact .inl rfl
 | some y=>right;have:=k3 y rfl;simp[Value.ownBlock];omega
theorem l20Copy_any (x y q:Int) (ib:Bool) (a:Option Addr) (n c:Nat) (f:Nat→List Int) (w:World) (hn:n≤1048576) (hL:∀ i,i<n→(f i).length≤1048576) (r:SS w a n (lst n f)) :
 Calls Tryd.prog 20 #[.agg #[.int .i64 x,.int .i64 y,.bool ib,.int .i64 q,.slice a n c]] w fun e w'=>∃ a' c' ss,e= .returned (.agg #[.int .i64 x,.int .i64 y,.bool ib,.int .i64 q,.slice a' n c'])∧SSg w' w.heap.size w'.heap.size (.slice a' n c') n f ss∧Ext w w':=by
 have HL:=Lib.hid hL;clear hL;have p0:=blk_alloc (blk_alloc (blk_new w (.cells #[.int .i64 x,.int .i64 y,.bool ib,.int .i64 q,.slice a n c] 38)) (.cells #[.int .i64 0,.int .i64 0,.bool false,.int .i64 0,.slice none 0 0] 38)) (.cells #[.int .i64 x,.int .i64 y,.bool ib,.int .i64 q,.slice none 0 0] 38);have r0:=blk_alloc (blk_new (w.alloc (.cells #[.int .i64 x,.int .i64 y,.bool ib,.int .i64 q,.slice a n c] 38)) (.cells #[.int .i64 0,.int .i64 0,.bool false,.int .i64 0,.slice none 0 0] 38)) (.cells #[.int .i64 x,.int .i64 y,.bool ib,.int .i64 q,.slice none 0 0] 38);have q0:=blk_new ((w.alloc (.cells #[.int .i64 x,.int .i64 y,.bool ib,.int .i64 q,.slice a n c] 38)).alloc (.cells #[.int .i64 0,.int .i64 0,.bool false,.int .i64 0,.slice none 0 0] 38)) (.cells #[.int .i64 x,.int .i64 y,.bool ib,.int .i64 q,.slice none 0 0] 38);have E0:=((Ext.alloc w (.cells #[.int .i64 x,.int .i64 y,.bool ib,.int .i64 q,.slice a n c] 38)).trans (Ext.alloc _ (.cells #[.int .i64 0,.int .i64 0,.bool false,.int .i64 0,.slice none 0 0] 38))).trans (Ext.alloc _ (.cells #[.int .i64 x,.int .i64 y,.bool ib,.int .i64 q,.slice none 0 0] 38));have hs:(((w.alloc (.cells #[.int .i64 x,.int .i64 y,.bool ib,.int .i64 q,.slice a n c] 38)).alloc (.cells #[.int .i64 0,.int .i64 0,.bool false,.int .i64 0,.slice none 0 0] 38)).alloc (.cells #[.int .i64 x,.int .i64 y,.bool ib,.int .i64 q,.slice none 0 0] 38)).heap.size=w.heap.size+1+1+1:=by simp
 simp only[World.size_alloc]at r0 q0;obtain⟨B,hB⟩:∃ B,B=w.heap.size:=⟨_,rfl⟩;rw[←hB]at p0 r0 q0 hs;have hwB:w.heap.size≤B:=by omega
 have Hst:=Lib.hid (⟨p0,r0,q0,E0,hs⟩:_∧_∧_∧_∧_);have HB:=Lib.hid hB;clear p0 r0 q0 E0 hs;go_enter Tryd.func20,Tryd.ntmps20
 go_wp2_with fail
 rw[←hB];clear hB;go_loopw [4] (fun ix wr=>∃(k:Nat) (vl:Value) (cs:List Value),k≤n∧ix= .int .i64 k∧Ext w wr∧B+3≤wr.heap.size∧wr.heap[B]?=some (.cells #[.int .i64 x,.int .i64 y,.bool ib,.int .i64 q,.slice a n c] 38 (0,0))∧wr.heap[B+1]?=some (.cells #[.int .i64 0,.int .i64 0,.bool false,.int .i64 0,.slice none 0 0] 38 (0,0))∧wr.heap[B+1+1]?=some (.cells #[.int .i64 x,.int .i64 y,.bool ib,.int .i64 q,vl] 38 (0,0))∧SSk wr (B+3) wr.heap.size vl k k f cs) (fun ix _=>n-(intOf ix).toNat)
 case atStart =>
  obtain⟨u1,u2,u3,u4,u5⟩:=Hst.out;exact⟨0,_,[],by omega,rfl,u4,by rw[u5];exact Nat.le_refl _,u1,u2,u3,SSk.nil _ _ _ _ (by rw[u5];exact Nat.le_refl _)⟩
 case round =>
  clear Hst;obtain⟨k,vl,cs,hk,rfl,E2,hsz,p2,r2,q2,S2⟩:=hrel;obtain⟨-,m0,m1,m2,m3,m4⟩:=bx5 p2
  by_cases hlt:k<n
  ·obtain⟨b1,o1,rfl,a2,c2,h1',h2,h3,h4⟩:=r.at hlt;have hfl:=HL.out k hlt;obtain⟨m,hm⟩:∃ m,m=(f k).length:=⟨_,rfl⟩;obtain⟨zs,hxs⟩:∃ zs,zs=f k:=⟨_,rfl⟩;rw[←hm]at h1' h2 h3 hfl;rw[←hxs]at h2;have Hm:=Lib.hid hm;have Hxs:=Lib.hid hxs;clear hm hxs;obtain⟨al,cl,rfl⟩:=owns_form S2.own;obtain⟨HI,hHI⟩:∃ HI,HI=wr.heap.size:=⟨_,rfl⟩;rw[←hHI]at hsz S2;have hHI2:HI≤wr.heap.size:=by omega
   have hvl:∀ q,(Value.slice al k cl).ownBlock=some q→q<HI:=fun q hq=>by rw[hHI];exact(S2.own.lt q hq).2
   clear hHI;have Hsl:=Lib.hid (fun(wz:World) (e:Ext w wz)=>h2.ext e);have H1:=Lib.hid (fun(wz:World) (e:Ext w wz)=>cell_ext e h1');clear h1' h2;go_wp2_with fail
   have hext:Stab (fun wa wb=>Ext wa wb) (fun i own ys wx=>match i with|0=>own= .pointer (some ⟨B+1+1,4,none⟩)|1=>own= .slice al k cl|2=>∃ p:Nat,own= .slice (some ⟨p,0,none⟩) 0 0∧wx.ownsRow HI 5 1 (.slice (some ⟨p,0,none⟩) 0 0) 0 []|3=>own= .pointer (some ⟨B,4,none⟩)|4=>own= .slice (some ⟨b1,o1,none⟩) n c|5=>own= .int .i64 k|6=>own= .pointer (some ⟨b1,o1+k,none⟩)|7=>own= .slice a2 m c2|8=>∃(a1:Option Addr) (c1:Nat),own= .slice a1 m c1∧wx.ownsRow HI 5 1 (.slice a1 m c1) m (zs.map (Value.int .u8))|9=>∃(p:Nat) (a1:Option Addr) (c1:Nat),own= .slice (some ⟨p,0,none⟩) 1 1∧wx.ownsRow HI 30 1 (.slice (some ⟨p,0,none⟩) 1 1) 1 [.slice a1 m c1]∧wx.ownsRow HI 5 1 (.slice a1 m c1) m (zs.map (Value.int .u8))|10=>∃(an:Option Addr) (cc:Nat) (cn:List Value),own= .slice an (k+1) cc∧SSk wx (B+3) wx.heap.size (.slice an (k+1) cc) (k+1) (k+1) f cn|11=>own= .pointer (some ⟨B+1+1,4,none⟩)|12=>∃(an:Option Addr) (cc:Nat) (cn:List Value),wx.heap[B+1+1]?=some (.cells #[.int .i64 x,.int .i64 y,.bool ib,.int .i64 q,.slice an (k+1) cc] 38 (0,0))∧SSk wx (B+3) wx.heap.size (.slice an (k+1) cc) (k+1) (k+1) f cn|_=>True):=by
    intro i own ys wa wb e h
    match i,h with
    | 0,h|1,h|3,h|4,h|5,h|6,h|7,h|11,h=>exact h
    | 2,h=>obtain⟨g,h1,h2⟩:=h;exact⟨g,h1,owns_ext h2 e⟩
    | 8,h=>obtain⟨a9,c9,h1,h2⟩:=h;exact⟨a9,c9,h1,owns_ext h2 e⟩
    | 9,h=>obtain⟨p9,a9,c9,h1,h2,h3⟩:=h;exact⟨p9,a9,c9,h1,owns_ext h2 e,owns_ext h3 e⟩
    | 10,h=>obtain⟨a9,d9,c9,h1,h2⟩:=h;exact⟨a9,d9,c9,h1,(h2.ext e).up e.size⟩
    | 12,h=>obtain⟨a9,d9,c9,h1,h2⟩:=h;exact⟨a9,d9,c9,e.blk h1,(h2.ext e).up e.size⟩
    | _+13,_=>trivial
   have Hext:=Lib.hid hext;clear hext;refine wp_region_invL (by kernel_rfl) [(21,0),(22,1),(23,2),(24,3),(25,4),(26,5),(27,6),(28,7),(29,8),(30,9),(31,10),(32,11)] [[],[0],[],[],[3],[],[3,4,5],[3,4,5,6],[2,3,4,5,6,7],[2,3,4,5,6,7,8],[0,1,2,3,4,5,6,7,8,9],[0,1,2,3,4,5,6,7,8,9,10],[0,1,2,3,4,5,6,7,8,9,10,11]] (fun i own ys wx=>match i with|0=>own= .pointer (some ⟨B+1+1,4,none⟩)|1=>own= .slice al k cl|2=>∃ p:Nat,own= .slice (some ⟨p,0,none⟩) 0 0∧wx.ownsRow HI 5 1 (.slice (some ⟨p,0,none⟩) 0 0) 0 []|3=>own= .pointer (some ⟨B,4,none⟩)|4=>own= .slice (some ⟨b1,o1,none⟩) n c|5=>own= .int .i64 k|6=>own= .pointer (some ⟨b1,o1+k,none⟩)|7=>own= .slice a2 m c2|8=>∃(a1:Option Addr) (c1:Nat),own= .slice a1 m c1∧wx.ownsRow HI 5 1 (.slice a1 m c1) m (zs.map (Value.int .u8))|9=>∃(p:Nat) (a1:Option Addr) (c1:Nat),own= .slice (some ⟨p,0,none⟩) 1 1∧wx.ownsRow HI 30 1 (.slice (some ⟨p,0,none⟩) 1 1) 1 [.slice a1 m c1]∧wx.ownsRow HI 5 1 (.slice a1 m c1) m (zs.map (Value.int .u8))|10=>∃(an:Option Addr) (cc:Nat) (cn:List Value),own= .slice an (k+1) cc∧SSk wx (B+3) wx.heap.size (.slice an (k+1) cc) (k+1) (k+1) f cn|11=>own= .pointer (some ⟨B+1+1,4,none⟩)|12=>∃(an:Option Addr) (cc:Nat) (cn:List Value),wx.heap[B+1+1]?=some (.cells #[.int .i64 x,.int .i64 y,.bool ib,.int .i64 q,.slice an (k+1) cc] 38 (0,0))∧SSk wx (B+3) wx.heap.size (.slice an (k+1) cc) (k+1) (k+1) f cn|_=>True) (fun Lx wx=>(Ext w wx∧HI≤wx.heap.size)∧wx.heap[B]?=some (.cells #[.int .i64 x,.int .i64 y,.bool ib,.int .i64 q,.slice (some ⟨b1,o1,none⟩) n c] 38 (0,0))∧wx.heap[B+1]?=some (.cells #[.int .i64 0,.int .i64 0,.bool false,.int .i64 0,.slice none 0 0] 38 (0,0))∧(∃ z,wx.heap[B+1+1]?=some (.cells #[.int .i64 x,.int .i64 y,.bool ib,.int .i64 q,z] 38 (0,0))∧(Lx 12=false→z= .slice al k cl))∧SSk wx (B+3) HI (.slice al k cl) k k f cs) (by kernel_rfl) (by kernel_rfl) (by kernel_rfl) ?g0_r1 ?gop_r1 ?gend_r1
   case g0_r1=>exact⟨⟨Ext.trans_drewN E2 1,hHI2⟩,p2,r2,⟨_,q2,fun _=>rfl⟩,S2⟩
   case gop_r1 =>
    refine⟨?_,?o1,?o2,?_,?o4,?_,?o6,?o7,?o8,?o9,?o10,?_,?o12,trivial⟩ <;> (intro Lx xs wx hG hl ha hb hD hI Qo Kx hK hQo;simp only[patchS,Nat.reduceAdd,Nat.reduceEqDiff,↓reduceIte]at hQo⊢)
    case o1 =>
     have l12:Lx 12=false:=hb 12 rfl;clear hl ha hb;rw[ddq (hD 0 rfl)]at hQo⊢;clear hD hI;obtain⟨z,g1,g2⟩:=hG.2.2.2.1;obtain rfl:=g2 l12;obtain⟨-,k0,k1,k2,k3,k4⟩:=bx5 g1;go_wp2;exact hK.out _ _ ⟨rfl,hG,kkp⟩
    case o2 =>
     clear hl ha hb hD hI;go_wp2;have e8:=Ext.alloc wx (.cells #[] 5);have o4:=World.ownsRow_made (base:=HI) (e:=5) (size:=1) wx #[] 0 hG.1.2 (by simp) rfl;obtain⟨⟨g1,g2⟩,g3,g4,⟨z,g5,g6⟩,g7⟩:=hG;exact hK.out _ _ ⟨⟨_,rfl,o4⟩,⟨⟨g1.trans e8,Nat.le_trans g2 e8.size⟩,e8.blk g3,e8.blk g4,⟨z,e8.blk g5,g6⟩,g7.ext e8⟩,fun i _ _ _ own ys h=>Hext.out i own ys _ _ e8 h⟩
    case o4 =>
     clear hl ha hb;rw[ddq (hD 3 rfl)]at hQo⊢;clear hD hI;obtain⟨-,k0,k1,k2,k3,k4⟩:=bx5 hG.2.1;go_wp2;exact hK.out _ _ ⟨rfl,hG,kkp⟩
    case o6 =>
     clear hl ha hb;rw[ddq (hD 4 rfl),ddq (hD 5 rfl)]at hQo⊢;clear hD hI;go_wp2;exact hK.out _ _ ⟨rfl,hG,kkp⟩
    case o7 =>
     clear hl ha hb;rw[ddq (hD 6 rfl)]at hQo⊢;clear hD hI;have h1:=H1.out _ hG.1.1;go_wp2;exact hK.out _ _ ⟨rfl,hG,kkp⟩
    case o8 =>
     clear hl ha hb;rw[ddq (hD 7 rfl)]at hQo⊢;have d2:∃ p:Nat,(xs 2) = .slice (some ⟨p,0,none⟩) 0 0∧wx.ownsRow HI 5 1 (.slice (some ⟨p,0,none⟩) 0 0) 0 []:=hD 2 rfl;clear hD hI;generalize xs 2=y2 at *;obtain⟨p2,rfl,o2⟩:=d2;refine wpList_appsk _ rfl o2 hG.1.2 _ _ 30 rfl (.int .u8 0) 1 Tryd.underlying30 info_uint8 rfl rfl a2 m c2 _ rfl (Hsl.out _ hG.1.1) (one_u8j zs) (by omega) (by omega) ?_;intro v14 w14 own14 gr14 keep14;rw[Nat.zero_add,List.nil_append]at own14;obtain⟨a14,c14,rfl⟩:=owns_form own14;have hst:∀(wy:World),(∀ b' n' own xs',n'≤0→wx.ownsRow b' 5 1 own n' xs'→wy.ownsRow b' 5 1 own n' xs')→Stbn 13 8 [[],[0],[],[],[3],[],[3,4,5],[3,4,5,6],[2,3,4,5,6,7],[2,3,4,5,6,7,8],[0,1,2,3,4,5,6,7,8,9],[0,1,2,3,4,5,6,7,8,9,10],[0,1,2,3,4,5,6,7,8,9,10,11]] (fun i own ys wx=>match i with|0=>own= .pointer (some ⟨B+1+1,4,none⟩)|1=>own= .slice al k cl|2=>∃ p:Nat,own= .slice (some ⟨p,0,none⟩) 0 0∧wx.ownsRow HI 5 1 (.slice (some ⟨p,0,none⟩) 0 0) 0 []|3=>own= .pointer (some ⟨B,4,none⟩)|4=>own= .slice (some ⟨b1,o1,none⟩) n c|5=>own= .int .i64 k|6=>own= .pointer (some ⟨b1,o1+k,none⟩)|7=>own= .slice a2 m c2|8=>∃(a1:Option Addr) (c1:Nat),own= .slice a1 m c1∧wx.ownsRow HI 5 1 (.slice a1 m c1) m (zs.map (Value.int .u8))|9=>∃(p:Nat) (a1:Option Addr) (c1:Nat),own= .slice (some ⟨p,0,none⟩) 1 1∧wx.ownsRow HI 30 1 (.slice (some ⟨p,0,none⟩) 1 1) 1 [.slice a1 m c1]∧wx.ownsRow HI 5 1 (.slice a1 m c1) m (zs.map (Value.int .u8))|10=>∃(an:Option Addr) (cc:Nat) (cn:List Value),own= .slice an (k+1) cc∧SSk wx (B+3) wx.heap.size (.slice an (k+1) cc) (k+1) (k+1) f cn|11=>own= .pointer (some ⟨B+1+1,4,none⟩)|12=>∃(an:Option Addr) (cc:Nat) (cn:List Value),wx.heap[B+1+1]?=some (.cells #[.int .i64 x,.int .i64 y,.bool ib,.int .i64 q,.slice an (k+1) cc] 38 (0,0))∧SSk wx (B+3) wx.heap.size (.slice an (k+1) cc) (k+1) (k+1) f cn|_=>True) wx wy:=by
      intro wy hy ii hii hne hc own ys h
      match ii,h with
      | 0,h|1,h|3,h|4,h|5,h|6,h|7,h=>exact h
      | 2,h=>obtain⟨g,h1,h2⟩:=h;exact⟨g,h1,hy _ _ _ _ (Nat.le_refl _) h2⟩
      | 8,h=>exact absurd rfl hne
      | 9,h|10,h|11,h|12,h=>exact absurd hc (by decide)
      | _+13,_=>trivial
     obtain⟨⟨g1,g2⟩,g3,g4,⟨z,g5,g6⟩,g7⟩:=hG;have hp2:=owns_ge o2 p2 rfl;have hE:Ext w w14:=Ext.grown g1 gr14 (fun q hq=>by simp[Value.ownBlock]at hq;omega);exact hQo _ _ (hK.out _ _ ⟨⟨_,_,rfl,own14⟩,⟨⟨hE,Nat.le_trans g2 gr14.size⟩,blk_gr g3 gr14 (own_ne_blk' o2 g3 (by decide)),blk_gr g4 gr14 (own_ne_blk' o2 g4 (by decide)),⟨z,blk_gr g5 gr14 (own_ne_blk' o2 g5 (by decide)),g6⟩,SSk.fresh g7 gr14 hp2 o2⟩,hst _ keep14⟩)
    case o9 =>
     clear hl ha hb;have d8:∃(a1:Option Addr) (c1:Nat),(xs 8) = .slice a1 m c1∧wx.ownsRow HI 5 1 (.slice a1 m c1) m (zs.map (Value.int .u8)):=hD 8 rfl;clear hD hI;generalize xs 8=y8 at *;obtain⟨a1,c1,rfl,o1x⟩:=d8;have e8:=Ext.alloc wx (.cells #[.slice a1 m c1] 30);have o9:=World.ownsRow_lit (base:=HI) (e:=30) (size:=1) wx #[.slice a1 m c1] 1 hG.1.2 (by unfold maxLen;omega) rfl;go_wp2;obtain⟨⟨g1,g2⟩,g3,g4,⟨z,g5,g6⟩,g7⟩:=hG;exact hK.out _ _ ⟨⟨_,_,_,rfl,o9,owns_ext o1x e8⟩,⟨⟨g1.trans e8,Nat.le_trans g2 e8.size⟩,e8.blk g3,e8.blk g4,⟨z,e8.blk g5,g6⟩,g7.ext e8⟩,fun i _ _ _ own ys h=>Hext.out i own ys _ _ e8 h⟩
    case o10 =>
     have l12:Lx 12=false:=hb 12 rfl;clear hl ha hb;rw[ddq (hD 1 rfl)]at hQo⊢;have d9:∃(p:Nat) (a1:Option Addr) (c1:Nat),(xs 9) = .slice (some ⟨p,0,none⟩) 1 1∧wx.ownsRow HI 30 1 (.slice (some ⟨p,0,none⟩) 1 1) 1 [.slice a1 m c1]∧wx.ownsRow HI 5 1 (.slice a1 m c1) m (zs.map (Value.int .u8)):=hD 9 rfl;clear hD hI;generalize xs 9=y9 at *;obtain⟨p4,a4,c4,rfl,q4,o4⟩:=d9;have o9:=hG.2.2.2.2.own;refine wpList_appk _ rfl o9 (Nat.le_trans hsz hG.1.2) _ _ _ rfl (.slice none 0 0) 24 Tryd.underlying36 info_ByteS rfl (by decide) rfl ⟨p4,0,none⟩ 1 1 _ rfl rfl (q4.cells rfl) (by intro u hu;simp at hu;subst hu;rfl) (by omega) (by omega) ?_;intro v14 w14 own14 gr14 keep14;obtain⟨a14,c14,rfl⟩:=owns_form own14;have hst:∀(wy:World),(∀ b' own n' xs',wx.ownsRow b' 5 1 own n' xs'→wy.ownsRow b' 5 1 own n' xs')∧(∀ e' own n' xs',wx.ownsRow HI e' 1 own n' xs'→wy.ownsRow HI e' 1 own n' xs')→Stbn 13 10 [[],[0],[],[],[3],[],[3,4,5],[3,4,5,6],[2,3,4,5,6,7],[2,3,4,5,6,7,8],[0,1,2,3,4,5,6,7,8,9],[0,1,2,3,4,5,6,7,8,9,10],[0,1,2,3,4,5,6,7,8,9,10,11]] (fun i own ys wx=>match i with|0=>own= .pointer (some ⟨B+1+1,4,none⟩)|1=>own= .slice al k cl|2=>∃ p:Nat,own= .slice (some ⟨p,0,none⟩) 0 0∧wx.ownsRow HI 5 1 (.slice (some ⟨p,0,none⟩) 0 0) 0 []|3=>own= .pointer (some ⟨B,4,none⟩)|4=>own= .slice (some ⟨b1,o1,none⟩) n c|5=>own= .int .i64 k|6=>own= .pointer (some ⟨b1,o1+k,none⟩)|7=>own= .slice a2 m c2|8=>∃(a1:Option Addr) (c1:Nat),own= .slice a1 m c1∧wx.ownsRow HI 5 1 (.slice a1 m c1) m (zs.map (Value.int .u8))|9=>∃(p:Nat) (a1:Option Addr) (c1:Nat),own= .slice (some ⟨p,0,none⟩) 1 1∧wx.ownsRow HI 30 1 (.slice (some ⟨p,0,none⟩) 1 1) 1 [.slice a1 m c1]∧wx.ownsRow HI 5 1 (.slice a1 m c1) m (zs.map (Value.int .u8))|10=>∃(an:Option Addr) (cc:Nat) (cn:List Value),own= .slice an (k+1) cc∧SSk wx (B+3) wx.heap.size (.slice an (k+1) cc) (k+1) (k+1) f cn|11=>own= .pointer (some ⟨B+1+1,4,none⟩)|12=>∃(an:Option Addr) (cc:Nat) (cn:List Value),wx.heap[B+1+1]?=some (.cells #[.int .i64 x,.int .i64 y,.bool ib,.int .i64 q,.slice an (k+1) cc] 38 (0,0))∧SSk wx (B+3) wx.heap.size (.slice an (k+1) cc) (k+1) (k+1) f cn|_=>True) wx wy:=by
      intro wy hy ii hii hne hc own ys h
      match ii,h with
      | 0,h|1,h|3,h|4,h|5,h|6,h|7,h=>exact h
      | 2,h=>obtain⟨g,h1,h2⟩:=h;exact⟨g,h1,hy.1 _ _ _ _ h2⟩
      | 8,h=>obtain⟨a9,c9,h1,h2⟩:=h;exact⟨a9,c9,h1,hy.1 _ _ _ _ h2⟩
      | 9,h=>obtain⟨p9,a9,c9,h1,h2,h3⟩:=h;exact⟨p9,a9,c9,h1,hy.2 _ _ _ _ h2,hy.2 _ _ _ _ h3⟩
      | 10,h=>exact absurd rfl hne
      | 11,h|12,h=>exact absurd hc (by decide)
      | _+13,_=>trivial
     obtain⟨⟨g1,g2⟩,g3,g4,⟨z,g5,g6⟩,g7⟩:=hG;have hz:=g6 l12;subst hz;have hk6:=SSk.again g7 gr14 (keep14 _ _ _ _ (Nat.le_refl _) o9);have hE:Ext w w14:=Ext.grown g1 gr14 (fun q hq=>by have:=owns_ge o9 q hq;omega);have hlt4:∀ y,a4=some y→y.block<w14.heap.size:=fun y hy=>Nat.lt_of_lt_of_le (o4.lt y.block (by rw[hy];rfl)).2 gr14.size
     have happ:SSk w14 (B+3) w14.heap.size (.slice a14 (k+1) c14) (k+1) (k+1) f _:=SSk.app (hi':=w14.heap.size) (a1:=a4) (c1:=c4) g7 (by rw[←Hm.out,←Hxs.out];exact o4) (Nat.le_trans g2 gr14.size) hlt4 (by rw[←Hm.out];exact own14) gr14;exact hQo _ _ (hK.out _ _ ⟨⟨_,_,_,rfl,happ⟩,⟨⟨hE,Nat.le_trans g2 gr14.size⟩,blk_gr g3 gr14 (own_ne_blk' o9 g3 (by decide)),blk_gr g4 gr14 (own_ne_blk' o9 g4 (by decide)),⟨_,blk_gr g5 gr14 (own_ne_blk' o9 g5 (by decide)),fun _=>rfl⟩,hk6⟩,hst _ ⟨fun _ _ _ _ h=>u8_kept o9 gr14 h,fun _ _ _ _ h=>own_hi h gr14 hvl⟩⟩)
    case o12 =>
     clear hl ha hb;rw[ddq (hD 11 rfl)]at hQo⊢;have d10:∃(an:Option Addr) (cc:Nat) (cn:List Value),(xs 10) = .slice an (k+1) cc∧SSk wx (B+3) wx.heap.size (.slice an (k+1) cc) (k+1) (k+1) f cn:=hD 10 rfl;clear hD hI;generalize xs 10=y10 at *;obtain⟨a5,d5,c5,rfl,s5⟩:=d10;obtain⟨⟨g1,g2⟩,g3,g4,⟨z,g5,g6⟩,g7⟩:=hG;obtain⟨-,k0,k1,k2,k3,k4⟩:=bx5 g5;obtain⟨f0,f1,f2,f3,f4⟩:=fz5 g5;go_wp2;have hst:∀(wy:World),wx.grownBy wy (some (B+1+1))→Stbn 13 12 [[],[0],[],[],[3],[],[3,4,5],[3,4,5,6],[2,3,4,5,6,7],[2,3,4,5,6,7,8],[0,1,2,3,4,5,6,7,8,9],[0,1,2,3,4,5,6,7,8,9,10],[0,1,2,3,4,5,6,7,8,9,10,11]] (fun i own ys wx=>match i with|0=>own= .pointer (some ⟨B+1+1,4,none⟩)|1=>own= .slice al k cl|2=>∃ p:Nat,own= .slice (some ⟨p,0,none⟩) 0 0∧wx.ownsRow HI 5 1 (.slice (some ⟨p,0,none⟩) 0 0) 0 []|3=>own= .pointer (some ⟨B,4,none⟩)|4=>own= .slice (some ⟨b1,o1,none⟩) n c|5=>own= .int .i64 k|6=>own= .pointer (some ⟨b1,o1+k,none⟩)|7=>own= .slice a2 m c2|8=>∃(a1:Option Addr) (c1:Nat),own= .slice a1 m c1∧wx.ownsRow HI 5 1 (.slice a1 m c1) m (zs.map (Value.int .u8))|9=>∃(p:Nat) (a1:Option Addr) (c1:Nat),own= .slice (some ⟨p,0,none⟩) 1 1∧wx.ownsRow HI 30 1 (.slice (some ⟨p,0,none⟩) 1 1) 1 [.slice a1 m c1]∧wx.ownsRow HI 5 1 (.slice a1 m c1) m (zs.map (Value.int .u8))|10=>∃(an:Option Addr) (cc:Nat) (cn:List Value),own= .slice an (k+1) cc∧SSk wx (B+3) wx.heap.size (.slice an (k+1) cc) (k+1) (k+1) f cn|11=>own= .pointer (some ⟨B+1+1,4,none⟩)|12=>∃(an:Option Addr) (cc:Nat) (cn:List Value),wx.heap[B+1+1]?=some (.cells #[.int .i64 x,.int .i64 y,.bool ib,.int .i64 q,.slice an (k+1) cc] 38 (0,0))∧SSk wx (B+3) wx.heap.size (.slice an (k+1) cc) (k+1) (k+1) f cn|_=>True) wx wy:=by
      intro wy hy ii hii hne hc own ys h
      match ii,h with
      | 0,h|1,h|3,h|4,h|5,h|6,h|7,h|11,h=>exact h
      | 2,h=>obtain⟨g,h1,h2⟩:=h;exact⟨g,h1,own_gr h2 hy (by omega)⟩
      | 8,h=>obtain⟨a9,c9,h1,h2⟩:=h;exact⟨a9,c9,h1,own_gr h2 hy (by omega)⟩
      | 9,h=>obtain⟨p9,a9,c9,h1,h2,h3⟩:=h;exact⟨p9,a9,c9,h1,own_gr h2 hy (by omega),own_gr h3 hy (by omega)⟩
      | 10,h=>obtain⟨a9,d9,c9,h1,h2⟩:=h;exact⟨a9,d9,c9,h1,(SSk.gr h2 hy (by omega)).up hy.size⟩
      | 12,h=>exact absurd rfl hne
      | _+13,_=>trivial
     have hb:=heap_setCell_same wx (B+1+1) 4 _ _ (.slice a5 (k+1) d5) g5;have gB:=gs1 wx (B+1+1) 4 (.slice a5 (k+1) d5);have hE:Ext w (wx.setCell ⟨B+1+1,4,none⟩ (.slice a5 (k+1) d5)):=Ext.grown g1 gB (fun q hq=>by cases hq;omega);exact hQo undef _ (hK.out _ _ ⟨⟨a5,d5,c5,by simpa using hb,(SSk.gr s5 gB (by omega)).up gB.size⟩,⟨⟨hE,Nat.le_trans g2 gB.size⟩,blk_gr g3 gB (by simp;omega),blk_gr g4 gB (by simp),⟨_,by simpa using hb,fun h=>by cases h⟩,SSk.gr g7 gB (by omega)⟩,hst _ gB⟩)
    all_goals
     clear hl ha hb hD hI;go_wp2;exact hK.out _ _ ⟨rfl,hG,kkp⟩
   clear Hext;intro xs wx hV hG0;obtain⟨Lx,hL,hG⟩:=hG0;have l12:Lx 12=true:=hL 12 (by decide);clear hL;have d12:∃(an:Option Addr) (cc:Nat) (cn:List Value),wx.heap[B+1+1]?=some (.cells #[.int .i64 x,.int .i64 y,.bool ib,.int .i64 q,.slice an (k+1) cc] 38 (0,0))∧SSk wx (B+3) wx.heap.size (.slice an (k+1) cc) (k+1) (k+1) f cn:=hV 12 (by decide);clear hV;simp only[patchS,Nat.reduceAdd,Nat.reduceEqDiff,↓reduceIte];generalize xs 0=y0,xs 1=y1,xs 2=y2,xs 3=y3,xs 4=y4,xs 5=y5,xs 6=y6,xs 7=y7,xs 8=y8,xs 9=y9,xs 10=y10,xs 11=y11,xs 12=y12 at *
   replace hG:(Ext w wx∧HI≤wx.heap.size)∧wx.heap[B]?=some (.cells #[.int .i64 x,.int .i64 y,.bool ib,.int .i64 q,.slice (some ⟨b1,o1,none⟩) n c] 38 (0,0))∧wx.heap[B+1]?=some (.cells #[.int .i64 0,.int .i64 0,.bool false,.int .i64 0,.slice none 0 0] 38 (0,0))∧(∃ z,wx.heap[B+1+1]?=some (.cells #[.int .i64 x,.int .i64 y,.bool ib,.int .i64 q,z] 38 (0,0))∧(Lx 12=false→z= .slice al k cl))∧SSk wx (B+3) HI (.slice al k cl) k k f cs:=hG
   obtain⟨a7,d7,c7,p7,s7⟩:=d12;have HS7:=Lib.hid s7;have HG:=Lib.hid hG;have HP:=Lib.hid p7;clear hG s7 S2 E2 p2 r2 q2 h3 h4;go_wp2;go_roundw
   case rel=>exact⟨k+1,_,c7,by omega,by go_num,HG.out.1.1,Nat.le_trans hsz HG.out.1.2,HG.out.2.1,HG.out.2.2.1,HP.out,HS7.out⟩
   case measure=>simp[intOf];omega
  ·obtain rfl:k=n:=by omega
   obtain⟨al,cl,rfl⟩:=owns_form S2.own;obtain⟨-,k0,k1,k2,k3,k4⟩:=bx5 q2;obtain⟨-,j0,j1,j2,j3,j4⟩:=bx5 r2;obtain⟨f0,f1,f2,f3,f4⟩:=fz5 r2;have R2:=Lib.hid r2;have HS:=Lib.hid S2;clear S2 r2;go_wp2;refine bodyPost_ret (v := .agg #[.int .i64 x,.int .i64 y,.bool ib,.int .i64 q,.slice al k cl]) (results_cell_row rfl _ _ (B+1) 38 #[.int .i64 x,.int .i64 y,.bool ib,.int .i64 q,.slice al k cl] (0,0) _ rfl (blk_set5 R2.out) Tryd.underlying38 rfl size_Coded) rfl ⟨_,_,cs,rfl,?_,?_⟩
   ·have hg:=gs5 wr (B+1) 0 1 2 3 4 (.int .i64 x) (.int .i64 y) (.bool ib) (.int .i64 q) (.slice al k cl);exact((SSk.gr HS.out hg (by omega)).mono (by omega)).up hg.size
   ·exact Ext.grown E2 (gs5 wr (B+1) 0 1 2 3 4 (.int .i64 x) (.int .i64 y) (.bool ib) (.int .i64 q) (.slice al k cl)) (fun p hp=>by cases hp;omega)
/-- The table of math/bits lies in its variable. -/
def Tab (w:World):Prop:=∀ j,j<64→w.cell? ⟨1,j,none⟩=some (.int .u8 (Lib.deBruijn64tab.getD j 0))
theorem Tab.ext {w w':World} (h:Tab w) (e:Ext w w'):Tab w':=fun j hj=>cell_ext e (h j hj)
theorem tz64_core (x k idx:Nat) (w:World) (hx0:((x:Int) == 0)=false)
 (key:IntKind.u64.wrap (bits BinOp.and IntKind.u64 (x:Int) (IntKind.u64.wrap (-(x:Int)))*285870213051353865)/288230376151711744=(idx:Int))
 (hi:idx<64) (hk:k<64) (hcell:w.cell? ⟨1,idx,none⟩=some (.int .u8 k)) :
 Calls Tryd.prog 41 #[.int .u64 x] w fun e w'=>e= .returned (.int .i64 k)∧w=w':=by
 go_enter Tryd.func41,Tryd.ntmps41
 go_wp2_with (simp only[key])
 go_ret
 exact⟨rfl,rfl⟩
theorem tz64_zero (w:World) :
 Calls Tryd.prog 41 #[.int .u64 0] w fun e w'=>e= .returned (.int .i64 64)∧w=w':=by
 go_enter Tryd.func41,Tryd.ntmps41
 go_wp2;go_ret
 exact⟨rfl,rfl⟩
theorem tz64_any (x:Nat) (hx:x<18446744073709551616) (w:World) (hT:Tab w) :
 Calls Tryd.prog 41 #[.int .u64 x] w fun e w'=>e= .returned (.int .i64 (Lib.ctz 64 x))∧w=w':=by
 by_cases hx0:x=0
 ·subst hx0;exact tz64_zero w
 ·obtain⟨hlow,hk⟩:=Lib.lowest_bit 64 x hx0 hx;obtain⟨hi,htab⟩:=Lib.deBruijn64_at _ hk;have hcell:=hT _ hi;rw[htab]at hcell;exact tz64_core x _ _ w (by simp;omega) (tz64_key x _ hx hx0 hlow) hi hk hcell
theorem tz_any (x:Nat) (hx:x<9223372036854775808) (w:World) (hT:Tab w) :
 Calls Tryd.prog 29 #[.int .u64 x] w fun e w'=>e= .returned (.int .i64 (Lib.ctz 64 x))∧w=w':=by
 have hw:IntKind.u64.wrap (x:Int)=(x:Int):=by rw[IntKind.wrap_u64];omega
 go_enter Tryd.func29,Tryd.ntmps29
 go_wp2_with fail
 refine(tz64_any x (by omega) _ hT).mono ?_
 rintro e w1 ⟨rfl,rfl⟩
 go_wp2;go_ret
 exact⟨rfl,rfl⟩
theorem ctz_iff (x k:Nat) (hx:x<2^64) (hk:k≤64):2^k ∣ x↔k≤Lib.ctz 64 x:=by
 unfold Lib.ctz
 by_cases h0:x=0
 ·subst h0;simp[hk]
 ·rw[if_neg h0];obtain⟨m,h1,h2⟩:=Lib.ctzFrom_spec 64 x (by omega) hx;generalize Lib.ctzFrom 64 x=c at *
  constructor
  ·intro hd;refine Classical.byContradiction fun hlt => ?_
   have h3:2^(c+1) ∣ x:=Nat.dvd_trans (Nat.pow_dvd_pow 2 (by omega)) hd;rw[h1,Nat.pow_succ]at h3;have h4:=Nat.dvd_of_mul_dvd_mul_left (Nat.pow_pos (by decide:0<2)) h3;omega
  ·intro hle;rw[h1];exact Nat.dvd_trans (Nat.pow_dvd_pow 2 hle) (Nat.dvd_mul_right _ _)
/-- What LayerOf returns. -/
def layerN (x l:Nat):Nat:=(l-1)-Lib.ctz 64 x
def layerOf (x l:Int):Int:=if x<0∨l<1∨4<l then -1 else(layerN x.toNat l.toNat:Nat)
theorem layersValid_any (l:Int) (w:World) :
 Calls Tryd.prog 22 #[.int .i64 l] w fun e w'=>e= .returned (.bool (decide (1≤l∧l≤4)))∧w=w':=by
 by_cases h1:1≤l
 ·by_cases h2:l≤4
  ·rw[decide_eq_true ⟨h1,h2⟩];go_enter Tryd.func22,Tryd.ntmps22
   go_wp2;go_ret
   exact⟨by simp,rfl⟩
  ·rw[decide_eq_false (by omega)];go_enter Tryd.func22,Tryd.ntmps22
   go_wp2;go_ret
   exact⟨by simp;try omega,rfl⟩
 ·rw[decide_eq_false (by omega)];go_enter Tryd.func22,Tryd.ntmps22
  go_wp2;go_ret
  exact⟨by simp;try omega,rfl⟩
theorem layersValid_t (l:Int) (w:World) (h1:1≤l) (h2:l≤4) :
 Calls Tryd.prog 22 #[.int .i64 l] w fun e w'=>e= .returned (.bool true)∧w=w':=by
 refine(layersValid_any l w).mono ?_
 rintro e w' ⟨rfl,rfl⟩
 exact⟨by rw[decide_eq_true ⟨h1,h2⟩],rfl⟩
theorem layersValid_f (l:Int) (w:World) (h:l<1∨4<l) :
 Calls Tryd.prog 22 #[.int .i64 l] w fun e w'=>e= .returned (.bool false)∧w=w':=by
 refine(layersValid_any l w).mono ?_
 rintro e w' ⟨rfl,rfl⟩
 exact⟨by rw[decide_eq_false (by omega)],rfl⟩
theorem ctz_le (x:Nat) (hx:x<9223372036854775808):Lib.ctz 64 x≤64:=by
 unfold Lib.ctz
 split
 ·omega
 ·obtain⟨m,h1,h2⟩:=Lib.ctzFrom_spec 64 x (by omega) (by omega);omega
theorem impl_LayerOf_yes (x l:Nat) (w:World) (hT:Tab w) (hx:x<9223372036854775808) (h1:1≤l) (h2:l≤4) :
 Calls Tryd.prog 15 #[.int .i64 x,.int .i64 l] w fun e w'=>e= .returned (.int .i64 (layerN x l:Nat))∧w=w':=by
 have hw:IntKind.u64.wrap (x:Int)=(x:Int):=by rw[IntKind.wrap_u64];omega
 have hc:=ctz_le x hx;unfold layerN;go_enter Tryd.func15,Tryd.ntmps15
 go_wp2_with fail
 refine(layersValid_t _ _ (by omega) (by omega)).mono ?_
 rintro e w1 ⟨rfl,rfl⟩
 go_wp2_with fail
 refine(tz_any x hx _ hT).mono ?_
 rintro e w1 ⟨rfl,rfl⟩
 go_wp2;all_goals
  go_ret
  exact⟨ret_int (by omega),rfl⟩
/-- The first place from n on at which the power divides. -/
theorem layerN_eq {x l n:Nat} (hx:x<9223372036854775808) (hn:n≤l-1) (hl:l≤4) (h0:n=0∨x%2^(l-n)≠0) (h1:x%2^(l-1-n)=0) (h3:1≤l):layerN x l=n:=by
 unfold layerN;have a:=ctz_iff x (l-1-n) (by omega) (by omega);have b:=ctz_iff x (l-n) (by omega) (by omega);rw[Nat.dvd_iff_mod_eq_zero]at a b;have c:=a.1 h1;rcases h0 with h0|h0
 ·subst h0;omega
 ·have : ¬ l-n≤Lib.ctz 64 x:=fun h=>h0 (b.2 h)
  omega
theorem spec_LayerOf_l1 (x:Nat) (w:World) (hx:x<9223372036854775808) :
 Calls Tryd.prog 19 #[.int .i64 x,.int .i64 1] w fun e w'=>e= .returned (.int .i64 (layerN x 1:Nat))∧w=w':=by
 have q0:x%1=0→layerN x 1=0:=fun b=>layerN_eq hx (by decide) (by decide) (.inl rfl) b (by decide)
 have Q0:=Lib.hid q0;clear q0;go_enter Tryd.func19,Tryd.ntmps19
 go_wp2_with fail
 refine(l1In_yes _ _ _ _ (by omega) (by omega)).mono ?_
 rintro e w1 ⟨rfl,rfl⟩
 go_wp2_with fail
 go_loop [5] (fun i=>(i= .int .i64 0)) (fun i=>10-(intOf i).toNat)
 case atStart=>exact rfl
 case round =>
  subst hrel;go_wp2;go_ret
  exact⟨ret_int (by rw[Q0.out (by omega)];rfl),rfl⟩
theorem spec_LayerOf_l2 (x:Nat) (w:World) (hx:x<9223372036854775808) :
 Calls Tryd.prog 19 #[.int .i64 x,.int .i64 2] w fun e w'=>e= .returned (.int .i64 (layerN x 2:Nat))∧w=w':=by
 have q0:x%2=0→layerN x 2=0:=fun b=>layerN_eq hx (by decide) (by decide) (.inl rfl) b (by decide)
 have Q0:=Lib.hid q0;clear q0;have q1:x%2≠0→x%1=0→layerN x 2=1:=fun a b=>layerN_eq hx (by decide) (by decide) (.inr a) b (by decide)
 have Q1:=Lib.hid q1;clear q1;go_enter Tryd.func19,Tryd.ntmps19
 go_wp2_with fail
 refine(l1In_yes _ _ _ _ (by omega) (by omega)).mono ?_
 rintro e w1 ⟨rfl,rfl⟩
 go_wp2_with fail
 go_loop [5] (fun i=>(i= .int .i64 0)∨(i= .int .i64 1∧Hid (x%2≠0))) (fun i=>10-(intOf i).toNat)
 case atStart=>exact .inl rfl
 case round =>
  rcases hrel with rfl|⟨rfl,hp⟩
  ·by_cases hz:x%2=0
   ·have hb:((x:Int)%2 != 0)=false:=by simp;omega
    have Hz:=Lib.hid hz;clear hz;go_wp2;go_ret
    have hz:=Hz.out;exact⟨ret_int (by rw[Q0.out (by omega)];rfl),rfl⟩
   ·have hb:((x:Int)%2 != 0)=true:=by simp;omega
    have Hz:=Lib.hid hz;clear hz;go_wp2;go_round
    case rel=>have hz:=Hz.out;exact .inr (⟨rfl,Lib.hid (by omega)⟩)
    case measure=>simp[intOf]
  ·go_wp2;go_ret
   exact⟨ret_int (by rw[Q1.out hp.out (by omega)];rfl),rfl⟩
theorem spec_LayerOf_l3 (x:Nat) (w:World) (hx:x<9223372036854775808) :
 Calls Tryd.prog 19 #[.int .i64 x,.int .i64 3] w fun e w'=>e= .returned (.int .i64 (layerN x 3:Nat))∧w=w':=by
 have q0:x%4=0→layerN x 3=0:=fun b=>layerN_eq hx (by decide) (by decide) (.inl rfl) b (by decide)
 have Q0:=Lib.hid q0;clear q0;have q1:x%4≠0→x%2=0→layerN x 3=1:=fun a b=>layerN_eq hx (by decide) (by decide) (.inr a) b (by decide)
 have Q1:=Lib.hid q1;clear q1;have q2:x%2≠0→x%1=0→layerN x 3=2:=fun a b=>layerN_eq hx (by decide) (by decide) (.inr a) b (by decide)
 have Q2:=Lib.hid q2;clear q2;go_enter Tryd.func19,Tryd.ntmps19
 go_wp2_with fail
 refine(l1In_yes _ _ _ _ (by omega) (by omega)).mono ?_
 rintro e w1 ⟨rfl,rfl⟩
 go_wp2_with fail
 go_loop [5] (fun i=>(i= .int .i64 0)∨(i= .int .i64 1∧Hid (x%4≠0))∨(i= .int .i64 2∧Hid (x%2≠0))) (fun i=>10-(intOf i).toNat)
 case atStart=>exact .inl rfl
 case round =>
  rcases hrel with rfl|⟨rfl,hp⟩|⟨rfl,hp⟩
  ·by_cases hz:x%4=0
   ·have hb:((x:Int)%4 != 0)=false:=by simp;omega
    have Hz:=Lib.hid hz;clear hz;go_wp2;go_ret
    have hz:=Hz.out;exact⟨ret_int (by rw[Q0.out (by omega)];rfl),rfl⟩
   ·have hb:((x:Int)%4 != 0)=true:=by simp;omega
    have Hz:=Lib.hid hz;clear hz;go_wp2;go_round
    case rel=>have hz:=Hz.out;exact .inr (.inl ⟨rfl,Lib.hid (by omega)⟩)
    case measure=>simp[intOf]
  ·by_cases hz:x%2=0
   ·have hb:((x:Int)%2 != 0)=false:=by simp;omega
    have Hz:=Lib.hid hz;clear hz;go_wp2;go_ret
    have hz:=Hz.out;exact⟨ret_int (by rw[Q1.out hp.out (by omega)];rfl),rfl⟩
   ·have hb:((x:Int)%2 != 0)=true:=by simp;omega
    have Hz:=Lib.hid hz;clear hz;go_wp2;go_round
    case rel=>have hz:=Hz.out;exact .inr (.inr (⟨rfl,Lib.hid (by omega)⟩))
    case measure=>simp[intOf]
  ·go_wp2;go_ret
   exact⟨ret_int (by rw[Q2.out hp.out (by omega)];rfl),rfl⟩
theorem spec_LayerOf_l4 (x:Nat) (w:World) (hx:x<9223372036854775808) :
 Calls Tryd.prog 19 #[.int .i64 x,.int .i64 4] w fun e w'=>e= .returned (.int .i64 (layerN x 4:Nat))∧w=w':=by
 have q0:x%8=0→layerN x 4=0:=fun b=>layerN_eq hx (by decide) (by decide) (.inl rfl) b (by decide)
 have Q0:=Lib.hid q0;clear q0;have q1:x%8≠0→x%4=0→layerN x 4=1:=fun a b=>layerN_eq hx (by decide) (by decide) (.inr a) b (by decide)
 have Q1:=Lib.hid q1;clear q1;have q2:x%4≠0→x%2=0→layerN x 4=2:=fun a b=>layerN_eq hx (by decide) (by decide) (.inr a) b (by decide)
 have Q2:=Lib.hid q2;clear q2;have q3:x%2≠0→x%1=0→layerN x 4=3:=fun a b=>layerN_eq hx (by decide) (by decide) (.inr a) b (by decide)
 have Q3:=Lib.hid q3;clear q3;go_enter Tryd.func19,Tryd.ntmps19
 go_wp2_with fail
 refine(l1In_yes _ _ _ _ (by omega) (by omega)).mono ?_
 rintro e w1 ⟨rfl,rfl⟩
 go_wp2_with fail
 go_loop [5] (fun i=>(i= .int .i64 0)∨(i= .int .i64 1∧Hid (x%8≠0))∨(i= .int .i64 2∧Hid (x%4≠0))∨(i= .int .i64 3∧Hid (x%2≠0))) (fun i=>10-(intOf i).toNat)
 case atStart=>exact .inl rfl
 case round =>
  rcases hrel with rfl|⟨rfl,hp⟩|⟨rfl,hp⟩|⟨rfl,hp⟩
  ·by_cases hz:x%8=0
   ·have hb:((x:Int)%8 != 0)=false:=by simp;omega
    have Hz:=Lib.hid hz;clear hz;go_wp2;go_ret
    have hz:=Hz.out;exact⟨ret_int (by rw[Q0.out (by omega)];rfl),rfl⟩
   ·have hb:((x:Int)%8 != 0)=true:=by simp;omega
    have Hz:=Lib.hid hz;clear hz;go_wp2;go_round
    case rel=>have hz:=Hz.out;exact .inr (.inl ⟨rfl,Lib.hid (by omega)⟩)
    case measure=>simp[intOf]
  ·by_cases hz:x%4=0
   ·have hb:((x:Int)%4 != 0)=false:=by simp;omega
    have Hz:=Lib.hid hz;clear hz;go_wp2;go_ret
    have hz:=Hz.out;exact⟨ret_int (by rw[Q1.out hp.out (by omega)];rfl),rfl⟩
   ·have hb:((x:Int)%4 != 0)=true:=by simp;omega
    have Hz:=Lib.hid hz;clear hz;go_wp2;go_round
    case rel=>have hz:=Hz.out;exact .inr (.inr (.inl ⟨rfl,Lib.hid (by omega)⟩))
    case measure=>simp[intOf]
  ·by_cases hz:x%2=0
   ·have hb:((x:Int)%2 != 0)=false:=by simp;omega
    have Hz:=Lib.hid hz;clear hz;go_wp2;go_ret
    have hz:=Hz.out;exact⟨ret_int (by rw[Q2.out hp.out (by omega)];rfl),rfl⟩
   ·have hb:((x:Int)%2 != 0)=true:=by simp;omega
    have Hz:=Lib.hid hz;clear hz;go_wp2;go_round
    case rel=>have hz:=Hz.out;exact .inr (.inr (.inr (⟨rfl,Lib.hid (by omega)⟩)))
    case measure=>simp[intOf]
  ·go_wp2;go_ret
   exact⟨ret_int (by rw[Q3.out hp.out (by omega)];rfl),rfl⟩
theorem spec_LayerOf_yes (x l:Nat) (w:World) (hx:x<9223372036854775808) (h1:1≤l) (h2:l≤4) :
 Calls Tryd.prog 19 #[.int .i64 x,.int .i64 l] w fun e w'=>e= .returned (.int .i64 (layerN x l:Nat))∧w=w':=by
 have hl:l=1∨l=2∨l=3∨l=4:=by omega
 rcases hl with rfl|rfl|rfl|rfl
 ·exact spec_LayerOf_l1 x w hx
 ·exact spec_LayerOf_l2 x w hx
 ·exact spec_LayerOf_l3 x w hx
 ·exact spec_LayerOf_l4 x w hx
/-- What is left of coded pictures. -/
def dropR (r:Nat→Cd) (l:Nat) (K:Int) (i:Nat):Cd:=if((layerN i l:Nat):Int)≤K then r i else cd0
theorem dropR_y {r:Nat→Cd} {l:Nat} {K:Int} {i:Nat} (h:((layerN i l:Nat):Int)≤K):dropR r l K i=r i:=if_pos h
theorem dropR_n {r:Nat→Cd} {l:Nat} {K:Int} {i:Nat} (h : ¬ ((layerN i l:Nat):Int)≤K):dropR r l K i=cd0:=if_neg h
theorem sumN_le {g h:Nat→Nat} (e:∀ i,g i≤h i):∀ n,sumN g n≤sumN h n
 | 0=>Nat.le_refl _
 | n+1=>Nat.add_le_add (sumN_le e n) (e n)
theorem okC.drop {r:Nat→Cd} {n:Nat} (h:okC r n) (l:Nat) (K:Int):okC (dropR r l K) n:=by
 refine⟨h.1,Nat.le_trans (sumN_le (fun i => ?_) n) h.2⟩;show szC (dropR r l K i)≤szC (r i);unfold dropR
 split
 ·exact Nat.le_refl _
 ·exact Nat.zero_le _
theorem made_at {z:Array Value} (h:z.size=5) {i j n:Nat} (hi:i<n) (hj:j<5):(madeCells z (n*5)).toList[i*5+j]?=some z[j]!:=by
 have h1:i*5+j<n*5:=by omega
 have h2:(i*5+j)%5=j:=by omega
 simp[madeCells,h1,h,h2]
theorem rc_zero {i n:Nat} (hi:i<n):RC (madeCells #[.int .i64 0,.int .i64 0,.bool false,.int .i64 0,.slice none 0 0] (n*5)).toList (i*5) cd0 none 0:=by
 refine⟨made_at rfl hi (by omega:0<5),made_at rfl hi (by omega:1<5),made_at rfl hi (by omega:2<5),made_at rfl hi (by omega:3<5),made_at rfl hi (by omega:4<5)⟩
theorem RC.far {cs:List Value} {o q:Nat} {x:Cd} {a:Option Addr} {c:Nat} {u0 u1 u2 u3 u4:Value} (h:RC cs q x a c) (hq:q+4<o∨o+4<q):RC (((((cs.set o u0).set (o+1) u1).set (o+2) u2).set (o+3) u3).set (o+4) u4) q x a c:=by
 obtain⟨h0,h1,h2,h3,h4⟩:=h;refine⟨?_,?_,?_,?_,?_⟩ <;> (rw[List.getElem?_set_ne (by omega),List.getElem?_set_ne (by omega),List.getElem?_set_ne (by omega),List.getElem?_set_ne (by omega),List.getElem?_set_ne (by omega)];assumption)
theorem spec_DropLayers_yes (a:Option Addr) (n c l:Nat) (y:Int) (r:Nat→Cd) (w:World) (ok:okC r n) (R:CP w a n r) (hn:n≤8) (hl1:1≤l) (hl2:l≤4) :
 Calls Tryd.prog 6 #[.slice a n c,.int .i64 l,.int .i64 y] w fun e w'=>∃ a' c' cs,e= .returned (.slice a' n c')∧CE w' w.heap.size w'.heap.size (.slice a' n c') n n (dropR r l y) cs∧Ext w w':=by
 have Hok:=Lib.hid ok;clear ok;go_enter Tryd.func6,Tryd.ntmps6
 go_wp2_with fail
 refine(l1In_yes _ _ _ _ (by omega) (by omega)).mono ?_
 rintro e w' ⟨rfl,rfl⟩
 go_wp2_with fail
 have EA:=Ext.alloc w (.cells #[] 38);have oA:=World.ownsRow_made (base:=w.heap.size) (e:=38) (size:=5) w #[] 0 (Nat.le_refl _) (by simp) rfl;have hsA:=EA.size;have hcl0:=hsA;go_loopw [7,8] (fun v ix wr=>∃(k:Nat) (cs:List Value),k≤n∧ix= .int .i64 (k:Nat)∧Ext w wr∧w.heap.size≤wr.heap.size∧CE wr w.heap.size wr.heap.size v k k (dropR r l y) cs) (fun _ ix _=>n-(intOf ix).toNat)
 case atStart=>exact⟨0,_,by omega,rfl,EA,hsA,CE.zero _ oA hsA⟩
 case round =>
  obtain⟨k,cs,hk,rfl,E2,hs2,S2⟩:=hrel;clear EA oA hsA hcl0;obtain⟨al,cl,rfl⟩:=owns_form S2.own
  by_cases hlt:k<n
  ·obtain⟨C,hC⟩:∃ C,C=wr.heap.size:=⟨_,rfl⟩;have p1:=blk_new wr (.cells #[.int .i64 0,.int .i64 0,.bool false,.int .i64 0,.slice none 0 0] 38);rw[←hC]at p1;have E3:=Ext.alloc wr (.cells #[.int .i64 0,.int .i64 0,.bool false,.int .i64 0,.slice none 0 0] 38);have hC4:C<(wr.alloc (.cells #[.int .i64 0,.int .i64 0,.bool false,.int .i64 0,.slice none 0 0] 38)).heap.size:=by simp;omega
   have Hq:=Lib.hid (⟨p1,E3,hC4⟩:_∧_∧_);clear p1 E3 hC4;go_upto_region 8 with fail
   obtain⟨p1,E3,hC4⟩:=Hq.out;clear Hq;rw[←hC];have hCw:wr.heap.size≤C:=by omega
   have HCe:=Lib.hid hC;clear hC;generalize wr.alloc (.cells #[.int .i64 0,.int .i64 0,.bool false,.int .i64 0,.slice none 0 0] 38)=w3 at *;go_wp2_with fail
   refine(spec_LayerOf_yes k l _ (by omega) hl1 hl2).mono ?_
   rintro e w4 ⟨rfl,rfl⟩
   by_cases hL:((layerN k l:Nat):Int)≤y
   ·have hd:=dropR_y (r:=r) hL;have HL:=Lib.hid hL;obtain⟨b1,o1,rfl,a2,c2,⟨h1',h2',h3',h4',h5'⟩,h6,h7,h8⟩:=R k hlt;have E23:=E2.trans E3;have h1:=cell_ext E23 h1';have h2:=cell_ext E23 h2';have h3:=cell_ext E23 h3';have h4:=cell_ext E23 h4';have h5:=cell_ext E23 h5';have hok:=Hok.out.at hlt;have Hcl:=Lib.hid (fun(wz:World) (e:Ext w wz)=>l20Copy_any (r k).w (r k).h (r k).q (r k).i a2 (r k).n c2 (r k).f wz hok.1 (fun i hi=>by have:=sumN_mem (g:=ln (r k).f) hi;simp only[ln]at this;omega) (h6.ext e));obtain⟨P,hP⟩:∃ P,P=r k:=⟨_,rfl⟩;have HP:=Lib.hid (show dropR r l y k=P by rw[hd,hP]);rw[←hP]at h1 h2 h3 h4 h5 Hcl;obtain⟨xw,xh,xi,xq,m,f⟩:=P;simp only at h1 h2 h3 h4 h5 Hcl;have hdc:decide (((layerN k l:Nat):Int)≤y)=true:=by simpa using hL
    clear h6 h7 h8 hP hok h1' h2' h3' h4' h5' hd hL;go_wp2_with fail
    refine(Hcl.out _ E23).mono ?_
    rintro e w2 ⟨a3,c3,ss,rfl,s3,e3⟩
    have p2:=e3.blk p1;have p3:=blk_set5 (y0 := .int .i64 xw) (y1 := .int .i64 xh) (y2 := .bool xi) (y3 := .int .i64 xq) (y4 := .slice a3 m c3) p2;have g3:=gs5 w2 C 0 1 2 3 4 (.int .i64 xw) (.int .i64 xh) (.bool xi) (.int .i64 xq) (.slice a3 m c3);have E4:Ext wr _:=Ext.grown (E3.trans e3) g3 (fun q e=>by cases e;omega);have s4:=SSk.gr s3 g3 hC4;have s5:=s4.mono E3.size;obtain⟨fq0,fq1,fq2,fq3,fq4⟩:=fz5 p2;obtain⟨-,q0,q1,q2,q3,q4⟩:=bx5 p2;have HH:=Lib.hid (⟨p3,g3.size,E4,s5⟩:_∧_∧_∧_);clear p1 p3 g3 E4 s4 s5 h1 h2 h3 h4 h5 s3;go_upto_region 10 with fail
    clear fq0 fq1 fq2 fq3 fq4 q0 q1 q2 q3 q4 p2;obtain⟨p3,g3,E4,s5⟩:=HH.out;clear HH;have s6:=s5.up g3;generalize World.setCell _ _ _=w5 at *;obtain⟨-,q0,q1,q2,q3,q4⟩:=bx5 p3;have S3:=S2.ext E4;have hs3:w.heap.size≤w5.heap.size:=Nat.le_trans hs2 E4.size;have E5:=E2.trans E4;have o3:=S3.own;have H3:=Lib.hid S3;have H4:=Lib.hid s6;have hsz3:=E4.size;clear e3 s5 s6 S3 S2 E2 E3 E23 E4 p3 g3;go_wp2_with (at_builtin;refine wpList_app5 _ o3 hs3 _ _ _ _ _ rfl _ _ 24 rfl (.agg #[.int .i64 0,.int .i64 0,.bool false,.int .i64 0,.slice none 0 0]) 56 Tryd.underlying24 info_Coded rfl rfl rfl (by intro u hu;simp at hu;rcases hu with rfl|rfl|rfl|rfl|rfl <;> rfl) (by omega) (by omega) ?_;intro v6 w6 own6 gr6;refine Hid.out ?_)
    have S6:=CE.app (hi':=w5.heap.size) (a1:=a3) (c1:=c3) (ss:=ss) H3.out (by rw[HP.out];exact H4.out) hsz3 (by rw[HP.out];exact own6) gr6;have E6:Ext w w6:=Ext.grown E5 gr6 (owns_ge o3);have S7:=S6.up gr6.size;have hs6:=E6.size;clear S6 own6 o3 H3 H4 E5;refine Lib.hid ?_;go_wp2;go_roundw
    case rel=>exact⟨k+1,_,by omega,by go_num,E6,hs6,S7⟩
    case measure=>simp[intOf];omega
   ·have HP:=Lib.hid (dropR_n (r:=r) hL);have hdc:decide (((layerN k l:Nat):Int)≤y)=false:=by simpa using hL
    have HL:=Lib.hid hL;clear hL;obtain⟨-,q0,q1,q2,q3,q4⟩:=bx5 p1;have S3:=S2.ext E3;have hs3:w.heap.size≤w3.heap.size:=Nat.le_trans hs2 E3.size;have E5:=E2.trans E3;have o3:=S3.own;have H3:=Lib.hid S3;have H4:=Lib.hid (SSk.nil w3 wr.heap.size w3.heap.size cd0.f E3.size);have hsz3:=E3.size;clear S3 S2 E2 E3 p1;go_wp2_with (at_builtin;refine wpList_app5 _ o3 hs3 _ _ _ _ _ rfl _ _ 24 rfl (.agg #[.int .i64 0,.int .i64 0,.bool false,.int .i64 0,.slice none 0 0]) 56 Tryd.underlying24 info_Coded rfl rfl rfl (by intro u hu;simp at hu;rcases hu with rfl|rfl|rfl|rfl|rfl <;> rfl) (by omega) (by omega) ?_;intro v6 w6 own6 gr6;refine Hid.out ?_)
    have S6:=CE.app (hi':=w3.heap.size) (a1:=none) (c1:=0) (ss := []) H3.out (by rw[HP.out];exact H4.out) hsz3 (by rw[HP.out];exact own6) gr6;have E6:Ext w w6:=Ext.grown E5 gr6 (owns_ge o3);have S7:=S6.up gr6.size;have hs6:=E6.size;clear S6 own6 o3 H3 H4 E5;refine Lib.hid ?_;go_wp2;go_roundw
    case rel=>exact⟨k+1,_,by omega,by go_num,E6,hs6,S7⟩
    case measure=>simp[intOf];omega
  ·obtain rfl:k=n:=by omega
   go_wp2;go_ret
   exact⟨_,_,cs,rfl,S2,E2⟩
theorem impl_DropLayers_yes (a:Option Addr) (n c l:Nat) (y:Int) (r:Nat→Cd) (w:World) (hT:Tab w) (ok:okC r n) (R:CP w a n r) (hn:n≤8) (hl1:1≤l) (hl2:l≤4) :
 Calls Tryd.prog 8 #[.slice a n c,.int .i64 l,.int .i64 y] w fun e w'=>∃ a' c' cs,e= .returned (.slice a' n c')∧CE w' w.heap.size w'.heap.size (.slice a' n c') n n (dropR r l y) cs∧Ext w w':=by
 obtain⟨i0,hi,hz0,hz1,hz2⟩:=info_parts info_Coded;have Hok:=Lib.hid ok;clear ok;go_enter Tryd.func8,Tryd.ntmps8
 go_wp2_with fail
 refine(layersValid_t _ _ (by omega) (by omega)).mono ?_
 rintro e w1 ⟨rfl,rfl⟩
 go_wp2_with (at_make;refine wpList_make_full _ rfl _ _ 24 rfl w.heap.size 38 i0 (.agg #[.int .i64 0,.int .i64 0,.bool false,.int .i64 0,.slice none 0 0]) 5 Tryd.underlying24 hi hz0 hz1 .i64 .i64 _ _ n rfl rfl rfl rfl (by rw[hz2];omega) (by unfold maxLen;omega) (Nat.le_refl _) ?_;intro w1 hown hgrow)
 have E1:Ext w w1:=(Ext.grown (Below.refl _ _) hgrow (by simp));have hs1:w.heap.size<w1.heap.size:=(hown.lt w.heap.size rfl).2;go_loopw [23] (fun i wr=>∃(k:Nat) (cs:List Value),k≤n∧i= .int .i64 (k:Nat)∧Ext w wr∧w.heap.size<wr.heap.size∧CE wr w.heap.size wr.heap.size (.slice (some ⟨w.heap.size,0,none⟩) n n) n k (dropR r l y) cs∧∀ i,k≤i→i<n→RC cs (i*5) cd0 none 0) (fun i _=>n-(intOf i).toNat)
 case atStart=>exact⟨0,_,by omega,rfl,E1,hs1,CE.zero _ hown (by omega),fun i _ hi=>rc_zero hi⟩
 case round =>
  obtain⟨k,cs,hk,rfl,E2,hs2,S2,hz⟩:=hrel;clear hown E1 hgrow hs1
  by_cases hlt:k<n
  ·obtain⟨b1,o1,rfl,a2,c2,⟨h1',h2',h3',h4',h5'⟩,h6,h7,h8⟩:=R k hlt;have h1:=cell_ext E2 h1';have h2:=cell_ext E2 h2';have h3:=cell_ext E2 h3';have h4:=cell_ext E2 h4';have h5:=cell_ext E2 h5';have hok:=Hok.out.at hlt;have Hcl:=Lib.hid (fun(wz:World) (e:Ext w wz)=>clone_any (r k).w (r k).h (r k).q (r k).i a2 (r k).n c2 (r k).f wz hok.1 (fun i hi=>by have:=sumN_mem (g:=ln (r k).f) hi;simp only[ln]at this;omega) (h6.ext e));obtain⟨P,hP⟩:∃ P,P=r k:=⟨_,rfl⟩;have HP:=Lib.hid hP;rw[←hP]at h1 h2 h3 h4 h5 Hcl;obtain⟨xw,xh,xi,xq,m,f⟩:=P;simp only at h1 h2 h3 h4 h5 Hcl;clear h6 h7 h8 hP hok h1' h2' h3' h4' h5';obtain⟨C,hC⟩:∃ C,C=wr.heap.size:=⟨_,rfl⟩;have p1:=blk_new wr (.cells #[.int .i64 xw,.int .i64 xh,.bool xi,.int .i64 xq,.slice a2 m c2] 38);rw[←hC]at p1;have E3:=Ext.alloc wr (.cells #[.int .i64 xw,.int .i64 xh,.bool xi,.int .i64 xq,.slice a2 m c2] 38);have Hq:=Lib.hid (⟨p1,E3⟩:_∧_);clear p1 E3;go_upto_region 7 with fail
   obtain⟨p1,E3⟩:=Hq.out;clear Hq;rw[←hC];have hCw:wr.heap.size≤C:=by omega
   clear hC h1 h2 h3 h4 h5;generalize wr.alloc (.cells #[.int .i64 xw,.int .i64 xh,.bool xi,.int .i64 xq,.slice a2 m c2] 38)=w3 at *;have E23:=E2.trans E3;go_wp2_with fail
   refine(impl_LayerOf_yes k l _ (hT.ext E23) (by omega) hl1 hl2).mono ?_
   rintro e w4 ⟨rfl,rfl⟩
   have S3:=S2.ext E3;have hs3:w.heap.size<w3.heap.size:=Nat.lt_of_lt_of_le hs2 E3.size
   by_cases hL:((layerN k l:Nat):Int)≤y
   ·have HD:=Lib.hid (show dropR r l y k=⟨xw,xh,xi,xq,m,f⟩ by rw[dropR_y hL,HP.out]);have hdc:decide (((layerN k l:Nat):Int)≤y)=true:=by simpa using hL
    clear hL;obtain⟨-,q0,q1,q2,q3,q4⟩:=bx5 p1;clear p1 S2;have Hz:=Lib.hid hz;clear hz;go_wp2_with fail
    refine(Hcl.out _ E23).mono ?_
    rintro e w2 ⟨a3,c3,ss,rfl,s3,e3⟩
    clear q0 q1 q2 q3 q4;have S4:=S3.ext e3;obtain⟨us,hu⟩:=id S4;have ownH:=hu.1;have hcl:cs.length=n*5:=ownH.1;obtain⟨u0,d0,-⟩:=owns_at ownH (j:=k*5) (by omega);obtain⟨u1,d1,-⟩:=owns_at ownH (j:=k*5+1) (by omega);obtain⟨u2,d2,-⟩:=owns_at ownH (j:=k*5+2) (by omega);obtain⟨u3,d3,-⟩:=owns_at ownH (j:=k*5+3) (by omega);obtain⟨u4,d4,-⟩:=owns_at ownH (j:=k*5+4) (by omega);have f0:=ownH.frozenAt (k*5);have f1:=ownH.frozenAt (k*5+1);have f2:=ownH.frozenAt (k*5+2);have f3:=ownH.frozenAt (k*5+3);have f4:=ownH.frozenAt (k*5+4);have hs4:w.heap.size<w2.heap.size:=Nat.lt_of_lt_of_le hs3 e3.size;have E4:=E23.trans e3;have s4:SSg w2 wr.heap.size w2.heap.size (.slice a3 m c3) m f ss:=SSk.mono s3 E3.size;have S5:CE (put5 w2 w.heap.size (k*5) (.int .i64 xw) (.int .i64 xh) (.bool xi) (.int .i64 xq) (.slice a3 m c3)) w.heap.size w2.heap.size (.slice (some ⟨w.heap.size,0,none⟩) n n) n (k+1) (dropR r l y) _ :=
     CE.snoc (a1:=a3) (c1:=c3) (ss:=ss) S4 (by rw[HD.out];exact s4) (Nat.le_trans E3.size e3.size) (put5_cells (o:=k*5) (u0 := .int .i64 xw) (u1 := .int .i64 xh) (u2 := .bool xi) (u3 := .int .i64 xq) (u4 := .slice a3 m c3) ownH) (put5_grown _ _ _ _ _ _ _ _) (fun o ho=>by
     rw[List.getElem?_set_ne (by omega),List.getElem?_set_ne (by omega),List.getElem?_set_ne (by omega),List.getElem?_set_ne (by omega),List.getElem?_set_ne (by omega)]) (by rw[HD.out];refine⟨?_,?_,?_,?_,?_⟩ <;> simp[List.getElem?_set] <;> omega)
    have G5:=put5_grown w2 w.heap.size (k*5) (.int .i64 xw) (.int .i64 xh) (.bool xi) (.int .i64 xq) (.slice a3 m c3);have HS4:=Lib.hid (⟨S5.up G5.size,Ext.grown E4 G5 (by simp)⟩:CE (put5 w2 w.heap.size (k*5) (.int .i64 xw) (.int .i64 xh) (.bool xi) (.int .i64 xq) (.slice a3 m c3)) w.heap.size (put5 w2 w.heap.size (k*5) (.int .i64 xw) (.int .i64 xh) (.bool xi) (.int .i64 xq) (.slice a3 m c3)).heap.size (.slice (some ⟨w.heap.size,0,none⟩) n n) n (k+1) (dropR r l y) _∧Ext w (put5 w2 w.heap.size (k*5) (.int .i64 xw) (.int .i64 xh) (.bool xi) (.int .i64 xq) (.slice a3 m c3)));have Hz2:=Lib.hid (fun i (h1:k+1≤i) (h2:i<n)=>RC.far (o:=k*5) (u0 := .int .i64 xw) (u1 := .int .i64 xh) (u2 := .bool xi) (u3 := .int .i64 xq) (u4 := .slice a3 m c3) (Hz.out i (by omega) h2) (by omega));clear G5 e3 S3 S4 S5 s3 s4 hu ownH E2 E3 E23 E4;go_wp2;go_roundw
    case rel=>exact⟨k+1,_,by omega,by go_num,HS4.out.2,by simpa using hs4,HS4.out.1,Hz2.out⟩
    case measure=>simp[intOf];omega
   ·have HD:=Lib.hid (dropR_n (r:=r) hL);have hdc:decide (((layerN k l:Nat):Int)≤y)=false:=by simpa using hL
    clear hL;have hz2:=hz k (Nat.le_refl _) hlt;have S5:CE w3 w.heap.size w3.heap.size (.slice (some ⟨w.heap.size,0,none⟩) n n) n (k+1) (dropR r l y) cs :=
     CE.snoc (a1:=none) (c1:=0) (ss := []) S3 (by rw[HD.out];exact SSk.nil w3 wr.heap.size w3.heap.size cd0.f E3.size) E3.size S3.own (World.grownBy.refl _ _) (fun o ho=>rfl) (by rw[HD.out];exact hz2)
    have HS5:=Lib.hid S5;have Hz:=Lib.hid hz;clear S5 S3 S2 hz2 p1 hz;go_wp2;go_roundw
    case rel=>exact⟨k+1,_,by omega,by go_num,E23,hs3,HS5.out,fun i h1 h2=>Hz.out i (by omega) h2⟩
    case measure=>simp[intOf];omega
  ·obtain rfl:k=n:=by omega
   go_wp2;go_ret
   exact⟨_,_,cs,rfl,S2,E2⟩
theorem spec_DropLayers_no (a:Option Addr) (n c:Nat) (x y:Int) (w:World) (h : ¬ (n≤8∧1≤x∧x≤4)) :
 Calls Tryd.prog 6 #[.slice a n c,.int .i64 x,.int .i64 y] w fun e w'=>e= .returned (.slice (some ⟨w.heap.size,0,none⟩) 0 0)∧Ext w w':=by
 by_cases h1:8<n
 ·clear h;go_enter Tryd.func6,Tryd.ntmps6
  go_wp2;go_ret
  exact⟨rfl,Ext.alloc _ _⟩
 ·have h2:x<1∨4<x:=by omega
  clear h;go_enter Tryd.func6,Tryd.ntmps6
  go_wp2_with fail
  refine(l1In_no _ _ _ _ (by omega)).mono ?_
  rintro e w' ⟨rfl,rfl⟩
  go_wp2;go_ret
  exact⟨rfl,Ext.alloc _ _⟩
theorem impl_DropLayers_no (a:Option Addr) (n c:Nat) (x y:Int) (w:World) (h : ¬ (n≤8∧1≤x∧x≤4)) :
 Calls Tryd.prog 8 #[.slice a n c,.int .i64 x,.int .i64 y] w fun e w'=>e= .returned (.slice none 0 0)∧w=w':=by
 by_cases h1:8<n
 ·clear h;go_enter Tryd.func8,Tryd.ntmps8
  go_wp2;go_ret
  exact⟨rfl,rfl⟩
 ·have h2:=Lib.hid (show x<1∨4<x by omega);clear h;go_enter Tryd.func8,Tryd.ntmps8
  go_wp2_with fail
  refine(layersValid_f _ _ h2.out).mono ?_
  rintro e w' ⟨rfl,rfl⟩
  go_wp2;go_ret
  exact⟨rfl,rfl⟩
end Go.Proofs.YtmokncpppmchfaaDoor
namespace Go.Proofs.YtmokncpppmchfaaDoor

/-- One is added to the number that bytes represent, the lowest one first. -/
def incR : List Int→List Int
 | [] => []
 | x::t=>if x=255 then 0::incR t else(x+1)::t
/-- One is added to the number that bytes represent. -/
def inc (l:List Int):List Int:=(incR l.reverse).reverse
def valR : List Int→Int
 | []=>0
 | x::t=>x+256*valR t
/-- The number that bytes represent. -/
def valB (l:List Int):Int:=valR l.reverse
def bytL (l:List Int):Prop:=∀ x∈l,0≤x∧x≤255
theorem incR_len (l:List Int):(incR l).length=l.length:=by
 induction l with
 | nil=>rfl
 | cons x t ih=>unfold incR;split <;> simp[ih]
theorem inc_len (l:List Int):(inc l).length=l.length:=by simp[inc,incR_len]
theorem incR_byt {l:List Int} (h:bytL l):bytL (incR l):=by
 induction l with
 | nil=>exact h
 | cons x t ih =>
  have hx:=h x (by simp);have ht:bytL t:=fun y hy=>h y (by simp[hy])
  unfold incR
  split
  ·intro y hy;rcases List.mem_cons.1 hy with rfl|hy
   ·omega
   ·exact ih ht y hy
  ·intro y hy;rcases List.mem_cons.1 hy with rfl|hy
   ·omega
   ·exact ht y hy
theorem bytL_rev {l:List Int} (h:bytL l):bytL l.reverse:=fun y hy=>h y (by simpa using hy)
theorem inc_byt {l:List Int} (h:bytL l):bytL (inc l):=bytL_rev (incR_byt (bytL_rev h))
theorem valR_nn {l:List Int} (h:bytL l):0≤valR l∧valR l<256^l.length:=by
 induction l with
 | nil=>simp[valR]
 | cons x t ih =>
  have hx:=h x (by simp);have ht:=ih (fun y hy=>h y (by simp[hy]));simp only[valR,List.length_cons,Int.pow_succ];omega
theorem valR_inc {l:List Int} (h:bytL l) (hv:valR l+1<256^l.length):valR (incR l)=valR l+1:=by
 induction l with
 | nil=>simp[valR]at hv
 | cons x t ih =>
  have hx:=h x (by simp);have htb:bytL t:=fun y hy=>h y (by simp[hy])
  have ht:=valR_nn htb;simp only[valR,List.length_cons,Int.pow_succ]at hv;unfold incR
  split
  ·rename_i e
   have:=ih htb (by omega);simp only[valR];omega
  ·simp only[valR];omega
theorem incR_at (m:Nat) (x:Int) (r:List Int) (hx:x≠255):incR (List.replicate m 255++x::r)=List.replicate m 0++(x+1)::r:=by
 induction m with
 | zero=>simp[incR,hx]
 | succ m ih=>simp[List.replicate_succ,incR,ih]
theorem inc_at (l:List Int) (x:Int) (m:Nat) (hx:x≠255):inc (l++x::List.replicate m 255)=l++(x+1)::List.replicate m 0:=by
 have e:(l++x::List.replicate m 255).reverse=List.replicate m 255++x::l.reverse:=by simp
 unfold inc;rw[e,incR_at m x _ hx];simp
theorem incR_split (l:List Int) (hv:∃ x∈l,x≠255):∃ m x r,l=List.replicate m 255++x::r∧x≠255:=by
 induction l with
 | nil=>obtain⟨x,hx,_⟩:=hv;cases hx
 | cons y t ih =>
  by_cases e:y=255
  ·subst e;obtain⟨m,x,r,h1,h2⟩:=ih (by
    obtain⟨x,hx,hn⟩:=hv;rcases List.mem_cons.1 hx with rfl|hx
    ·exact absurd rfl hn
    ·exact⟨x,hx,hn⟩)
   exact⟨m+1,x,r,by rw[h1];simp[List.replicate_succ],h2⟩
  ·exact⟨0,y,t,by simp,e⟩
theorem valR_max (m:Nat):valR (List.replicate m 255)+1=256^m:=by
 induction m with
 | zero=>rfl
 | succ m ih=>simp only[List.replicate_succ,valR,Int.pow_succ];omega
theorem inc_split {l:List Int} (hv:valB l+1<256^l.length):∃ r x m,l=r++x::List.replicate m 255∧x≠255:=by
 by_cases h:∃ x∈l.reverse,x≠255
 ·obtain⟨m,x,r,h1,h2⟩:=incR_split _ h;refine⟨r.reverse,x,m,?_,h2⟩;have:=congrArg List.reverse h1
  simpa using this
 ·have h0:l.reverse=List.replicate l.length 255:=List.eq_replicate_iff.2 ⟨by simp,fun b hb=>Classical.byContradiction fun hn=>h ⟨b,hb,hn⟩⟩;have:=valR_max l.length;unfold valB at hv;rw[h0]at hv;omega
theorem valB_inc {l:List Int} (h:bytL l) (hv:valB l+1<256^l.length):valB (inc l)=valB l+1:=by
 unfold valB inc at *;rw[List.reverse_reverse];exact valR_inc (bytL_rev h) (by simpa using hv)
theorem valB_snoc (l:List Int) (x:Int):valB (l ++ [x])=256*valB l+x:=by
 unfold valB;simp[valR];omega
/-- The coder's state: low, span, the bytes, the probabilities. -/
structure Ac where
 low:Nat
 span:Nat
 out:List Int
 ch:List Nat
def Ac.lo (c:Ac):Nat:=if 4294967296≤c.low then c.low-4294967296 else c.low
def Ac.car (c:Ac):List Int:=if 4294967296≤c.low then inc c.out else c.out
def Ac.shift (c:Ac):Ac:=⟨c.lo%16777216*256,c.span,c.car ++ [((c.lo/16777216:Nat):Int)],c.ch⟩
def nch (p bit:Nat):Nat:=if bit=0 then p+(4096-p)/16 else p-p/16
def Ac.bnd (c:Ac) (x:Nat):Nat:=c.span/4096*c.ch.getD x 0
def Ac.upd (c:Ac) (x bit:Nat):Ac :=
 if bit=0 then⟨c.low,c.bnd x,c.out,c.ch.set x (nch (c.ch.getD x 0) bit)⟩else⟨c.low+c.bnd x,c.span-c.bnd x,c.out,c.ch.set x (nch (c.ch.getD x 0) bit)⟩
def Ac.wide (c:Ac):Ac := { c.shift with span:=c.span*256 }
def Ac.norm : Nat→Ac→Ac
 | 0,c=>c
 | k+1,c=>if c.span<16777216 then Ac.norm k c.wide else c
def Ac.put (c:Ac) (b:Nat×Nat):Ac:=Ac.norm 3 (c.upd b.1 b.2)
def Ac.init : Ac:=⟨0,4294967295,[],List.replicate 40 2048⟩
def encC (l:List (Nat×Nat)):Ac:=l.foldl Ac.put Ac.init
def encL (l:List (Nat×Nat)):List Int:=(encC l).shift.shift.shift.shift.out
/-- The state's bounds; s stands for the span. -/
def Ac.inv (c:Ac) (s:Nat):Prop:=bytL c.out∧c.low+s<8589934592∧valB c.out*4294967296+c.low+s≤256^c.out.length*4294967296
def Ac.chk (c:Ac):Prop:=c.ch.length=40∧∀ x∈c.ch,1≤x∧x≤4095
theorem Ac.car_len (c:Ac):c.car.length=c.out.length:=by unfold Ac.car;split <;> simp[inc_len]
theorem Ac.carry {c:Ac} {s:Nat} (h:c.inv s) (hs:0<s) (hl:4294967296≤c.low):valB c.out+1<256^c.out.length:=by
 obtain⟨_,h2,h3⟩:=h;omega
theorem Ac.lo_lt {c:Ac} {s:Nat} (h:c.inv s):c.lo<4294967296:=by
 obtain⟨_,h2,h3⟩:=h;unfold Ac.lo
 split <;> omega
theorem Ac.car_ok {c:Ac} {s:Nat} (h:c.inv s) (hs:0<s):bytL c.car∧valB c.car*4294967296+c.lo=valB c.out*4294967296+c.low:=by
 unfold Ac.car Ac.lo
 by_cases hl:4294967296≤c.low
 ·rw[if_pos hl,if_pos hl];refine⟨inc_byt h.1,?_⟩;rw[valB_inc h.1 (Ac.carry h hs hl)];omega
 ·rw[if_neg hl,if_neg hl];exact⟨h.1,rfl⟩
theorem Ac.shift_inv {c:Ac} {s:Nat} (h:c.inv s) (hs:0<s) (hs2:s<16777216):c.shift.inv (s*256):=by
 obtain⟨h1,h2⟩:=Ac.car_ok h hs;have h3:=Ac.lo_lt h;have h4:=h.2.2;refine⟨fun x hx => ?_,?_,?_⟩
 ·rcases List.mem_append.1 hx with hx|hx
  ·exact h1 x hx
  ·simp at hx;omega
 ·show c.lo%16777216*256+s*256<8589934592;omega
 ·show valB (c.car ++ [((c.lo/16777216:Nat):Int)])*4294967296+((c.lo%16777216*256:Nat):Int)+((s*256:Nat):Int)≤256^(c.car ++ [((c.lo/16777216:Nat):Int)]).length*4294967296;rw[valB_snoc,List.length_append,Ac.car_len];simp only[List.length_cons,List.length_nil,Int.pow_succ];omega
theorem nch_rng {p bit:Nat} (h1:1≤p) (h2:p≤4095):1≤nch p bit∧nch p bit≤4095:=by
 unfold nch
 split <;> omega
theorem Ac.bnd_rng {c:Ac} (h:c.chk) (h1:16777216≤c.span) (h2:c.span<4294967296) {x:Nat} (hx:x<40):1≤c.bnd x∧c.bnd x<c.span∧1≤c.span/4096∧c.span/4096<1048576∧1≤c.ch.getD x 0∧c.ch.getD x 0≤4095:=by
 have hm:c.ch.getD x 0∈c.ch:=by
  have hl:x<c.ch.length:=by rw[h.1];exact hx
  rw[List.getD,List.getElem?_eq_getElem hl];exact List.getElem_mem _
 obtain⟨a,b⟩:=h.2 _ hm;unfold Ac.bnd;generalize c.ch.getD x 0=p at *;generalize hq:c.span/4096=q at *;have hq1:4096≤q:=by omega
 have h3:q*1≤q*p:=Nat.mul_le_mul_left q a;have h4:q*p≤q*4095:=Nat.mul_le_mul_left q b;omega
theorem Ac.upd_chk {c:Ac} (h:c.chk) {x bit:Nat} (hx:x<40):(c.upd x bit).chk:=by
 have hm:c.ch.getD x 0∈c.ch:=by
  have hl:x<c.ch.length:=by rw[h.1];exact hx
  rw[List.getD,List.getElem?_eq_getElem hl];exact List.getElem_mem _
 obtain⟨a,b⟩:=h.2 _ hm;have:(c.ch.set x (nch (c.ch.getD x 0) bit)).length=40∧∀ y∈c.ch.set x (nch (c.ch.getD x 0) bit),1≤y∧y≤4095:=by
  refine⟨by rw[List.length_set];exact h.1,fun y hy => ?_⟩;rcases List.mem_or_eq_of_mem_set hy with hy|rfl
  ·exact h.2 y hy
  ·exact nch_rng a b
 unfold Ac.upd
 split <;> exact this
theorem Ac.upd_inv {c:Ac} (h:c.inv c.span) (hc:c.chk) (h1:16777216≤c.span) (h2:c.span<4294967296) {x bit:Nat} (hx:x<40):(c.upd x bit).inv (c.upd x bit).span∧1≤(c.upd x bit).span∧(c.upd x bit).span<4294967296:=by
 obtain⟨b1,b2,-⟩:=Ac.bnd_rng hc h1 h2 hx;obtain⟨i1,i2,i3⟩:=h;unfold Ac.upd
 split
 ·exact⟨⟨i1,by show c.low+c.bnd x<_;omega,by show valB c.out*4294967296+(c.low:Int)+(c.bnd x:Nat)≤256^c.out.length*4294967296;omega⟩,by show 1≤c.bnd x;omega,by show c.bnd x<_;omega⟩
 ·refine⟨⟨i1,?_,?_⟩,?_,?_⟩
  ·show c.low+c.bnd x+(c.span-c.bnd x)<_;omega
  ·show valB c.out*4294967296+((c.low+c.bnd x:Nat):Int)+((c.span-c.bnd x:Nat):Int)≤256^c.out.length*4294967296;omega
  ·show 1≤c.span-c.bnd x;omega
  ·show c.span-c.bnd x<_;omega
theorem Ac.wide_inv {c:Ac} (h:c.inv c.span) (h1:1≤c.span) (h2:c.span<16777216):c.wide.inv c.wide.span:=Ac.shift_inv h h1 h2
theorem Ac.norm_ok (k:Nat):∀ {c:Ac},c.inv c.span→1≤c.span→c.span<4294967296→16777216≤c.span*256^k→c.chk →
 (Ac.norm k c).inv (Ac.norm k c).span∧16777216≤(Ac.norm k c).span∧(Ac.norm k c).span<4294967296∧(Ac.norm k c).chk∧(Ac.norm k c).out.length≤c.out.length+k:=by
 induction k with
 | zero=>intro c h h1 h2 h3 hc;simp at h3;exact⟨h,h3,h2,hc,Nat.le_refl _⟩
 | succ k ih =>
  intro c h h1 h2 h3 hc;unfold Ac.norm
  split
  ·rename_i hl
   have:=ih (c:=c.wide) (Ac.wide_inv h h1 hl) (by show 1≤c.span*256;omega) (by show c.span*256<_;omega) (by show 16777216≤c.span*256*256^k;rw[Nat.pow_succ]at h3;rw[Nat.mul_assoc,Nat.mul_comm 256];exact h3) hc;obtain⟨a,b,d,e,f⟩:=this;refine⟨a,b,d,e,?_⟩;have:c.wide.out.length=c.out.length+1:=by show(c.car ++ [_]).length=_;rw[List.length_append,Ac.car_len];rfl
   omega
  ·rename_i hl
   exact⟨h,by omega,h2,hc,by omega⟩
def Ac.good (c:Ac):Prop:=c.inv c.span∧16777216≤c.span∧c.span<4294967296∧c.chk
theorem Ac.put_ok {c:Ac} (h:c.good) {b:Nat×Nat} (hb:b.1<40):(c.put b).good∧(c.put b).out.length≤c.out.length+3:=by
 obtain⟨a1,a2,a3⟩:=Ac.upd_inv h.1 h.2.2.2 h.2.1 h.2.2.1 (bit:=b.2) hb;obtain⟨b1,b2,b3,b4,b5⟩:=Ac.norm_ok 3 a1 a2 a3 (by omega) (Ac.upd_chk h.2.2.2 hb);have:(c.upd b.1 b.2).out=c.out:=by unfold Ac.upd;split <;> rfl
 rw[this]at b5;exact⟨⟨b1,b2,b3,b4⟩,b5⟩
theorem Ac.init_good : Ac.init.good:=by
 refine⟨⟨fun x hx=>(by cases hx),by decide,by decide⟩,by decide,by decide,by decide,fun x hx => ?_⟩;have:=(List.mem_replicate.1 hx).2;omega
theorem encC_ok (l:List (Nat×Nat)) (h:∀ b∈l,b.1<40):(encC l).good∧(encC l).out.length≤3*l.length:=by
 suffices ∀(c:Ac) (k:Nat),c.good→c.out.length≤k→(l.foldl Ac.put c).good∧(l.foldl Ac.put c).out.length≤k+3*l.length by
  have:=this Ac.init 0 Ac.init_good (by decide);rw[Nat.zero_add]at this;exact this
 induction l with
 | nil=>intro c k h1 h2;exact⟨h1,by simpa using h2⟩
 | cons b l ih =>
  intro c k h1 h2;obtain⟨g1,g2⟩:=Ac.put_ok h1 (h b (by simp));have:=ih (fun x hx=>h x (by simp[hx])) (c.put b) (k+3) g1 (by omega);rw[List.foldl_cons];refine⟨this.1,?_⟩;have:=this.2;simp only[List.length_cons];omega
end Go.Proofs.YtmokncpppmchfaaDoor
namespace Go.Proofs.YtmokncpppmchfaaDoor
open Go.RowKit
theorem spec_NextChance_in (p bit:Nat) (w:World) (h1:1≤p) (h2:p≤4095) (hb:bit≤1) :
 Calls Tryd.prog 68 #[.int .i64 p,.int .i64 bit] w fun e w'=>e= .returned (.int .i64 (nch p bit))∧w=w':=by
 have hn:(nch p bit:Int)=if bit=0 then(p:Int)+(4096-p)/16 else(p:Int)-p/16:=by
  unfold nch
  split <;> omega
 have Hn:=Lib.hid hn;clear hn;go_enter Tryd.func68,Tryd.ntmps68
 go_wp2_with fail
 refine(l1In_yes _ _ _ _ (by omega) (by omega)).mono ?_
 rintro e w1 ⟨rfl,rfl⟩
 go_wp2_with fail
 refine(l1In_yes _ _ _ _ (by omega) (by omega)).mono ?_
 rintro e w1 ⟨rfl,rfl⟩
 by_cases h0:bit=0
 ·have hd:decide ((bit:Int)=0)=true:=by simp;omega
  go_wp2;go_ret
  exact⟨by rw[Hn.out,if_pos h0];congr 2 <;> omega,rfl⟩
 ·have hd:decide ((bit:Int)=0)=false:=by simp;omega
  go_wp2;go_ret
  exact⟨by rw[Hn.out,if_neg h0];congr 2 <;> omega,rfl⟩
theorem spec_l9Chances_any (w:World) :
 Calls Tryd.prog 62 #[] w fun e w'=>∃ v,e= .returned v∧w'.ownsRow w.heap.size 3 1 v 40 ((List.replicate 40 (2048:Int)).map (Value.int .i64))∧Ext w w':=by
 go_enter Tryd.func62,Tryd.ntmps62
 have E1:Ext w (w.alloc (.cells #[] 3)):=(Below.refl _ _).alloc (Nat.le_refl _) _;have hown:=World.ownsRow_made (base:=w.heap.size) (e:=3) (size:=1) w #[] 0 (Nat.le_refl _) (by simp) rfl;go_wp2_with fail
 go_loopw [1,2] (fun v i wr=>∃ k:Nat,k≤40∧i= .int .i64 k∧Ext w wr∧wr.ownsRow w.heap.size 3 1 v k ((List.replicate k (2048:Int)).map (Value.int .i64))) (fun _ i _=>40-(intOf i).toNat)
 case atStart=>exact⟨0,by omega,rfl,E1,by simpa using hown⟩
 case round =>
  obtain⟨k,hk,rfl,E2,hown2⟩:=hrel;clear hown E1
  by_cases hlt:k<40
  ·have hsz:=E2.size;go_wp2_with (at_builtin;refine wpList_app _ hown2 hsz _ rfl _ _ 48 rfl (.int .i64 0) 8 Tryd.underlying48 info_int rfl rfl rfl rfl (by omega) (by omega) ?_;intro v2 w2 own3 gr2 _)
   go_roundw
   case rel =>
    refine⟨k+1,by omega,rfl,Ext.grown E2 gr2 (owns_ge hown2),?_⟩;rw[List.replicate_succ',List.map_append];exact own3
   case measure=>simp[intOf];omega
  ·obtain rfl:k=40:=by omega
   have hd:decide (((40:Nat):Int)<40)=false:=by simp
   go_wp2;go_ret
   exact⟨_,rfl,hown2,E2⟩
/-- The row of the j-th number of diagonal d. -/
def scRow (d j:Nat):Nat:=if d%2=0 then d-j else j
def scStep (d j:Nat) (s:Nat×List Int):Nat×List Int:=if scRow d j<4∧d-scRow d j<4 then(s.1+1,s.2.set s.1 (4*(scRow d j:Int)+((d-scRow d j:Nat):Int)))else(s.1,s.2)
def scIn (d:Nat) (s:Nat×List Int):Nat→Nat×List Int
 | 0=>s
 | j+1=>scStep d j (scIn d s j)
def scOut : Nat→Nat×List Int
 | 0=>(0,zl 16)
 | d+1=>scIn d (scOut d) (d+1)
/-- The order. -/
def scanL : List Int := [0,1,4,8,5,2,3,6,9,12,13,10,7,11,14,15]
theorem size_A16s : (Tryd.prog.info? 83).map (·.size)=some 16:=by kernel_rfl
/-- Not a block of type T. -/
def notT (T:TypeId) (o:Obj):Prop:=∀ cs fr,o ≠ .cells cs T fr
/-- Nothing below B changed, and of the rest only rows of type T. -/
structure FR (B T : Nat) (w w' : World) : Prop where
 lo:Below B w w'
 ot:∀(i:Nat) (o:Obj),w.heap[i]?=some o→notT T o→w'.heap[i]?=some o
theorem FR.refl (B T:Nat) (w:World):FR B T w w:=⟨Below.refl _ _,fun _ _ h _=>h⟩
theorem FR.trans {B T:Nat} {a b c:World} (h:FR B T a b) (k:FR B T b c):FR B T a c:=⟨h.lo.trans k.lo,fun i o h1 h2=>k.ot i o (h.ot i o h1 h2) h2⟩
theorem FR.of_ext {B T:Nat} {w w':World} (h:Ext w w') (hB:B≤w.heap.size):FR B T w w':=⟨h.mono hB,fun _ _ h1 _=>h.blk h1⟩
theorem FR.of_row {B T s n:Nat} {v:Value} {xs:List Value} {w w':World} (o:w.ownsRow B T s v n xs) (g:w.grownBy w' v.ownBlock) (hB:B≤w.heap.size):FR B T w w':=by
 have hge:=owns_ge o;refine⟨⟨g.os,g.tape,g.output,g.size,fun k hk=>g.block k (by omega) (fun e=>by have:=hge k e.symm;omega)⟩,fun i ob h1 h2 => ?_⟩;refine(g.block i (lt_of_block h1) (fun e => ?_)).trans h1;rcases o.2 with⟨rfl,-⟩|⟨b,cap,cur,rfl,-,hb,-⟩
 ·cases e
 ·cases e;rw[hb]at h1;cases h1;exact h2 _ _ rfl
theorem FR.size {B T:Nat} {w w':World} (h:FR B T w w'):w.heap.size≤w'.heap.size:=h.lo.size
theorem FR.ext {B T:Nat} {a w w':World} (h:Ext a w) (f:FR B T w w') (hB:a.heap.size≤B):Ext a w':=Below.trans h (f.lo.mono hB)
theorem FR.ib {B T U b:Nat} {zs:List Int} {w w':World} (f:FR B T w w') (h:IB w b U zs) (hne:U≠T):IB w' b U zs:=f.ot b _ h (fun cs fr e=>by cases e;exact hne rfl)
theorem FR.blk {B T U b:Nat} {cs:Array Value} {fr:Nat×Nat} {w w':World} (f:FR B T w w') (h:w.heap[b]?=some (.cells cs U fr)) (hne:U≠T):w'.heap[b]?=some (.cells cs U fr):=f.ot b _ h (fun cs fr e=>by cases e;exact hne rfl)
theorem FR.keeps {B T:Nat} {w w':World} (f:FR B T w w'):KeepsOthers w w':=⟨f.size,fun k o h1 h2=>f.ot k o h1 (fun cs fr e=>by subst e;cases h2)⟩
theorem FR.low {B T b:Nat} {o:Obj} {w w':World} (f:FR B T w w') (h:w.heap[b]?=some o) (hb:b<B):w'.heap[b]?=some o:=(f.lo.block b hb).trans h
/-- One less than the number of binary digits of n + 1. -/
def kOf (n:Nat):Nat:=Nat.log2 (n+1)
theorem kOf_lo (n:Nat):2^kOf n≤n+1:=Nat.log2_self_le (by omega)
theorem kOf_hi (n:Nat):n+1<2^(kOf n+1):=Nat.lt_log2_self
theorem kOf_le {n:Nat} (h:n<32768):kOf n≤15:=by
 have h1:=kOf_lo n;refine Classical.byContradiction fun hk => ?_
 have h2:=Nat.pow_le_pow_right (show 0<2 by decide) (show 16≤kOf n by omega);have:(2:Nat)^16=65536:=by decide
 omega
/-- The first i decisions: k times 1, and 0. -/
def upL (b k:Nat):Nat→List Int
 | 0 => []
 | i+1=>upL b k i ++ [((b+min i 5:Nat):Int),if i=k then 0 else 1]
/-- The k digits behind the first one, down to digit j. -/
def dnL (m b k:Nat):Nat→List Int
 | 0 => []
 | j+1=>dnL m b k j ++ [((b+6:Nat):Int),((m/2^(k-1-j)%2:Nat):Int)]
def numL (n b:Nat):List Int:=upL b (kOf n) (kOf n+1)++dnL (n+1) b (kOf n) (kOf n)
/-- How many decisions there are. -/
def numN (n:Nat):Nat:=2*kOf n+1
theorem numN_le {n:Nat} (h:n<32768):numN n≤31:=by have:=kOf_le h;unfold numN;omega
def sidx (v:Int):Int:=if 0<v then 2*v-1 else -2*v
theorem sidx_rng {v B:Int} (h1 : -B≤v) (h2:v≤B):0≤sidx v∧sidx v≤2*B:=by unfold sidx;split <;> omega
theorem spec_SignedIndex_in (v:Int) (w:World) (h1 : -32767≤v) (h2:v≤32767) :
 Calls Tryd.prog 59 #[.int .i64 v] w fun e w'=>e= .returned (.int .i64 (sidx v))∧w=w':=by
 unfold sidx;go_enter Tryd.func59,Tryd.ntmps59
 by_cases hc:0<v
 ·rw[if_pos hc];go_wp2_with fail
  refine(l1In_yes v (-32767) 32767 _ h1 h2).mono ?_
  rintro e w1 ⟨rfl,rfl⟩
  go_wp2;go_ret
  first|exact⟨rfl,rfl⟩|exact⟨by simp;omega,rfl⟩
 ·rw[if_neg hc];go_wp2_with fail
  refine(l1In_yes v (-32767) 32767 _ h1 h2).mono ?_
  rintro e w1 ⟨rfl,rfl⟩
  go_wp2;go_ret
  first|exact⟨rfl,rfl⟩|exact⟨by simp;omega,rfl⟩
def u8s (l:List Int):List Value:=l.map (Value.int .u8)
def ch64 (l:List Nat):List Value:=l.map (fun(k:Nat)=>Value.int .i64 (k:Int))
/-- The coder c in memory: a block O of four cells, the bytes in a row vo of the call's own, the probabilities in a row vc of its own; H: below it nothing is the call's. -/
structure CM (w : World) (H O : Nat) (c : Ac) (vo vc : Value) : Prop where
 bk:w.heap[O]?=some (.cells #[.int .i64 (c.low:Int),.int .i64 (c.span:Int),vo,vc] 100 (0,0))
 ro:w.ownsRow H 5 1 vo c.out.length (u8s c.out)
 rc:w.ownsRow H 3 1 vc 40 (ch64 c.ch)
 hO:H≤O
 hs:H≤w.heap.size
theorem neO {w:World} {H O n e:Nat} {v:Value} {xs:List Value} {arr:Array Value} (h:w.ownsRow H e 1 v n xs) (hq:w.heap[O]?=some (.cells arr 100 (0,0))) (hne:e≠100):v.ownBlock≠some O:=by
 rcases own_ne_blk h hq hne with h0|h0
 ·rw[h0];exact fun h=>by cases h
 ·exact h0
theorem CM.oO {w:World} {H O:Nat} {c:Ac} {vo vc:Value} (h:CM w H O c vo vc):vo.ownBlock≠some O:=neO h.ro h.bk (by decide)
theorem CM.cO {w:World} {H O:Nat} {c:Ac} {vo vc:Value} (h:CM w H O c vo vc):vc.ownBlock≠some O:=neO h.rc h.bk (by decide)
theorem CM.low {w:World} {H O:Nat} {c:Ac} {vo vc:Value} (h:CM w H O c vo vc) (v:Nat):CM (w.setCell ⟨O,0,none⟩ (.int .i64 (v:Int))) H O ⟨v,c.span,c.out,c.ch⟩ vo vc:=by
 refine⟨?_,ownsRow_setCell_other h.ro h.oO _,ownsRow_setCell_other h.rc h.cO _,h.hO,by simpa using h.hs⟩;have:=heap_setCell_same w O 0 _ _ (.int .i64 (v:Int)) h.bk
 simpa using this
theorem CM.spn {w:World} {H O:Nat} {c:Ac} {vo vc:Value} (h:CM w H O c vo vc) (v:Nat):CM (w.setCell ⟨O,1,none⟩ (.int .i64 (v:Int))) H O ⟨c.low,v,c.out,c.ch⟩ vo vc:=by
 refine⟨?_,ownsRow_setCell_other h.ro h.oO _,ownsRow_setCell_other h.rc h.cO _,h.hO,by simpa using h.hs⟩;have:=heap_setCell_same w O 1 _ _ (.int .i64 (v:Int)) h.bk
 simpa using this
theorem owns_neE {w:World} {b1 b2 e1 e2 s1 s2 n1 n2:Nat} {v1 v2:Value} {x1 x2:List Value} (h1:w.ownsRow b1 e1 s1 v1 n1 x1) (h2:w.ownsRow b2 e2 s2 v2 n2 x2) (hne:e1≠e2):v1.ownBlock=none∨v1.ownBlock≠v2.ownBlock:=by
 rcases h2.2 with⟨rfl,-⟩|⟨g',cap',cur',rfl,-,p2,-⟩
 ·rcases h1.2 with⟨rfl,-⟩|⟨g,cap,cur,rfl,-,p1,-⟩
  ·exact .inl rfl
  ·exact .inr (by simp[Value.ownBlock])
 ·exact own_ne_blk h1 p2 hne
theorem CM.oc {w:World} {H O:Nat} {c:Ac} {vo vc:Value} (h:CM w H O c vo vc):vo.ownBlock=none∨vo.ownBlock≠vc.ownBlock:=owns_neE h.ro h.rc (by decide)
theorem CM.byte {w:World} {H O g n cap:Nat} {c:Ac} {vc:Value} (h:CM w H O c (.slice (some ⟨g,0,none⟩) n cap) vc) (i:Nat) (v:Int):CM (w.setCell ⟨g,i,none⟩ (.int .u8 v)) H O ⟨c.low,c.span,c.out.set i v,c.ch⟩ (.slice (some ⟨g,0,none⟩) n cap) vc:=by
 have h1:=h.oO;have h2:=h.oc;have hn:n=c.out.length:=by rcases h.ro.2 with⟨h0,-⟩|⟨_,_,_,h0,-⟩ <;> cases h0 <;> rfl
 subst hn;refine⟨blk_set_other h.bk (fun e=>h1 (by rw[e];rfl)),?_,ownsRow_setCell_other h.rc ?_ _,h.hO,by simpa using h.hs⟩
 ·have o2:=(h.ro.stored i (.int .u8 v)).1;unfold u8s at *;rw[←List.map_set]at o2
  simpa using o2
 ·rcases h2 with h2|h2
  ·cases h2
  ·exact fun e=>h2 (by rw[e];rfl)
theorem CM.app {w w2:World} {H O:Nat} {c:Ac} {vo vc v2:Value} {x:Int} (h:CM w H O c vo vc) (g:w.grownBy w2 vo.ownBlock) (o:w2.ownsRow H 5 1 v2 (c.out.length+1) (u8s c.out ++ [.int .u8 x])):CM (w2.setCell ⟨O,2,none⟩ v2) H O ⟨c.low,c.span,c.out ++ [x],c.ch⟩ v2 vc:=by
 have b2:=blk_gr h.bk g h.oO;have rc2:=h.rc.kept g (owns_neE h.rc h.ro (by decide));refine⟨?_,?_,ownsRow_setCell_other rc2 (neO rc2 b2 (by decide)) _,h.hO,by have:=h.hs;have:=g.size;simp;omega⟩
 ·have:=heap_setCell_same w2 O 2 _ _ v2 b2
  simpa using this
 ·have o2:=ownsRow_setCell_other o (a:=⟨O,2,none⟩) (neO o b2 (by decide)) v2;have e:(c.out ++ [x]).length=c.out.length+1:=by simp
  show World.ownsRow _ _ _ _ _ (c.out ++ [x]).length _;rw[e];unfold u8s at *;rw[List.map_append];exact o2
theorem bx4 {w:World} {b:Nat} {x y z u:Value} {T:TypeId} (h:w.heap[b]?=some (.cells #[x,y,z,u] T (0,0))):b<w.heap.size∧(w.cell? ⟨b,0,none⟩=some x∧w.cell? ⟨b,1,none⟩=some y∧w.cell? ⟨b,2,none⟩=some z∧w.cell? ⟨b,3,none⟩=some u)∧w.frozen? ⟨b,0,none⟩=false∧w.frozen? ⟨b,1,none⟩=false∧w.frozen? ⟨b,2,none⟩=false∧w.frozen? ⟨b,3,none⟩=false :=
 ⟨lt_of_block h,⟨by simp[World.cell?,h],by simp[World.cell?,h],by simp[World.cell?,h],by simp[World.cell?,h]⟩,by simp[World.frozen?,h],by simp[World.frozen?,h],by simp[World.frozen?,h],by simp[World.frozen?,h]⟩
end Go.Proofs.YtmokncpppmchfaaDoor
