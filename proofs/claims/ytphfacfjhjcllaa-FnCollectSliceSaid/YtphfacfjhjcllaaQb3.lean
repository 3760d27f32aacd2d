/- The binary range coder: plain. | The range coder: the reference's probabilities. | append onto a row of the call's own keeps each row no longer than it. | The program's scan order. | The length of a number in bits; rows of decisions and what stays beside them; the decisions for a number. | The range coder: the reference's memory. | Ranges over functions: entering and leaving a function that holds one. | A region whose operations may come in any order, the invariant told which of them have run; the same within a round of a range over a function. | The range coder: the reference's shift. -/
import Derived.Test.YtphfacfjhjcllaaQb2
import Derived.Lib.BitFns
import Derived.Lib.Strings
import Derived.Lib.Slices
import Derived.Lib.Small
import Derived.Lib.Walk
import Derived.Deep.Cut
import Derived.RangeFuncOwn
import Derived.OneCell
import Derived.RangeFuncNested
import Derived.RangeFuncBound
import Derived.RangeFuncCalls
import Derived.RangeFuncLeaves
import Derived.Shelf.Abstract
import Derived.Shelf.RegionOpen
import Derived.WalkKit
import Derived.OwnWalkIn
import Derived.TacticsInMore
import Derived.LoopNIn
import Derived.LoopIn
import Derived.OrdersIn
set_option linter.unusedVariables false
set_option linter.unusedSimpArgs false
set_option maxRecDepth 100000
set_option maxHeartbeats 16000000
namespace Go.Proofs.Ytphfacfjhjcllaa

/-- One is added to the number that bytes represent, the lowest one first. -/
def incR : List Int→List Int
 | [] => []
 | x::t=>if x=255 then 0::incR t else(x+1)::t
/-- One is added to the number that bytes represent. -/
def inc (l:List Int):List Int:=(incR l.reverse).reverse
def valR : List Int→Int
 | []=>0
 | x::t=>x+256*valR t
/-- The number that bytes represent. -/
def valB (l:List Int):Int:=valR l.reverse
def bytL (l:List Int):Prop:=∀ x∈l,0≤x∧x≤255
theorem incR_len (l:List Int):(incR l).length=l.length:=by
 induction l with
 | nil=>rfl
 | cons x t ih=>unfold incR;split <;> simp[ih]
theorem inc_len (l:List Int):(inc l).length=l.length:=by simp[inc,incR_len]
theorem incR_byt {l:List Int} (h:bytL l):bytL (incR l):=by
 induction l with
 | nil=>exact h
 | cons x t ih =>
  have hx:=h x (by simp);have ht:bytL t:=fun y hy=>h y (by simp[hy])
  unfold incR
  split
  ·intro y hy;rcases List.mem_cons.1 hy with rfl|hy
   ·omega
   ·exact ih ht y hy
  ·intro y hy;rcases List.mem_cons.1 hy with rfl|hy
   ·omega
   ·exact ht y hy
theorem bytL_rev {l:List Int} (h:bytL l):bytL l.reverse:=fun y hy=>h y (by simpa using hy)
theorem inc_byt {l:List Int} (h:bytL l):bytL (inc l):=bytL_rev (incR_byt (bytL_rev h))
theorem valR_nn {l:List Int} (h:bytL l):0≤valR l∧valR l<256^l.length:=by
 induction l with
 | nil=>simp[valR]
 | cons x t ih =>
  have hx:=h x (by simp);have ht:=ih (fun y hy=>h y (by simp[hy]));simp only[valR,List.length_cons,Int.pow_succ];omega
theorem valR_inc {l:List Int} (h:bytL l) (hv:valR l+1<256^l.length):valR (incR l)=valR l+1:=by
 induction l with
 | nil=>simp[valR]at hv
 | cons x t ih =>
  have hx:=h x (by simp);have htb:bytL t:=fun y hy=>h y (by simp[hy])
  have ht:=valR_nn htb;simp only[valR,List.length_cons,Int.pow_succ]at hv;unfold incR
  split
  ·rename_i e
   have:=ih htb (by omega);simp only[valR];omega
  ·simp only[valR];omega
theorem incR_at (m:Nat) (x:Int) (r:List Int) (hx:x≠255):incR (List.replicate m 255++x::r)=List.replicate m 0++(x+1)::r:=by
 induction m with
 | zero=>simp[incR,hx]
 | succ m ih=>simp[List.replicate_succ,incR,ih]
theorem inc_at (l:List Int) (x:Int) (m:Nat) (hx:x≠255):inc (l++x::List.replicate m 255)=l++(x+1)::List.replicate m 0:=by
 have e:(l++x::List.replicate m 255).reverse=List.replicate m 255++x::l.reverse:=by simp
 unfold inc;rw[e,incR_at m x _ hx];simp
theorem incR_split (l:List Int) (hv:∃ x∈l,x≠255):∃ m x r,l=List.replicate m 255++x::r∧x≠255:=by
 induction l with
 | nil=>obtain⟨x,hx,_⟩:=hv;cases hx
 | cons y t ih =>
  by_cases e:y=255
  ·subst e;obtain⟨m,x,r,h1,h2⟩:=ih (by
    obtain⟨x,hx,hn⟩:=hv;rcases List.mem_cons.1 hx with rfl|hx
    ·exact absurd rfl hn
    ·exact⟨x,hx,hn⟩)
   exact⟨m+1,x,r,by rw[h1];simp[List.replicate_succ],h2⟩
  ·exact⟨0,y,t,by simp,e⟩
theorem valR_max (m:Nat):valR (List.replicate m 255)+1=256^m:=by
 induction m with
 | zero=>rfl
 | succ m ih=>simp only[List.replicate_succ,valR,Int.pow_succ];omega
theorem inc_split {l:List Int} (hv:valB l+1<256^l.length):∃ r x m,l=r++x::List.replicate m 255∧x≠255:=by
 by_cases h:∃ x∈l.reverse,x≠255
 ·obtain⟨m,x,r,h1,h2⟩:=incR_split _ h;refine⟨r.reverse,x,m,?_,h2⟩;have:=congrArg List.reverse h1
  simpa using this
 ·have h0:l.reverse=List.replicate l.length 255:=List.eq_replicate_iff.2 ⟨by simp,fun b hb=>Classical.byContradiction fun hn=>h ⟨b,hb,hn⟩⟩;have:=valR_max l.length;unfold valB at hv;rw[h0]at hv;omega
theorem valB_inc {l:List Int} (h:bytL l) (hv:valB l+1<256^l.length):valB (inc l)=valB l+1:=by
 unfold valB inc at *;rw[List.reverse_reverse];exact valR_inc (bytL_rev h) (by simpa using hv)
theorem valB_snoc (l:List Int) (x:Int):valB (l ++ [x])=256*valB l+x:=by
 unfold valB;simp[valR];omega
/-- The coder's state: low, span, the bytes, the probabilities. -/
structure Ac where
 low:Nat
 span:Nat
 out:List Int
 ch:List Nat
def Ac.lo (c:Ac):Nat:=if 4294967296≤c.low then c.low-4294967296 else c.low
def Ac.car (c:Ac):List Int:=if 4294967296≤c.low then inc c.out else c.out
def Ac.shift (c:Ac):Ac:=⟨c.lo%16777216*256,c.span,c.car ++ [((c.lo/16777216:Nat):Int)],c.ch⟩
def nch (p bit:Nat):Nat:=if bit=0 then p+(4096-p)/16 else p-p/16
def Ac.bnd (c:Ac) (x:Nat):Nat:=c.span/4096*c.ch.getD x 0
def Ac.upd (c:Ac) (x bit:Nat):Ac :=
 if bit=0 then⟨c.low,c.bnd x,c.out,c.ch.set x (nch (c.ch.getD x 0) bit)⟩else⟨c.low+c.bnd x,c.span-c.bnd x,c.out,c.ch.set x (nch (c.ch.getD x 0) bit)⟩
def Ac.wide (c:Ac):Ac := { c.shift with span:=c.span*256 }
def Ac.norm : Nat→Ac→Ac
 | 0,c=>c
 | k+1,c=>if c.span<16777216 then Ac.norm k c.wide else c
def Ac.put (c:Ac) (b:Nat×Nat):Ac:=Ac.norm 3 (c.upd b.1 b.2)
def Ac.init : Ac:=⟨0,4294967295,[],List.replicate 40 2048⟩
def encC (l:List (Nat×Nat)):Ac:=l.foldl Ac.put Ac.init
def encL (l:List (Nat×Nat)):List Int:=(encC l).shift.shift.shift.shift.out
/-- The state's bounds; s stands for the span. -/
def Ac.inv (c:Ac) (s:Nat):Prop:=bytL c.out∧c.low+s<8589934592∧valB c.out*4294967296+c.low+s≤256^c.out.length*4294967296
def Ac.chk (c:Ac):Prop:=c.ch.length=40∧∀ x∈c.ch,1≤x∧x≤4095
theorem Ac.car_len (c:Ac):c.car.length=c.out.length:=by unfold Ac.car;split <;> simp[inc_len]
theorem Ac.carry {c:Ac} {s:Nat} (h:c.inv s) (hs:0<s) (hl:4294967296≤c.low):valB c.out+1<256^c.out.length:=by
 obtain⟨_,h2,h3⟩:=h;omega
theorem Ac.lo_lt {c:Ac} {s:Nat} (h:c.inv s):c.lo<4294967296:=by
 obtain⟨_,h2,h3⟩:=h;unfold Ac.lo
 split <;> omega
theorem Ac.car_ok {c:Ac} {s:Nat} (h:c.inv s) (hs:0<s):bytL c.car∧valB c.car*4294967296+c.lo=valB c.out*4294967296+c.low:=by
 unfold Ac.car Ac.lo
 by_cases hl:4294967296≤c.low
 ·rw[if_pos hl,if_pos hl];refine⟨inc_byt h.1,?_⟩;rw[valB_inc h.1 (Ac.carry h hs hl)];omega
 ·rw[if_neg hl,if_neg hl];exact⟨h.1,rfl⟩
theorem Ac.shift_inv {c:Ac} {s:Nat} (h:c.inv s) (hs:0<s) (hs2:s<16777216):c.shift.inv (s*256):=by
 obtain⟨h1,h2⟩:=Ac.car_ok h hs;have h3:=Ac.lo_lt h;have h4:=h.2.2;refine⟨fun x hx => ?_,?_,?_⟩
 ·rcases List.mem_append.1 hx with hx|hx
  ·exact h1 x hx
  ·simp at hx;omega
 ·show c.lo%16777216*256+s*256<8589934592;omega
 ·show valB (c.car ++ [((c.lo/16777216:Nat):Int)])*4294967296+((c.lo%16777216*256:Nat):Int)+((s*256:Nat):Int)≤256^(c.car ++ [((c.lo/16777216:Nat):Int)]).length*4294967296;rw[valB_snoc,List.length_append,Ac.car_len];simp only[List.length_cons,List.length_nil,Int.pow_succ];omega
theorem nch_rng {p bit:Nat} (h1:1≤p) (h2:p≤4095):1≤nch p bit∧nch p bit≤4095:=by
 unfold nch
 split <;> omega
theorem Ac.bnd_rng {c:Ac} (h:c.chk) (h1:16777216≤c.span) (h2:c.span<4294967296) {x:Nat} (hx:x<40):1≤c.bnd x∧c.bnd x<c.span∧1≤c.span/4096∧c.span/4096<1048576∧1≤c.ch.getD x 0∧c.ch.getD x 0≤4095:=by
 have hm:c.ch.getD x 0∈c.ch:=by
  have hl:x<c.ch.length:=by rw[h.1];exact hx
  rw[List.getD,List.getElem?_eq_getElem hl];exact List.getElem_mem _
 obtain⟨a,b⟩:=h.2 _ hm;unfold Ac.bnd;generalize c.ch.getD x 0=p at *;generalize hq:c.span/4096=q at *;have hq1:4096≤q:=by omega
 have h3:q*1≤q*p:=Nat.mul_le_mul_left q a;have h4:q*p≤q*4095:=Nat.mul_le_mul_left q b;omega
theorem Ac.upd_chk {c:Ac} (h:c.chk) {x bit:Nat} (hx:x<40):(c.upd x bit).chk:=by
 have hm:c.ch.getD x 0∈c.ch:=by
  have hl:x<c.ch.length:=by rw[h.1];exact hx
  rw[List.getD,List.getElem?_eq_getElem hl];exact List.getElem_mem _
 obtain⟨a,b⟩:=h.2 _ hm;have:(c.ch.set x (nch (c.ch.getD x 0) bit)).length=40∧∀ y∈c.ch.set x (nch (c.ch.getD x 0) bit),1≤y∧y≤4095:=by
  refine⟨by rw[List.length_set];exact h.1,fun y hy => ?_⟩;rcases List.mem_or_eq_of_mem_set hy with hy|rfl
  ·exact h.2 y hy
  ·exact nch_rng a b
 unfold Ac.upd
 split <;> exact this
theorem Ac.upd_inv {c:Ac} (h:c.inv c.span) (hc:c.chk) (h1:16777216≤c.span) (h2:c.span<4294967296) {x bit:Nat} (hx:x<40):(c.upd x bit).inv (c.upd x bit).span∧1≤(c.upd x bit).span∧(c.upd x bit).span<4294967296:=by
 obtain⟨b1,b2,-⟩:=Ac.bnd_rng hc h1 h2 hx;obtain⟨i1,i2,i3⟩:=h;unfold Ac.upd
 split
 ·exact⟨⟨i1,by show c.low+c.bnd x<_;omega,by show valB c.out*4294967296+(c.low:Int)+(c.bnd x:Nat)≤256^c.out.length*4294967296;omega⟩,by show 1≤c.bnd x;omega,by show c.bnd x<_;omega⟩
 ·refine⟨⟨i1,?_,?_⟩,?_,?_⟩
  ·show c.low+c.bnd x+(c.span-c.bnd x)<_;omega
  ·show valB c.out*4294967296+((c.low+c.bnd x:Nat):Int)+((c.span-c.bnd x:Nat):Int)≤256^c.out.length*4294967296;omega
  ·show 1≤c.span-c.bnd x;omega
  ·show c.span-c.bnd x<_;omega
theorem Ac.wide_inv {c:Ac} (h:c.inv c.span) (h1:1≤c.span) (h2:c.span<16777216):c.wide.inv c.wide.span:=Ac.shift_inv h h1 h2
theorem Ac.norm_ok (k:Nat):∀ {c:Ac},c.inv c.span→1≤c.span→c.span<4294967296→16777216≤c.span*256^k→c.chk →
 (Ac.norm k c).inv (Ac.norm k c).span∧16777216≤(Ac.norm k c).span∧(Ac.norm k c).span<4294967296∧(Ac.norm k c).chk∧(Ac.norm k c).out.length≤c.out.length+k:=by
 induction k with
 | zero=>intro c h h1 h2 h3 hc;simp at h3;exact⟨h,h3,h2,hc,Nat.le_refl _⟩
 | succ k ih =>
  intro c h h1 h2 h3 hc;unfold Ac.norm
  split
  ·rename_i hl
   have:=ih (c:=c.wide) (Ac.wide_inv h h1 hl) (by show 1≤c.span*256;omega) (by show c.span*256<_;omega) (by show 16777216≤c.span*256*256^k;rw[Nat.pow_succ]at h3;rw[Nat.mul_assoc,Nat.mul_comm 256];exact h3) hc;obtain⟨a,b,d,e,f⟩:=this;refine⟨a,b,d,e,?_⟩;have:c.wide.out.length=c.out.length+1:=by show(c.car ++ [_]).length=_;rw[List.length_append,Ac.car_len];rfl
   omega
  ·rename_i hl
   exact⟨h,by omega,h2,hc,by omega⟩
def Ac.good (c:Ac):Prop:=c.inv c.span∧16777216≤c.span∧c.span<4294967296∧c.chk
theorem Ac.put_ok {c:Ac} (h:c.good) {b:Nat×Nat} (hb:b.1<40):(c.put b).good∧(c.put b).out.length≤c.out.length+3:=by
 obtain⟨a1,a2,a3⟩:=Ac.upd_inv h.1 h.2.2.2 h.2.1 h.2.2.1 (bit:=b.2) hb;obtain⟨b1,b2,b3,b4,b5⟩:=Ac.norm_ok 3 a1 a2 a3 (by omega) (Ac.upd_chk h.2.2.2 hb);have:(c.upd b.1 b.2).out=c.out:=by unfold Ac.upd;split <;> rfl
 rw[this]at b5;exact⟨⟨b1,b2,b3,b4⟩,b5⟩
theorem Ac.init_good : Ac.init.good:=by
 refine⟨⟨fun x hx=>(by cases hx),by decide,by decide⟩,by decide,by decide,by decide,fun x hx => ?_⟩;have:=(List.mem_replicate.1 hx).2;omega
theorem encC_ok (l:List (Nat×Nat)) (h:∀ b∈l,b.1<40):(encC l).good∧(encC l).out.length≤3*l.length:=by
 suffices ∀(c:Ac) (k:Nat),c.good→c.out.length≤k→(l.foldl Ac.put c).good∧(l.foldl Ac.put c).out.length≤k+3*l.length by
  have:=this Ac.init 0 Ac.init_good (by decide);rw[Nat.zero_add]at this;exact this
 induction l with
 | nil=>intro c k h1 h2;exact⟨h1,by simpa using h2⟩
 | cons b l ih =>
  intro c k h1 h2;obtain⟨g1,g2⟩:=Ac.put_ok h1 (h b (by simp));have:=ih (fun x hx=>h x (by simp[hx])) (c.put b) (k+3) g1 (by omega);rw[List.foldl_cons];refine⟨this.1,?_⟩;have:=this.2;simp only[List.length_cons];omega
end Go.Proofs.Ytphfacfjhjcllaa
namespace Go.Proofs.Ytphfacfjhjcllaa
open Go.RowKit
theorem spec_NextChance_in (p bit:Nat) (w:World) (h1:1≤p) (h2:p≤4095) (hb:bit≤1) :
 Calls Try.prog 66 #[.int .i64 p,.int .i64 bit] w fun e w'=>e= .returned (.int .i64 (nch p bit))∧w=w':=by
 have hn:(nch p bit:Int)=if bit=0 then(p:Int)+(4096-p)/16 else(p:Int)-p/16:=by
  unfold nch
  split <;> omega
 have Hn:=Lib.hid hn;clear hn;go_enter Try.func66,Try.ntmps66
 go_wp2_with fail
 refine(l1In_yes _ _ _ _ (by omega) (by omega)).mono ?_
 rintro e w1 ⟨rfl,rfl⟩
 go_wp2_with fail
 refine(l1In_yes _ _ _ _ (by omega) (by omega)).mono ?_
 rintro e w1 ⟨rfl,rfl⟩
 by_cases h0:bit=0
 ·have hd:decide ((bit:Int)=0)=true:=by simp;omega
  go_wp2;go_ret
  exact⟨by rw[Hn.out,if_pos h0];congr 2 <;> omega,rfl⟩
 ·have hd:decide ((bit:Int)=0)=false:=by simp;omega
  go_wp2;go_ret
  exact⟨by rw[Hn.out,if_neg h0];congr 2 <;> omega,rfl⟩
theorem spec_l9Chances_any (w:World) :
 Calls Try.prog 55 #[] w fun e w'=>∃ v,e= .returned v∧w'.ownsRow w.heap.size 3 1 v 40 ((List.replicate 40 (2048:Int)).map (Value.int .i64))∧Ext w w':=by
 go_enter Try.func55,Try.ntmps55
 have E1:Ext w (w.alloc (.cells #[] 3)):=(Below.refl _ _).alloc (Nat.le_refl _) _;have hown:=World.ownsRow_made (base:=w.heap.size) (e:=3) (size:=1) w #[] 0 (Nat.le_refl _) (by simp) rfl;go_wp2_with fail
 go_loopw [1,2] (fun v i wr=>∃ k:Nat,k≤40∧i= .int .i64 k∧Ext w wr∧wr.ownsRow w.heap.size 3 1 v k ((List.replicate k (2048:Int)).map (Value.int .i64))) (fun _ i _=>40-(intOf i).toNat)
 case atStart=>exact⟨0,by omega,rfl,E1,by simpa using hown⟩
 case round =>
  obtain⟨k,hk,rfl,E2,hown2⟩:=hrel;clear hown E1
  by_cases hlt:k<40
  ·have hsz:=E2.size;go_wp2_with (at_builtin;refine wpList_app _ hown2 hsz _ rfl _ _ 26 rfl (.int .i64 0) 8 Try.underlying26 info_int rfl rfl rfl rfl (by omega) (by omega) ?_;intro v2 w2 own3 gr2 _)
   go_roundw
   case rel =>
    refine⟨k+1,by omega,rfl,Ext.grown E2 gr2 (owns_ge hown2),?_⟩;rw[List.replicate_succ',List.map_append];exact own3
   case measure=>simp[intOf];omega
  ·obtain rfl:k=40:=by omega
   have hd:decide (((40:Nat):Int)<40)=false:=by simp
   go_wp2;go_ret
   exact⟨_,rfl,hown2,E2⟩
section
variable {P : Program} (w : World)
theorem run_append_keep (base:Nat) (t ty e:TypeId) (i:TypeInfo) (z:Value) (size bytes:Nat) (ht:P.underlying t=some (.slice e)) (hi:P.info? e=some i) (hz:i.zero=some z)
 (hsize:i.size=size) (hby:i.bytes=bytes) (hzs:z.cells.size=size) (hsz:0<size)
 (v:Value) (n:Nat) (xs:List Value) (hown:w.ownsRow base e size v n xs)
 (a:Addr) (m c:Nat) (news:List Value) (hl:news.length=m*size) (hnews:∀ j u,news[j]?=some u→w.cell? (a.add j)=some u) (h1:∀ u∈news,u.oneCell'=true)
 (h63:n+m≤maxLen) (hbytes:(n+m)*bytes≤140737488355328) (hbase:base≤w.heap.size) :
 ∃ v' w',(Builtin.append_ #[t,t] ty #[v,.slice (some a) m c]).run P w= .ok v' w'∧w'.ownsRow base e size v' (n+m) (xs++news)∧w.grownBy w' v.ownBlock ∧
  (∀ b' n' own xs',n'≤n→w.ownsRow b' e size own n' xs'→w'.ownsRow b' e size own n' xs'):=by
 obtain⟨v',w',hr,h2,h3,-⟩:=run_append_own (P:=P) w base t ty e i z size bytes ht hi hz hsize hby hzs hsz v n xs hown a m c news hl hnews h1 h63 hbytes hbase;refine⟨v',w',hr,h2,h3,fun b' n' own xs' hn' ho => ?_⟩
 by_cases hne:own.ownBlock=none∨own.ownBlock≠v.ownBlock
 ·exact ho.kept h3 hne
 ·have hsm:n+m≤9223372036854775807:=by simp only[maxLen]at h63;omega
  rcases id hown.2 with⟨rfl,rfl⟩|⟨g,cap,cur,rfl,hbg,hg,hnc,hcm,hcs,htake⟩
  ·exact absurd (show own.ownBlock=none∨_ from by
    cases h:own.ownBlock with
    | none=>exact .inl rfl
    | some q=>exact .inr (by simp[Value.ownBlock])) hne
  ·subst hsize
   by_cases hroom:n+m≤cap
   ·have hfit:n*i.size+news.length≤cur.size:=by rw[hl,hcs,←Nat.add_mul];exact Nat.mul_le_mul_right _ hroom
    have hr2:=run_append_room (P:=P) w t ty e i ht hi g n cap cur hg a m c news hl hnews h1 hroom hfit;rw[hr]at hr2;simp only[Result.ok.injEq]at hr2;obtain⟨-,rfl⟩:=hr2;rcases id ho.2 with⟨rfl,-⟩|⟨g',cap',cur',rfl,hb',hg',hnc',hcm',hcs',htake'⟩
    ·exact absurd (.inl rfl) hne
    ·have hgg:g'=g:=by
      have : ¬ (some g':Option Nat)≠some g:=fun h=>hne (.inr h)
      simpa using this
     subst hgg;rw[hg]at hg';simp only[Option.some.injEq,Obj.cells.injEq,and_true]at hg';subst hg';refine⟨ho.1,.inr ⟨g',cap',_,rfl,hb',setRow_heap w g' cur _ e _ hg,hnc',hcm',?_,?_⟩⟩
     ·simp only[List.size_toArray,List.length_append,List.length_take,List.length_drop,Array.length_toList];omega
     ·have hle:n'*i.size≤n*i.size:=Nat.mul_le_mul_right _ hn';have hlen:(cur.toList.take (n*i.size)).length=n*i.size:=by
       rw[List.length_take,Array.length_toList];omega
      rw[List.toList_toArray,List.append_assoc,List.take_append_of_le_length (by rw[hlen];exact hle),List.take_take,Nat.min_eq_left hle];exact htake'
   ·have holds:∀ j u,xs[j]?=some u→w.cell? ((⟨g,0,none⟩:Addr).add j)=some u:=hown.cells (g:=g) rfl;have hr2:=run_append_grow (P:=P) w t ty e i z ht hi hz ⟨g,0,none⟩ n cap xs hown.1 holds a m c news hl hnews (by omega) (by omega) (growslice_fits (by omega) (by rw[hby];exact hbytes));rw[hr]at hr2;simp only[Result.ok.injEq]at hr2;obtain⟨-,rfl⟩:=hr2;exact ho.kept (row:=none) ⟨rfl,rfl,rfl,by simp,fun k hk _=>(World.grownBy_alloc w.drew _ none).block k hk (by simp)⟩ (by cases own.ownBlock <;> simp)
/-- an operation that is wanted. -/
theorem wpList_want {ops:Array Oper} {rest:List Oper} {o:Oper} {a:Act} {Q:Exit→Act→World→Prop} {w:World} (hw:Region.wanted o (yielded ops a.tmps)=true)
 (h:∀ K:Act→World→Prop,(∀ a w,wpList P ops Q rest a w→K a w)→o.wp P a w K Q):wpList P ops Q (o::rest) a w :=
 wpList_step fun K hK=>by rw[if_pos hw];exact h K hK
theorem wpList_appk {ops:Array Oper} {rest:List Oper} {o:Oper} {a:Act} {Q:Exit→Act→World→Prop} {base e size:Nat} {v:Value} {n:Nat} {xs:List Value}
 (hw:Region.wanted o (yielded ops a.tmps)=true)
 (hown:w.ownsRow base e size v n xs) (hbase:base≤w.heap.size)
 (s x:Operand) (t:TypeId) (ho:o.op= .call { callee := .builtin .append,args := #[s,x],argTypes := #[t,t] })
 (z:Value) (bytes:Nat) (h1:P.underlying t=some (.slice e)) (h2:(P.info? e).map (fun i=>(i.zero,i.size,i.bytes))=some (some z,size,bytes)) (hz1:z.cells.size=size) (hsz:0<size)
 (hs:a.eval s=v) (ad:Addr) (m c:Nat) (us:List Value) (hx:a.eval x= .slice (some ad) m c) (hl:us.length=m*size) (hcell:∀(j:Nat) q,us[j]?=some q→w.cell? (ad.add j)=some q) (hu1:∀ u∈us,u.oneCell'=true)
 (hb:(n+m)*bytes≤140737488355328) (hn:n+m<2^62)
 (h:∀ v' w',w'.ownsRow base e size v' (n+m) (xs++us)→w.grownBy w' v.ownBlock→(∀ b' n' own xs',n'≤n→w.ownsRow b' e size own n' xs'→w'.ownsRow b' e size own n' xs')→wpList P ops Q rest (a.put o.dst v') w'):wpList P ops Q (o::rest) a w:=by
 obtain⟨i0,hi,hz0,hz1',hz2⟩:=info_parts h2;obtain⟨v',w',hr,k2,k3,k4⟩:=run_append_keep (P:=P) w base t o.type e i0 z size bytes h1 hi hz0 hz1' hz2 hz1 hsz v n xs hown ad m c us hl hcell hu1 (by unfold maxLen;omega) hb hbase;refine wpList_want hw fun K hK => ?_
 unfold Oper.wp execOp;simp only[ho,resolve,invoke,builtin,Sem.run_bind,Sem.run_pure,Result.andThen_ok,List.map_toArray,List.map_cons,List.map_nil,hs,hx,hr];exact hK _ _ (h v' w' k2 k3 k4)
/-- append that does not fit. -/
theorem wpList_appn {ops:Array Oper} {rest:List Oper} {o:Oper} {a:Act} {Q:Exit→Act→World→Prop} {base e size g cap:Nat} {n:Nat} {xs:List Value}
 (hw:Region.wanted o (yielded ops a.tmps)=true)
 (hown:w.ownsRow base e size (.slice (some ⟨g,0,none⟩) n cap) n xs) (hbase:base≤w.heap.size)
 (s x:Operand) (t:TypeId) (ho:o.op= .call { callee := .builtin .append,args := #[s,x],argTypes := #[t,t] })
 (z:Value) (bytes:Nat) (h1:P.underlying t=some (.slice e)) (h2:(P.info? e).map (fun i=>(i.zero,i.size,i.bytes))=some (some z,size,bytes)) (hz1:z.cells.size=size) (hsz:0<size)
 (hs:a.eval s= .slice (some ⟨g,0,none⟩) n cap) (ad:Addr) (m c:Nat) (us:List Value) (hx:a.eval x= .slice (some ad) m c) (hl:us.length=m*size) (hcell:∀(j:Nat) q,us[j]?=some q→w.cell? (ad.add j)=some q) (hu1:∀ u∈us,u.oneCell'=true)
 (hb:(n+m)*bytes≤140737488355328) (hn:n+m<2^62) (hcap:cap<n+m)
 (h:∀ v' w',w'.ownsRow base e size v' (n+m) (xs++us)→Ext w w'→wpList P ops Q rest (a.put o.dst v') w'):wpList P ops Q (o::rest) a w:=by
 obtain⟨i0,hi,hz0,hz1',hz2⟩:=info_parts h2;obtain⟨v',w',hr,k2,k3,k4⟩:=run_append_keep (P:=P) w base t o.type e i0 z size bytes h1 hi hz0 hz1' hz2 hz1 hsz _ n xs hown ad m c us hl hcell hu1 (by unfold maxLen;omega) hb hbase;have hE:Ext w w':=by
  subst hz1';have holds:∀ j u,xs[j]?=some u→w.cell? ((⟨g,0,none⟩:Addr).add j)=some u:=hown.cells (g:=g) rfl;have hr2:=run_append_grow (P:=P) w t o.type e i0 z h1 hi hz0 ⟨g,0,none⟩ n cap xs hown.1 holds ad m c us hl hcell (by omega) (by omega) (growslice_fits (by omega) (by rw[hz2];exact hb));rw[hr]at hr2;simp only[Result.ok.injEq]at hr2;obtain⟨-,rfl⟩:=hr2;exact(Ext.drewN w 1).trans (Ext.alloc _ _)
 refine wpList_want hw fun K hK => ?_
 unfold Oper.wp execOp;simp only[ho,resolve,invoke,builtin,Sem.run_bind,Sem.run_pure,Result.andThen_ok,List.map_toArray,List.map_cons,List.map_nil,hs,hx,hr];exact hK _ _ (h v' w' k2 hE)
end
end Go.Proofs.Ytphfacfjhjcllaa
namespace Go.Proofs.Ytphfacfjhjcllaa
open Go.RowKit
/-- The row of the j-th number of diagonal d. -/
def scRow (d j:Nat):Nat:=if d%2=0 then d-j else j
def scStep (d j:Nat) (s:Nat×List Int):Nat×List Int:=if scRow d j<4∧d-scRow d j<4 then(s.1+1,s.2.set s.1 (4*(scRow d j:Int)+((d-scRow d j:Nat):Int)))else(s.1,s.2)
def scIn (d:Nat) (s:Nat×List Int):Nat→Nat×List Int
 | 0=>s
 | j+1=>scStep d j (scIn d s j)
def scOut : Nat→Nat×List Int
 | 0=>(0,zl 16)
 | d+1=>scIn d (scOut d) (d+1)
/-- The order. -/
def scanL : List Int := [0,1,4,8,5,2,3,6,9,12,13,10,7,11,14,15]
theorem size_A16s : (Try.prog.info? 81).map (·.size)=some 16:=by kernel_rfl
/-- Not a block of type T. -/
def notT (T:TypeId) (o:Obj):Prop:=∀ cs fr,o ≠ .cells cs T fr
/-- Nothing below B changed, and of the rest only rows of type T. -/
structure FR (B T : Nat) (w w' : World) : Prop where
 lo:Below B w w'
 ot:∀(i:Nat) (o:Obj),w.heap[i]?=some o→notT T o→w'.heap[i]?=some o
theorem FR.refl (B T:Nat) (w:World):FR B T w w:=⟨Below.refl _ _,fun _ _ h _=>h⟩
theorem FR.trans {B T:Nat} {a b c:World} (h:FR B T a b) (k:FR B T b c):FR B T a c:=⟨h.lo.trans k.lo,fun i o h1 h2=>k.ot i o (h.ot i o h1 h2) h2⟩
theorem FR.of_ext {B T:Nat} {w w':World} (h:Ext w w') (hB:B≤w.heap.size):FR B T w w':=⟨h.mono hB,fun _ _ h1 _=>h.blk h1⟩
theorem FR.of_row {B T s n:Nat} {v:Value} {xs:List Value} {w w':World} (o:w.ownsRow B T s v n xs) (g:w.grownBy w' v.ownBlock) (hB:B≤w.heap.size):FR B T w w':=by
 have hge:=owns_ge o;refine⟨⟨g.os,g.tape,g.output,g.size,fun k hk=>g.block k (by omega) (fun e=>by have:=hge k e.symm;omega)⟩,fun i ob h1 h2 => ?_⟩;refine(g.block i (lt_of_block h1) (fun e => ?_)).trans h1;rcases o.2 with⟨rfl,-⟩|⟨b,cap,cur,rfl,-,hb,-⟩
 ·cases e
 ·cases e;rw[hb]at h1;cases h1;exact h2 _ _ rfl
theorem FR.size {B T:Nat} {w w':World} (h:FR B T w w'):w.heap.size≤w'.heap.size:=h.lo.size
theorem FR.ext {B T:Nat} {a w w':World} (h:Ext a w) (f:FR B T w w') (hB:a.heap.size≤B):Ext a w':=Below.trans h (f.lo.mono hB)
theorem FR.ib {B T U b:Nat} {zs:List Int} {w w':World} (f:FR B T w w') (h:IB w b U zs) (hne:U≠T):IB w' b U zs:=f.ot b _ h (fun cs fr e=>by cases e;exact hne rfl)
theorem FR.blk {B T U b:Nat} {cs:Array Value} {fr:Nat×Nat} {w w':World} (f:FR B T w w') (h:w.heap[b]?=some (.cells cs U fr)) (hne:U≠T):w'.heap[b]?=some (.cells cs U fr):=f.ot b _ h (fun cs fr e=>by cases e;exact hne rfl)
theorem FR.keeps {B T:Nat} {w w':World} (f:FR B T w w'):KeepsOthers w w':=⟨f.size,fun k o h1 h2=>f.ot k o h1 (fun cs fr e=>by subst e;cases h2)⟩
theorem FR.low {B T b:Nat} {o:Obj} {w w':World} (f:FR B T w w') (h:w.heap[b]?=some o) (hb:b<B):w'.heap[b]?=some o:=(f.lo.block b hb).trans h
/-- One less than the number of binary digits of n + 1. -/
def kOf (n:Nat):Nat:=Nat.log2 (n+1)
theorem kOf_lo (n:Nat):2^kOf n≤n+1:=Nat.log2_self_le (by omega)
theorem kOf_hi (n:Nat):n+1<2^(kOf n+1):=Nat.lt_log2_self
theorem kOf_le {n:Nat} (h:n<32768):kOf n≤15:=by
 have h1:=kOf_lo n;refine Classical.byContradiction fun hk => ?_
 have h2:=Nat.pow_le_pow_right (show 0<2 by decide) (show 16≤kOf n by omega);have:(2:Nat)^16=65536:=by decide
 omega
/-- The first i decisions: k times 1, and 0. -/
def upL (b k:Nat):Nat→List Int
 | 0 => []
 | i+1=>upL b k i ++ [((b+min i 5:Nat):Int),if i=k then 0 else 1]
/-- The k digits behind the first one, down to digit j. -/
def dnL (m b k:Nat):Nat→List Int
 | 0 => []
 | j+1=>dnL m b k j ++ [((b+6:Nat):Int),((m/2^(k-1-j)%2:Nat):Int)]
def numL (n b:Nat):List Int:=upL b (kOf n) (kOf n+1)++dnL (n+1) b (kOf n) (kOf n)
/-- How many decisions there are. -/
def numN (n:Nat):Nat:=2*kOf n+1
theorem numN_le {n:Nat} (h:n<32768):numN n≤31:=by have:=kOf_le h;unfold numN;omega
def sidx (v:Int):Int:=if 0<v then 2*v-1 else -2*v
theorem sidx_rng {v B:Int} (h1 : -B≤v) (h2:v≤B):0≤sidx v∧sidx v≤2*B:=by unfold sidx;split <;> omega
theorem spec_SignedIndex_in (v:Int) (w:World) (h1 : -32767≤v) (h2:v≤32767) :
 Calls Try.prog 52 #[.int .i64 v] w fun e w'=>e= .returned (.int .i64 (sidx v))∧w=w':=by
 unfold sidx;go_enter Try.func52,Try.ntmps52
 by_cases hc:0<v
 ·rw[if_pos hc];go_wp2_with fail
  refine(l1In_yes v (-32767) 32767 _ h1 h2).mono ?_
  rintro e w1 ⟨rfl,rfl⟩
  go_wp2;go_ret
  first|exact⟨rfl,rfl⟩|exact⟨by simp;omega,rfl⟩
 ·rw[if_neg hc];go_wp2_with fail
  refine(l1In_yes v (-32767) 32767 _ h1 h2).mono ?_
  rintro e w1 ⟨rfl,rfl⟩
  go_wp2;go_ret
  first|exact⟨rfl,rfl⟩|exact⟨by simp;omega,rfl⟩
def u8s (l:List Int):List Value:=l.map (Value.int .u8)
def ch64 (l:List Nat):List Value:=l.map (fun(k:Nat)=>Value.int .i64 (k:Int))
/-- The coder c in memory: a block O of four cells, the bytes in a row vo of the call's own, the probabilities in a row vc of its own; H: below it nothing is the call's. -/
structure CM (w : World) (H O : Nat) (c : Ac) (vo vc : Value) : Prop where
 bk:w.heap[O]?=some (.cells #[.int .i64 (c.low:Int),.int .i64 (c.span:Int),vo,vc] 104 (0,0))
 ro:w.ownsRow H 5 1 vo c.out.length (u8s c.out)
 rc:w.ownsRow H 3 1 vc 40 (ch64 c.ch)
 hO:H≤O
 hs:H≤w.heap.size
theorem neO {w:World} {H O n e:Nat} {v:Value} {xs:List Value} {arr:Array Value} (h:w.ownsRow H e 1 v n xs) (hq:w.heap[O]?=some (.cells arr 104 (0,0))) (hne:e≠104):v.ownBlock≠some O:=by
 rcases own_ne_blk h hq hne with h0|h0
 ·rw[h0];exact fun h=>by cases h
 ·exact h0
theorem CM.oO {w:World} {H O:Nat} {c:Ac} {vo vc:Value} (h:CM w H O c vo vc):vo.ownBlock≠some O:=neO h.ro h.bk (by decide)
theorem CM.cO {w:World} {H O:Nat} {c:Ac} {vo vc:Value} (h:CM w H O c vo vc):vc.ownBlock≠some O:=neO h.rc h.bk (by decide)
theorem CM.low {w:World} {H O:Nat} {c:Ac} {vo vc:Value} (h:CM w H O c vo vc) (v:Nat):CM (w.setCell ⟨O,0,none⟩ (.int .i64 (v:Int))) H O ⟨v,c.span,c.out,c.ch⟩ vo vc:=by
 refine⟨?_,ownsRow_setCell_other h.ro h.oO _,ownsRow_setCell_other h.rc h.cO _,h.hO,by simpa using h.hs⟩;have:=heap_setCell_same w O 0 _ _ (.int .i64 (v:Int)) h.bk
 simpa using this
theorem CM.spn {w:World} {H O:Nat} {c:Ac} {vo vc:Value} (h:CM w H O c vo vc) (v:Nat):CM (w.setCell ⟨O,1,none⟩ (.int .i64 (v:Int))) H O ⟨c.low,v,c.out,c.ch⟩ vo vc:=by
 refine⟨?_,ownsRow_setCell_other h.ro h.oO _,ownsRow_setCell_other h.rc h.cO _,h.hO,by simpa using h.hs⟩;have:=heap_setCell_same w O 1 _ _ (.int .i64 (v:Int)) h.bk
 simpa using this
theorem owns_neE {w:World} {b1 b2 e1 e2 s1 s2 n1 n2:Nat} {v1 v2:Value} {x1 x2:List Value} (h1:w.ownsRow b1 e1 s1 v1 n1 x1) (h2:w.ownsRow b2 e2 s2 v2 n2 x2) (hne:e1≠e2):v1.ownBlock=none∨v1.ownBlock≠v2.ownBlock:=by
 rcases h2.2 with⟨rfl,-⟩|⟨g',cap',cur',rfl,-,p2,-⟩
 ·rcases h1.2 with⟨rfl,-⟩|⟨g,cap,cur,rfl,-,p1,-⟩
  ·exact .inl rfl
  ·exact .inr (by simp[Value.ownBlock])
 ·exact own_ne_blk h1 p2 hne
theorem CM.oc {w:World} {H O:Nat} {c:Ac} {vo vc:Value} (h:CM w H O c vo vc):vo.ownBlock=none∨vo.ownBlock≠vc.ownBlock:=owns_neE h.ro h.rc (by decide)
theorem CM.byte {w:World} {H O g n cap:Nat} {c:Ac} {vc:Value} (h:CM w H O c (.slice (some ⟨g,0,none⟩) n cap) vc) (i:Nat) (v:Int):CM (w.setCell ⟨g,i,none⟩ (.int .u8 v)) H O ⟨c.low,c.span,c.out.set i v,c.ch⟩ (.slice (some ⟨g,0,none⟩) n cap) vc:=by
 have h1:=h.oO;have h2:=h.oc;have hn:n=c.out.length:=by rcases h.ro.2 with⟨h0,-⟩|⟨_,_,_,h0,-⟩ <;> cases h0 <;> rfl
 subst hn;refine⟨blk_set_other h.bk (fun e=>h1 (by rw[e];rfl)),?_,ownsRow_setCell_other h.rc ?_ _,h.hO,by simpa using h.hs⟩
 ·have o2:=(h.ro.stored i (.int .u8 v)).1;unfold u8s at *;rw[←List.map_set]at o2
  simpa using o2
 ·rcases h2 with h2|h2
  ·cases h2
  ·exact fun e=>h2 (by rw[e];rfl)
theorem CM.app {w w2:World} {H O:Nat} {c:Ac} {vo vc v2:Value} {x:Int} (h:CM w H O c vo vc) (g:w.grownBy w2 vo.ownBlock) (o:w2.ownsRow H 5 1 v2 (c.out.length+1) (u8s c.out ++ [.int .u8 x])):CM (w2.setCell ⟨O,2,none⟩ v2) H O ⟨c.low,c.span,c.out ++ [x],c.ch⟩ v2 vc:=by
 have b2:=blk_gr h.bk g h.oO;have rc2:=h.rc.kept g (owns_neE h.rc h.ro (by decide));refine⟨?_,?_,ownsRow_setCell_other rc2 (neO rc2 b2 (by decide)) _,h.hO,by have:=h.hs;have:=g.size;simp;omega⟩
 ·have:=heap_setCell_same w2 O 2 _ _ v2 b2
  simpa using this
 ·have o2:=ownsRow_setCell_other o (a:=⟨O,2,none⟩) (neO o b2 (by decide)) v2;have e:(c.out ++ [x]).length=c.out.length+1:=by simp
  show World.ownsRow _ _ _ _ _ (c.out ++ [x]).length _;rw[e];unfold u8s at *;rw[List.map_append];exact o2
theorem bx4 {w:World} {b:Nat} {x y z u:Value} {T:TypeId} (h:w.heap[b]?=some (.cells #[x,y,z,u] T (0,0))):b<w.heap.size∧(w.cell? ⟨b,0,none⟩=some x∧w.cell? ⟨b,1,none⟩=some y∧w.cell? ⟨b,2,none⟩=some z∧w.cell? ⟨b,3,none⟩=some u)∧w.frozen? ⟨b,0,none⟩=false∧w.frozen? ⟨b,1,none⟩=false∧w.frozen? ⟨b,2,none⟩=false∧w.frozen? ⟨b,3,none⟩=false :=
 ⟨lt_of_block h,⟨by simp[World.cell?,h],by simp[World.cell?,h],by simp[World.cell?,h],by simp[World.cell?,h]⟩,by simp[World.frozen?,h],by simp[World.frozen?,h],by simp[World.frozen?,h],by simp[World.frozen?,h]⟩
def keepB (b:Nat) (W W':World):Prop:=W'.heap[b]?=W.heap[b]?
theorem keepB.t {b:Nat} {A B C:World} (h:keepB b A B) (k:keepB b B C):keepB b A C:=k.trans h
theorem keepB.b {b n:Nat} (hb:b<n) (W:World) (l:Nat) (o o':Obj) (hl:n≤l) (_:W.heap[l]?=some o) (_:o.isCells=false) (_:o.isWalk=false):keepB b W (W.putObj l o'):=World.putObj_heap_other (by omega)
/-- Operation j has run too. -/
def updL (L:Nat→Bool) (j:Nat):Nat→Bool:=fun i=>if i=j then true else L i
/-- What every operation must do. -/
structure ObOkL (P : Program) (ol : List Oper) (l : List Value) (df : List Deferred) (ds : List (Nat × Nat)) (anc : List (List Nat)) (V : Nat → (Nat → Value) → World → Prop) (G : (Nat → Bool) → World → Prop) (j : Nat) (o : Oper) : Prop where
 run:∀ L xs w,G L w→L j=false→(∀ i,(anc.getD j []).contains i=true→L i=true)→(∀ i,(anc.getD i []).contains j=true→L i=false)→(∀ i,(anc.getD j []).contains i=true→V i xs w)→(∀ i d,(anc.getD i []).contains j=true→(ol.toArray[i]?).bind (·.dst)=some d→xs i=l.getD d undef) →
  OpGoal P ol.toArray o ⟨(patchS 0 l ds xs).toArray,df⟩ w (fun v w'=>V j (upd xs j v) w'∧G (updL L j) w'∧∀ i,i<ol.length→i≠j→(anc.getD i []).contains j=false→V i xs w→V i (upd xs j v) w')
theorem any_invL {P:Program} {ol:List Oper} {Q:Exit→Act→World→Prop} {l:List Value} {df:List Deferred} {w0:World}
 (ds:List (Nat×Nat)) (anc:List (List Nat)) (V:Nat→(Nat→Value)→World→Prop) (G:(Nat→Bool)→World→Prop)
 (hds:dsOk ol ds l.length=true) (hanc:ancOk ol anc=true) (h0:G (fun _=>false) w0)
 (hop:∀ j o,ol[j]?=some o→ObOkL P ol l df ds anc V G j o)
 (hend:∀ xs w',(∀ i,i<ol.length→V i xs w')→(∃ L,(∀ i,i<ol.length→L i=true)∧G L w')→Q .normal ⟨(patchS 0 l ds xs).toArray,df⟩ w') :
 wpAny P .any ol.toArray Q ol.length (Array.replicate ol.length false) ⟨l.toArray,df⟩ w0:=by
 simp only[dsOk,Bool.and_eq_true,List.all_eq_true,decide_eq_true_eq,beq_iff_eq,List.mem_range]at hds;obtain⟨⟨⟨ha,hd1⟩,hnd⟩,hd2⟩:=hds;simp only[ancOk,Bool.and_eq_true,List.all_eq_true,beq_iff_eq,List.mem_range]at hanc;obtain⟨hal,hanc⟩:=hanc
 -- the states that are met
 have key:∀(fuel:Nat) (listed:Array Bool) (xs:Nat→Value) (w:World),listed.size=ol.length→listed.toList.count true+fuel=ol.length →
  (∀ i,listed.getD i false=true→∀ j,(anc.getD i []).contains j=true→listed.getD j false=true) →
  (∀ i,i<ol.length→listed.getD i false=true→V i xs w)→G (fun i=>listed.getD i false) w →
  (∀ i d,listed.getD i false=false→(ol.toArray[i]?).bind (·.dst)=some d→xs i=l.getD d undef) →
  wpAny P .any ol.toArray Q fuel listed ⟨(patchS 0 l ds xs).toArray,df⟩ w:=by
  intro fuel;have full:∀(listed:Array Bool),listed.size=ol.length→listed.toList.count true=ol.length→∀ i,i<ol.length→listed.getD i false=true:=by
   intro listed hs hc i hi;have h1:∀ b∈listed.toList,true=b:=List.count_eq_length.1 (by rw[hc];simp[hs]);have h2:=h1 listed[i] (by simp);simp[Array.getD,hs,hi,←h2]
  have none_ready:∀(listed:Array Bool),listed.size=ol.length→listed.toList.count true<ol.length→Region.ready .any ol.toArray listed ≠ []:=by
   intro listed hs hc hr
   -- the least that is not listed
   have hex:∃ i,i<ol.length∧listed.getD i false=false:=by
    refine Classical.byContradiction fun hno => ?_
    have:listed.toList.count true=ol.length:=by
     rw[←hs,←Array.length_toList,List.count_eq_length];intro b hb;obtain⟨i,hi,rfl⟩:=List.getElem_of_mem hb;simp at hi;refine Classical.byContradiction fun hne=>hno ⟨i,by omega,?_⟩
     simp[Array.getD,hi]
     simpa using hne
    omega
   obtain⟨i,⟨hi,hli⟩,hmin⟩:=exists_least hex;have:i∈Region.ready .any ol.toArray listed:=by
    rw[mem_ready];refine⟨?_,ol[i],by simp[hi],fun e he hb => ?_⟩
    ·simp[Array.getD,hs,hi]at hli⊢;exact hli
    ·have h1:=(hanc i hi);simp only[List.getElem?_eq_getElem hi,Bool.and_eq_true,List.all_eq_true,decide_eq_true_eq]at h1;have h2:=h1.1 e.on (List.mem_map.2 ⟨e,List.mem_filter.2 ⟨by simpa using he,hb⟩,rfl⟩);cases hle:listed.getD e.on false with
     | true=>rfl
     | false=>have:=hmin e.on ⟨by omega,hle⟩;omega
   rw[hr]at this;cases this
  induction fuel with
  | zero =>
   intro listed xs w hs hc hcl hV hG _;have hf:=full listed hs (by omega);refine⟨?_,?_⟩
   ·refine List.eq_nil_iff_forall_not_mem.2 fun i hi => ?_
    obtain⟨h1,o,h2,-⟩:=mem_ready.1 hi;have hlt:i<ol.length:=by
     have:=(Array.getElem?_eq_some_iff.1 h2).1
     simpa using this
    have:=hf i hlt;simp[Array.getD,hs,hlt]at this h1;rw[this]at h1;cases h1
   ·exact hend xs w (fun i hi=>hV i hi (hf i hi)) ⟨_,hf,hG⟩
  | succ fuel ih =>
   intro listed xs w hs hc hcl hV hG hI;refine⟨fun hr=>absurd hr (none_ready listed hs (by omega)),fun i hi => ?_⟩;obtain⟨h1,o,h2,h3⟩:=mem_ready.1 hi;have hlt:i<ol.length:=by
    have:=(Array.getElem?_eq_some_iff.1 h2).1
    simpa using this
   have h2':ol[i]?=some o:=by simpa using h2
   have hun:listed.getD i false=false:=by simp[Array.getD,hs,hlt]at h1⊢;exact h1
   have hA:=hanc i hlt;rw[h2']at hA;simp only[Bool.and_eq_true,List.all_eq_true,decide_eq_true_eq,Bool.or_eq_true,List.any_eq_true]at hA;have dirL:∀ d∈direct o,listed.getD d false=true:=by
    intro d hd;obtain⟨e,he,rfl⟩:=List.mem_map.1 hd;obtain⟨he1,he2⟩:=List.mem_filter.1 he;exact h3 e (by simpa using he1) he2
   have ancL:∀ j,(anc.getD i []).contains j=true→listed.getD j false=true:=by
    intro j hj;rcases hA.2 j (by simpa using hj)with h|⟨d,hd,h⟩
    ·exact dirL j (by simpa using h)
    ·exact hcl d (dirL d hd) j h
   have ltL:∀ j,listed.getD j false=true→j<ol.length:=by
    intro j hj;refine Classical.byContradiction fun hge => ?_
    simp[Array.getD,show ¬ j<listed.size by omega]at hj
   have goal:=(hop i o h2').run (fun i=>listed.getD i false) xs w hG hun ancL (fun j hj=>by
    cases hc2:listed.getD j false with
    | false=>rfl
    | true=>have:=hcl j hc2 i hj;rw[hun]at this;cases this) (fun j hj=>hV j (ltL j (ancL j hj)) (ancL j hj)) (fun j d hj hd=>hI j d (by
    cases hc2:listed.getD j false with
    | false=>rfl
    | true=>have:=hcl j hc2 i hj;rw[hun]at this;cases this) hd)
   refine wpOp_of_goal h2 goal fun v w' hp => ?_
   obtain⟨hp1,hp2,hp3⟩:=hp;have hcount:(listed.setIfInBounds i true).toList.count true=listed.toList.count true+1:=by
    rw[Array.toList_setIfInBounds,List.count_set (by simp;omega)];have:listed.toList[i]'(by simp;omega)=false:=by
     simp[Array.getD,hs,hlt]at hun
     simpa using hun
    simp[this]
   have hput:(⟨(patchS 0 l ds xs).toArray,df⟩:Act).put o.dst v=⟨(patchS 0 l ds (upd xs i v)).toArray,df⟩:=by
    cases hd:o.dst with
    | none =>
     have hni:i∉ds.map (·.2):=by
      intro hmem;obtain⟨x,hx,rfl⟩:=List.mem_map.1 hmem;have:=(hd1 x hx).2;rw[h2']at this;simp[hd]at this
     have rest:∀(q:Nat) (l:List Value) (ds:List (Nat×Nat)),i∉ds.map (·.2)→patchS q l ds (upd xs i v)=patchS q l ds xs:=by
      intro q l
      induction l generalizing q with
      | nil=>intro ds _;simp[patchS]
      | cons u l ih2 =>
       intro ds hj;cases ds with
       | nil=>simp[patchS]
       | cons e ds =>
        obtain⟨e1,e2⟩:=e;simp only[patchS];simp at hj;have:upd xs i v e2=xs e2:=by unfold upd;rw[if_neg (fun h=>hj.1 h.symm)]
        rw[this,ih2 (q+1) ds (by simpa using hj.2),ih2 (q+1) ((e1,e2)::ds) (by simpa using hj)]
     rw[rest _ _ _ hni];rfl
    | some d =>
     have hmem:(d,i)∈ds:=by
      have:=hd2 i hlt;rw[h2']at this
      simpa [hd] using this
     have h5:=patchS_set xs v l 0 ds d i ha (by simpa using hnd) hmem;simp only[Nat.sub_zero]at h5;rw[←h5];simp[Act.put]
   rw[hput];refine ih _ _ _ (by simpa using hs) (by rw[hcount];omega) ?_ ?_ (by
    have e:updL (fun i=>listed.getD i false) i=fun q=>(listed.setIfInBounds i true).getD q false:=by
     funext q
     unfold updL
     by_cases hqi:q=i
     ·subst hqi;rw[if_pos rfl,Array.getD_eq_getD_getElem?,Array.getElem?_setIfInBounds,if_pos rfl,if_pos (by omega)];rfl
     ·rw[if_neg hqi,getD_set_ne false (Ne.symm hqi)]
    rw[←e];exact hp2) (fun q d hq hd => ?_)
   rotate_right
   ·by_cases hqi:q=i
    ·subst hqi;rw[Array.getD_eq_getD_getElem?,Array.getElem?_setIfInBounds,if_pos rfl,if_pos (by omega)]at hq;simp at hq
    ·rw[getD_set_ne false (Ne.symm hqi)]at hq;rw[show upd xs i v q=xs q by simp[upd,hqi]];exact hI q d hq hd
   ·intro q hq j hj
    by_cases hqi:q=i
    ·subst hqi;exact getD_set_true (ancL j hj)
    ·rw[getD_set_ne false (Ne.symm hqi)]at hq;exact getD_set_true (hcl q hq j hj)
   ·intro q hq hl
    by_cases hqi:q=i
    ·subst hqi;exact hp1
    ·rw[getD_set_ne false (Ne.symm hqi)]at hl;refine hp3 q hq hqi ?_ (hV q hq hl);cases hc2:(anc.getD q []).contains i with
     | false=>rfl
     | true=>have:=hcl q hl i hc2;rw[hun]at this;cases this
 have init:=key ol.length (Array.replicate ol.length false) (fun i=>(((ol[i]?).bind (·.dst)).map (fun d=>l.getD d undef)).getD undef) w0 (by simp) (by simp[List.count_replicate]) (fun i hi=>by simp[Array.getD]at hi) (fun i _ hi=>by simp[Array.getD]at hi) (by
  have e:(fun i=>(Array.replicate ol.length false).getD i false)=fun _=>false:=by
   funext i
   simp[Array.getD]
  rw[e];exact h0) (fun i d _ hd=>by
  have hd':(ol[i]?).bind (·.dst)=some d:=by simpa using hd
  simp[hd'])
 have hsame:=patchS_same (fun i=>(((ol[i]?).bind (·.dst)).map (fun d=>l.getD d undef)).getD undef) l 0 ds ha (fun x hx _=>by
  have:=(hd1 x hx).2;rw[this];simp)
 rw[hsame]at init
 simpa using init
/-- What operation j must do: own value v, what is kept of the others. -/
def ObL (P:Program) (n:Nat) (ops:Array Oper) (l:List Value) (df:List Deferred) (ds:List (Nat×Nat)) (anc:List (List Nat)) (W:Nat→Value→(Nat→Value)→World→Prop) (G:(Nat→Bool)→World→Prop) (j:Nat) (o:Oper):Prop :=
 ∀ L xs w,G L w→L j=false→(∀ i,(anc.getD j []).contains i=true→L i=true)→(∀ i,(anc.getD i []).contains j=true→L i=false)→(∀ i,(anc.getD j []).contains i=true→W i (xs i) (mask anc i xs) w)→(∀ i d,(anc.getD i []).contains j=true→(ops[i]?).bind (·.dst)=some d→xs i=l.getD d undef) →
  OpGoal P ops o ⟨(patchS 0 l ds xs).toArray,df⟩ w (fun v w'=>W j v (mask anc j xs) w'∧G (updL L j) w'∧∀ i,i<n→i≠j→(anc.getD i []).contains j=false→∀ own ys,W i own ys w→W i own ys w')
def ObsL (P:Program) (n:Nat) (ops:Array Oper) (l:List Value) (df:List Deferred) (ds:List (Nat×Nat)) (anc:List (List Nat)) (W:Nat→Value→(Nat→Value)→World→Prop) (G:(Nat→Bool)→World→Prop):Nat→List Oper→Prop
 | _,[]=>True
 | j,o::os=>ObL P n ops l df ds anc W G j o∧ObsL P n ops l df ds anc W G (j+1) os
theorem ObsL.get {P:Program} {n:Nat} {ops:Array Oper} {l:List Value} {df:List Deferred} {ds:List (Nat×Nat)} {anc:List (List Nat)} {W:Nat→Value→(Nat→Value)→World→Prop} {G:(Nat→Bool)→World→Prop} :
 ∀ {os:List Oper} {p:Nat},ObsL P n ops l df ds anc W G p os→∀ j o,os[j]?=some o→ObL P n ops l df ds anc W G (p+j) o
 | [],_,_,j,o,h=>by simp at h
 | u::os,p,h,j,o,hj=>by
  cases j with
  | zero=>simp at hj;subst hj;exact h.1
  | succ j =>
   simp at hj;have:=h.2.get j o hj
   rwa [show p+1+j=p+(j+1) by omega]at this
theorem any_inv2L {P:Program} {ol:List Oper} {Q:Exit→Act→World→Prop} {l:List Value} {df:List Deferred} {w0:World}
 (ds:List (Nat×Nat)) (anc:List (List Nat)) (W:Nat→Value→(Nat→Value)→World→Prop) (G:(Nat→Bool)→World→Prop)
 (hds:dsOk ol ds l.length=true) (hanc:ancOk ol anc=true) (hself:(List.range ol.length).all (fun i => !(anc.getD i []).contains i)=true) (h0:G (fun _=>false) w0)
 (hop:ObsL P ol.length ol.toArray l df ds anc W G 0 ol)
 (hend:∀ xs w',(∀ i,i<ol.length→W i (xs i) (mask anc i xs) w')→(∃ L,(∀ i,i<ol.length→L i=true)∧G L w')→Q .normal ⟨(patchS 0 l ds xs).toArray,df⟩ w') :
 wpAny P .any ol.toArray Q ol.length (Array.replicate ol.length false) ⟨l.toArray,df⟩ w0:=by
 refine any_invL ds anc (fun i xs w=>W i (xs i) (mask anc i xs) w) G hds hanc h0 (fun j o hj=>⟨fun L xs w hG hl ha hb hD hI => ?_⟩) hend;have h1:=hop.get j o hj;rw[Nat.zero_add]at h1;have hjl:j<ol.length:=(List.getElem?_eq_some_iff.1 hj).1;have hs:(anc.getD j []).contains j=false:=by
  simp only[List.all_eq_true,List.mem_range]at hself
  simpa using hself j hjl
 have h2:=h1 L xs w hG hl ha hb hD hI;intro Qo K hK hQo;refine h2 Qo K (fun v w' ⟨p1,p2,p3⟩=>hK v w' ⟨?_,p2,fun i hi hne hc hV => ?_⟩) hQo
 ·rw[mask_upd hs,show upd xs j v j=v by simp[upd]];exact p1
 ·rw[mask_upd hc,show upd xs j v i=xs i by simp[upd,hne]];exact p3 i hi hne hc _ _ hV
theorem wp_region_invL {P:Program} {id:Nat} {ol:List Oper} {Q:Exit→Act→World→Prop} {l:List Value} {df:List Deferred} {w0:World}
 (hm:P.follows .mixedOrders=true) (ds:List (Nat×Nat)) (anc:List (List Nat)) (W:Nat→Value→(Nat→Value)→World→Prop) (G:(Nat→Bool)→World→Prop)
 (hds:dsOk ol ds l.length=true) (hanc:ancOk ol anc=true) (hself:(List.range ol.length).all (fun i => !(anc.getD i []).contains i)=true) (h0:G (fun _=>false) w0.drew)
 (hop:ObsL P ol.length ol.toArray l df ds anc W G 0 ol)
 (hend:∀ xs w',(∀ i,i<ol.length→W i (xs i) (mask anc i xs) w')→(∃ L,(∀ i,i<ol.length→L i=true)∧G L w')→Q .normal ⟨(patchS 0 l ds xs).toArray,df⟩ w') :
 (Code.region id ol.toArray true).wp P Q ⟨l.toArray,df⟩ w0:=by
 refine wp_region_any hm ?_;rw[List.size_toArray];exact any_inv2L ds anc W G hds hanc hself h0 hop hend
/-! ### Within a round -/
/-- Left by its end alone. -/
def OnlyNormal (K:Act→World→Prop):Exit→Act→World→Prop
 | .normal,a,w=>K a w
 | _,_,_=>False
/-- No operation of the list is a deferred call. -/
def noDefer (ol:List Oper):Bool:=ol.all fun o=>match o.op with | .defer _=>false|_=>true
theorem gsO (w:World) (g o:Nat) (u:Value):w.grownBy (w.setCell ⟨g,o,none⟩ u) (some g):=⟨rfl,rfl,rfl,by simp,fun k _ hk=>heap_setCell_other w ⟨g,o,none⟩ k u (fun e=>hk (by simp[e]))⟩
theorem own_hiE {w w':World} {base e s n:Nat} {v:Value} {xs:List Value} {row:Option Nat} (h:w.ownsRow base e s v n xs) (g:w.grownBy w' row) (hb:∀ q,row=some q→q<base):w'.ownsRow base e s v n xs:=by
 refine h.kept g ?_;cases hv:v.ownBlock with
 | none=>exact .inl rfl
 | some k=>right;intro e;have h1:=owns_ge h k hv;have h2:=hb k e.symm;omega
theorem CM.ext {w w':World} {H O:Nat} {c:Ac} {vo vc:Value} (h:CM w H O c vo vc) (e:Ext w w'):CM w' H O c vo vc:=⟨e.blk h.bk,owns_ext h.ro e,owns_ext h.rc e,h.hO,Nat.le_trans h.hs e.size⟩
theorem CM.mk5 {w:World} {H O L S m:Nat} {out:List Int} {ch:List Nat} {x:Int} {vo vc:Value} (hb:w.heap[O]?=some (.cells #[.int .i64 (L:Int),.int .i64 (S:Int),vo,vc] 104 (0,0)))
 (ho:w.ownsRow H 5 1 vo (m+1) (u8s out ++ [.int .u8 x])) (hm:out.length=m) (hc:w.ownsRow H 3 1 vc 40 (ch64 ch)) (hO:H≤O) (hs:H≤w.heap.size):CM w H O ⟨L,S,out ++ [x],ch⟩ vo vc:=by
 refine⟨hb,?_,hc,hO,hs⟩;have e:(out ++ [x]).length=m+1:=by simp[hm]
 show World.ownsRow _ _ _ _ _ (out ++ [x]).length _;rw[e];unfold u8s at *;rw[List.map_append];exact ho
theorem CM.cellB {w:World} {H O g n cap:Nat} {c:Ac} {vc:Value} (h:CM w H O c (.slice (some ⟨g,0,none⟩) n cap) vc) {i:Nat} {v:Int} (hv:c.out[i]?=some v):w.cell? ⟨g,i,none⟩=some (.int .u8 v):=by
 have:=h.ro.cells (g:=g) rfl i (.int .u8 v) (by simp[u8s,hv])
 by_cases h0:i=0 <;> simpa [Addr.add,h0] using this
theorem CM.form {w:World} {H O:Nat} {c:Ac} {vo vc:Value} (h:CM w H O c vo vc) (hn:0<c.out.length):∃ g cap,vo= .slice (some ⟨g,0,none⟩) c.out.length cap∧c.out.length≤cap∧cap≤maxLen∧H≤g:=by
 rcases h.ro.2 with⟨rfl,h0⟩|⟨g,cap,cur,rfl,p0,-,p2,p3,-⟩
 ·omega
 ·exact⟨g,cap,rfl,p2,p3,p0⟩
theorem CM.frozB {w:World} {H O g n cap:Nat} {c:Ac} {vc:Value} (h:CM w H O c (.slice (some ⟨g,0,none⟩) n cap) vc) (i:Nat):w.frozen? ⟨g,i,none⟩=false:=by
 have hn:n=c.out.length:=by rcases h.ro.2 with⟨h0,-⟩|⟨_,_,_,h0,-⟩ <;> cases h0 <;> rfl
 subst hn;exact h.ro.frozenAt i
def outL (r:List Int) (x:Int) (m i:Nat):List Int:=r++x::(List.replicate (m-i) 255++List.replicate i 0)
theorem outL_len {r:List Int} {x:Int} {m i:Nat} (h:i≤m):(outL r x m i).length=r.length+1+m:=by simp[outL];omega
theorem outL_get {r:List Int} {x:Int} {m i:Nat} (h:i<m):(outL r x m i)[r.length+(m-i)]?=some 255:=by
 unfold outL;obtain⟨q,hq⟩:∃ q,m-i=q+1:=⟨m-i-1,by omega⟩;rw[List.getElem?_append_right (by omega),show r.length+(m-i)-r.length=q+1 by omega,hq];simp[List.getElem?_append]
theorem outL_top {r:List Int} {x:Int} {m:Nat} : (outL r x m m)[r.length]?=some x:=by
 unfold outL;rw[List.getElem?_append_right (by omega)];simp
theorem outL_set {r:List Int} {x:Int} {m i:Nat} (h:i<m):(outL r x m i).set (r.length+(m-i)) 0=outL r x m (i+1):=by
 unfold outL;obtain⟨q,hq⟩:∃ q,m-i=q+1:=⟨m-i-1,by omega⟩;have h2:m-(i+1)=q:=by omega
 rw[List.set_append_right _ _ (by omega),show r.length+(m-i)-r.length=q+1 by omega,hq,h2,List.replicate_succ' (n:=q)]
 congr 1
 simp[List.replicate_succ]
theorem spec_shift_no (w:World) (H O:Nat) (c:Ac) (vo vc:Value) (h:CM w H O c vo vc) (hn:c.out.length≤1000000) (hl:c.low<4294967296) :
 Calls Try.prog 57 #[.pointer (some ⟨O,0,none⟩)] w fun e w'=>e= .returned (.tuple #[])∧(∃ vo',CM w' H O ⟨c.low%16777216*256,c.span,c.out ++ [((c.low/16777216:Nat):Int)],c.ch⟩ vo' vc)∧Below H w w':=by
 obtain⟨L,S0,out,ch⟩:=c;simp only at hl hn⊢;have hd:decide ((4294967296:Int)≤(L:Int))=false:=by simp;omega
 have HL:=Lib.hid hl;obtain⟨m,hm⟩:∃ m,out.length=m:=⟨_,rfl⟩;rw[hm]at hn;obtain⟨bl,⟨k0,k1,k2,k3⟩,f0,f1,f2,f3⟩:=bx4 h.bk;simp only at k0;have HC:=Lib.hid h;clear hl h;go_enter Try.func57,Try.ntmps57
 go_upto_region 7 with fail
 clear hd bl k0 k1 k2 k3 f0 f1 f2 f3;have hC:=HC.out;have hL:=HL.out;have hB:=Below.refl H w;obtain⟨wr,hwr⟩:∃ wr,wr=w:=⟨_,rfl⟩;rw[←hwr];rw[show CM w H O ⟨L,S0,out,ch⟩ vo vc=CM wr H O ⟨L,S0,out,ch⟩ vo vc by rw[hwr]]at hC;rw[show Below H w w=Below H w wr by rw[hwr]]at hB;clear hwr HC HL;obtain⟨HI,hHI0⟩:∃ HI,HI=wr.heap.size:=⟨_,rfl⟩;have hHI:H≤HI:=by rw[hHI0];exact hC.hs
 have hvl:∀ q,vo.ownBlock=some q→q<HI:=fun q hq=>by rw[hHI0];exact(hC.ro.lt q hq).2
 have hOI:O<HI:=by rw[hHI0];exact lt_of_block hC.bk
 have hHIs:HI≤wr.heap.size:=by omega
 have hrc:=hC.rc;have hro:=hC.ro;have hbk:=hC.bk;simp only at hbk;have hHO:=hC.hO;rw[show((⟨L,S0,out,ch⟩:Ac).out.length)=m from hm]at hro;have hq64:IntKind.i64.wrap ((L:Int)/16777216)=(L:Int)/16777216:=by rw[IntKind.wrap_i64];omega
 have hq8:IntKind.u8.wrap ((L:Int)/16777216)=(L:Int)/16777216:=by rw[IntKind.wrap_u8];omega
 clear hHI0 hC;have hext:Stab (fun wa wb=>Ext wa wb) (fun i own ys wx=>match i with|0=>own= .pointer (some ⟨O,0,none⟩)|1=>own= .pointer (some ⟨O,0,none⟩)|2=>own= .pointer (some ⟨O,0,none⟩)|3=>own= .pointer (some ⟨O,2,none⟩)|4=>own=vo|5=>own= .pointer (some ⟨O,0,none⟩)|6=>own= .pointer (some ⟨O,0,none⟩)|7=>own= .pointer (some ⟨O,0,none⟩)|8=>own= .int .i64 (L:Int)|9=>own= .int .i64 ((L:Int)/16777216)|10=>own= .int .u8 ((L:Int)/16777216)|11=>∃(q:Nat),own= .slice (some ⟨q,0,none⟩) 1 1∧wx.ownsRow HI 5 1 (.slice (some ⟨q,0,none⟩) 1 1) 1 [.int .u8 ((L:Int)/16777216)]|12=>∃(a3:Option Addr) (c3:Nat),own= .slice a3 (m+1) c3∧wx.ownsRow H 5 1 (.slice a3 (m+1) c3) (m+1) (u8s out ++ [.int .u8 ((L:Int)/16777216)])|13=>own= .pointer (some ⟨O,0,none⟩)|14=>own= .pointer (some ⟨O,2,none⟩)|15=>∃ v2,CM wx H O ⟨L,S0,out ++ [(L:Int)/16777216],ch⟩ v2 vc|_=>True):=by
  intro i own ys wa wb e h
  match i,h with
  | 0,h|1,h|2,h|3,h|4,h|5,h|6,h|7,h|8,h|9,h|10,h|13,h|14,h=>exact h
  | 11,h=>obtain⟨q9,h1,h2⟩:=h;exact⟨q9,h1,owns_ext h2 e⟩
  | 12,h=>obtain⟨a9,c9,h1,h2⟩:=h;exact⟨a9,c9,h1,owns_ext h2 e⟩
  | 15,h=>obtain⟨v9,h1⟩:=h;exact⟨v9,h1.ext e⟩
  | _+16,_=>trivial
 have Hext:=Lib.hid hext;clear hext;refine wp_region_invL (by kernel_rfl) [(52,0),(53,1),(54,2),(55,3),(56,4),(57,5),(58,6),(59,7),(60,8),(61,9),(62,10),(63,11),(64,12),(65,13),(66,14)] [[],[],[1],[1,2],[1,2,3],[],[5],[5,6],[5,6,7],[5,6,7,8],[5,6,7,8,9],[5,6,7,8,9,10],[1,2,3,4,5,6,7,8,9,10,11],[0,1,2,3,4,5,6,7,8,9,10,11,12],[0,1,2,3,4,5,6,7,8,9,10,11,12,13],[0,1,2,3,4,5,6,7,8,9,10,11,12,13,14]] (fun i own ys wx=>match i with|0=>own= .pointer (some ⟨O,0,none⟩)|1=>own= .pointer (some ⟨O,0,none⟩)|2=>own= .pointer (some ⟨O,0,none⟩)|3=>own= .pointer (some ⟨O,2,none⟩)|4=>own=vo|5=>own= .pointer (some ⟨O,0,none⟩)|6=>own= .pointer (some ⟨O,0,none⟩)|7=>own= .pointer (some ⟨O,0,none⟩)|8=>own= .int .i64 (L:Int)|9=>own= .int .i64 ((L:Int)/16777216)|10=>own= .int .u8 ((L:Int)/16777216)|11=>∃(q:Nat),own= .slice (some ⟨q,0,none⟩) 1 1∧wx.ownsRow HI 5 1 (.slice (some ⟨q,0,none⟩) 1 1) 1 [.int .u8 ((L:Int)/16777216)]|12=>∃(a3:Option Addr) (c3:Nat),own= .slice a3 (m+1) c3∧wx.ownsRow H 5 1 (.slice a3 (m+1) c3) (m+1) (u8s out ++ [.int .u8 ((L:Int)/16777216)])|13=>own= .pointer (some ⟨O,0,none⟩)|14=>own= .pointer (some ⟨O,2,none⟩)|15=>∃ v2,CM wx H O ⟨L,S0,out ++ [(L:Int)/16777216],ch⟩ v2 vc|_=>True) (fun Lx wx=>(Below H w wx∧HI≤wx.heap.size)∧(∃ z,wx.heap[O]?=some (.cells #[.int .i64 (L:Int),.int .i64 (S0:Int),z,vc] 104 (0,0))∧(Lx 15=false→z=vo))∧wx.ownsRow H 5 1 vo m (u8s out)∧wx.ownsRow H 3 1 vc 40 (ch64 ch)) (by kernel_rfl) (by kernel_rfl) (by kernel_rfl) ?g0_r1 ?gop_r1 ?gend_r1
 case g0_r1=>exact⟨⟨hB.drew,hHIs⟩,⟨_,hbk,fun _=>rfl⟩,owns_ext hro (Ext.drewN _ 1),owns_ext hrc (Ext.drewN _ 1)⟩
 case gop_r1 =>
  refine⟨?_,?_,?o2,?o3,?o4,?_,?o6,?o7,?o8,?o9,?o10,?o11,?o12,?o13,?o14,?o15,trivial⟩ <;> (intro Lx xs wx hG hl ha hb hD hI Qo Kx hK hQo;simp only[patchS,Nat.reduceAdd,Nat.reduceEqDiff,↓reduceIte]at hQo⊢)
  case o2 =>
   clear hl ha hb;rw[ddq (hD 1 rfl)]at hQo⊢;clear hD hI;go_wp2;exact hK.out _ _ ⟨rfl,hG,kkp⟩
  case o3 =>
   clear hl ha hb;rw[ddq (hD 2 rfl)]at hQo⊢;clear hD hI;go_wp2;exact hK.out _ _ ⟨rfl,hG,kkp⟩
  case o4 =>
   have l15:Lx 15=false:=hb 15 rfl;clear hl ha hb;rw[ddq (hD 3 rfl)]at hQo⊢;clear hD hI;obtain⟨z,g1,g2⟩:=hG.2.1;obtain rfl:=g2 l15;obtain⟨-,⟨k0,k1,k2,k3⟩,-⟩:=bx4 g1;go_wp2;exact hK.out _ _ ⟨rfl,hG,kkp⟩
  case o6 =>
   clear hl ha hb;rw[ddq (hD 5 rfl)]at hQo⊢;clear hD hI;go_wp2;exact hK.out _ _ ⟨rfl,hG,kkp⟩
  case o7 =>
   clear hl ha hb;rw[ddq (hD 6 rfl)]at hQo⊢;clear hD hI;go_wp2;exact hK.out _ _ ⟨rfl,hG,kkp⟩
  case o8 =>
   clear hl ha hb;rw[ddq (hD 7 rfl)]at hQo⊢;clear hD hI;obtain⟨z,g1,g2⟩:=hG.2.1;obtain⟨-,⟨k0,k1,k2,k3⟩,-⟩:=bx4 g1;go_wp2;exact hK.out _ _ ⟨rfl,hG,kkp⟩
  case o9 =>
   clear hl ha hb;rw[ddq (hD 8 rfl)]at hQo⊢;clear hD hI;go_wp2;exact hK.out _ _ ⟨rfl,hG,kkp⟩
  case o10 =>
   clear hl ha hb;rw[ddq (hD 9 rfl)]at hQo⊢;clear hD hI;go_wp2;exact hK.out _ _ ⟨rfl,hG,kkp⟩
  case o11 =>
   clear hl ha hb;rw[ddq (hD 10 rfl)]at hQo⊢;clear hD hI;have e8:=Ext.alloc wx (.cells #[.int .u8 ((L:Int)/16777216)] 5);have o9:=World.ownsRow_lit (base:=HI) (e:=5) (size:=1) wx #[.int .u8 ((L:Int)/16777216)] 1 hG.1.2 (by unfold maxLen;omega) rfl;go_wp2;obtain⟨⟨g0,gs⟩,⟨z,g3,g4⟩,g5,g6⟩:=hG;exact hK.out _ _ ⟨⟨_,rfl,o9⟩,⟨⟨g0.alloc (Nat.le_trans hHI gs) _,Nat.le_trans gs e8.size⟩,⟨z,e8.blk g3,g4⟩,owns_ext g5 e8,owns_ext g6 e8⟩,fun i _ _ _ own ys h=>Hext.out i own ys _ _ e8 h⟩
  case o12 =>
   clear hl ha hb;rw[ddq (hD 4 rfl)]at hQo⊢;have d11:∃(q:Nat),(xs 11) = .slice (some ⟨q,0,none⟩) 1 1∧wx.ownsRow HI 5 1 (.slice (some ⟨q,0,none⟩) 1 1) 1 [.int .u8 ((L:Int)/16777216)]:=hD 11 rfl;clear hD hI;generalize xs 11=y11 at *;obtain⟨q11,rfl,o11⟩:=d11;refine wpList_appk _ rfl hG.2.2.1 (Nat.le_trans hHI hG.1.2) _ _ _ rfl (.int .u8 0) 1 Try.underlying22 info_uint8 rfl (by decide) rfl ⟨q11,0,none⟩ 1 1 _ rfl rfl (o11.cells rfl) (by intro u hu;simp at hu;subst hu;rfl) (by omega) (by omega) ?_;intro v14 w14 own14 gr14 keep14;obtain⟨a14,c14,rfl⟩:=owns_form own14;have hst:∀(wy:World),(∀ e' own n' xs',wx.ownsRow HI e' 1 own n' xs'→wy.ownsRow HI e' 1 own n' xs')→Stbn 16 12 [[],[],[1],[1,2],[1,2,3],[],[5],[5,6],[5,6,7],[5,6,7,8],[5,6,7,8,9],[5,6,7,8,9,10],[1,2,3,4,5,6,7,8,9,10,11],[0,1,2,3,4,5,6,7,8,9,10,11,12],[0,1,2,3,4,5,6,7,8,9,10,11,12,13],[0,1,2,3,4,5,6,7,8,9,10,11,12,13,14]] (fun i own ys wx=>match i with|0=>own= .pointer (some ⟨O,0,none⟩)|1=>own= .pointer (some ⟨O,0,none⟩)|2=>own= .pointer (some ⟨O,0,none⟩)|3=>own= .pointer (some ⟨O,2,none⟩)|4=>own=vo|5=>own= .pointer (some ⟨O,0,none⟩)|6=>own= .pointer (some ⟨O,0,none⟩)|7=>own= .pointer (some ⟨O,0,none⟩)|8=>own= .int .i64 (L:Int)|9=>own= .int .i64 ((L:Int)/16777216)|10=>own= .int .u8 ((L:Int)/16777216)|11=>∃(q:Nat),own= .slice (some ⟨q,0,none⟩) 1 1∧wx.ownsRow HI 5 1 (.slice (some ⟨q,0,none⟩) 1 1) 1 [.int .u8 ((L:Int)/16777216)]|12=>∃(a3:Option Addr) (c3:Nat),own= .slice a3 (m+1) c3∧wx.ownsRow H 5 1 (.slice a3 (m+1) c3) (m+1) (u8s out ++ [.int .u8 ((L:Int)/16777216)])|13=>own= .pointer (some ⟨O,0,none⟩)|14=>own= .pointer (some ⟨O,2,none⟩)|15=>∃ v2,CM wx H O ⟨L,S0,out ++ [(L:Int)/16777216],ch⟩ v2 vc|_=>True) wx wy:=by
    intro wy hy ii hii hne hc own ys h
    match ii,h with
    | 0,h|1,h|2,h|3,h|4,h|5,h|6,h|7,h|8,h|9,h|10,h=>exact h
    | 11,h=>obtain⟨q9,h1,h2⟩:=h;exact⟨q9,h1,hy _ _ _ _ h2⟩
    | 12,h=>exact absurd rfl hne
    | 13,h|14,h|15,h=>exact absurd hc (by decide)
    | _+16,_=>trivial
   obtain⟨⟨g0,gs⟩,⟨z,g3,g4⟩,g5,g6⟩:=hG;have hb1:=blk_gr g3 gr14 (neO g5 g3 (by decide));exact hQo _ _ (hK.out _ _ ⟨⟨_,_,rfl,own14⟩,⟨⟨g0.grown gr14 (Nat.le_trans hHI gs) (owns_ge g5),Nat.le_trans gs gr14.size⟩,⟨z,hb1,g4⟩,keep14 _ _ _ _ (Nat.le_refl _) g5,g6.kept gr14 (owns_neE g6 g5 (by decide))⟩,hst _ (fun _ _ _ _ h=>own_hiE h gr14 hvl)⟩)
  case o13 =>
   clear hl ha hb;rw[ddq (hD 0 rfl)]at hQo⊢;clear hD hI;go_wp2;exact hK.out _ _ ⟨rfl,hG,kkp⟩
  case o14 =>
   clear hl ha hb;rw[ddq (hD 13 rfl)]at hQo⊢;clear hD hI;go_wp2;exact hK.out _ _ ⟨rfl,hG,kkp⟩
  case o15 =>
   clear hl ha hb;rw[ddq (hD 14 rfl)]at hQo⊢;have d12:∃(a3:Option Addr) (c3:Nat),(xs 12) = .slice a3 (m+1) c3∧wx.ownsRow H 5 1 (.slice a3 (m+1) c3) (m+1) (u8s out ++ [.int .u8 ((L:Int)/16777216)]):=hD 12 rfl;clear hD hI;generalize xs 12=y12 at *;obtain⟨a12,c12,rfl,o12⟩:=d12;obtain⟨z,g1,g2⟩:=hG.2.1;obtain⟨-,⟨k0,k1,k2,k3⟩,f0,f1,f2,f3⟩:=bx4 g1;go_wp2;have hst:∀(wy:World),(∀ b' own n' xs',wx.ownsRow b' 5 1 own n' xs'→wy.ownsRow b' 5 1 own n' xs')→Stbn 16 15 [[],[],[1],[1,2],[1,2,3],[],[5],[5,6],[5,6,7],[5,6,7,8],[5,6,7,8,9],[5,6,7,8,9,10],[1,2,3,4,5,6,7,8,9,10,11],[0,1,2,3,4,5,6,7,8,9,10,11,12],[0,1,2,3,4,5,6,7,8,9,10,11,12,13],[0,1,2,3,4,5,6,7,8,9,10,11,12,13,14]] (fun i own ys wx=>match i with|0=>own= .pointer (some ⟨O,0,none⟩)|1=>own= .pointer (some ⟨O,0,none⟩)|2=>own= .pointer (some ⟨O,0,none⟩)|3=>own= .pointer (some ⟨O,2,none⟩)|4=>own=vo|5=>own= .pointer (some ⟨O,0,none⟩)|6=>own= .pointer (some ⟨O,0,none⟩)|7=>own= .pointer (some ⟨O,0,none⟩)|8=>own= .int .i64 (L:Int)|9=>own= .int .i64 ((L:Int)/16777216)|10=>own= .int .u8 ((L:Int)/16777216)|11=>∃(q:Nat),own= .slice (some ⟨q,0,none⟩) 1 1∧wx.ownsRow HI 5 1 (.slice (some ⟨q,0,none⟩) 1 1) 1 [.int .u8 ((L:Int)/16777216)]|12=>∃(a3:Option Addr) (c3:Nat),own= .slice a3 (m+1) c3∧wx.ownsRow H 5 1 (.slice a3 (m+1) c3) (m+1) (u8s out ++ [.int .u8 ((L:Int)/16777216)])|13=>own= .pointer (some ⟨O,0,none⟩)|14=>own= .pointer (some ⟨O,2,none⟩)|15=>∃ v2,CM wx H O ⟨L,S0,out ++ [(L:Int)/16777216],ch⟩ v2 vc|_=>True) wx wy:=by
    intro wy hy ii hii hne hc own ys h
    match ii,h with
    | 0,h|1,h|2,h|3,h|4,h|5,h|6,h|7,h|8,h|9,h|10,h|13,h|14,h=>exact h
    | 11,h=>obtain⟨q9,h1,h2⟩:=h;exact⟨q9,h1,hy _ _ _ _ h2⟩
    | 12,h=>obtain⟨a9,c9,h1,h2⟩:=h;exact⟨a9,c9,h1,hy _ _ _ _ h2⟩
    | 15,h=>exact absurd rfl hne
    | _+16,_=>trivial
   obtain⟨⟨g0,gs⟩,-,g5,g6⟩:=hG;have gB:=gsO wx O 2 (.slice a12 (m+1) c12);have hb:=heap_setCell_same wx O 2 _ _ (.slice a12 (m+1) c12) g1;have hb2:(wx.setCell ⟨O,2,none⟩ (.slice a12 (m+1) c12)).heap[O]?=some (.cells #[.int .i64 (L:Int),.int .i64 (S0:Int),.slice a12 (m+1) c12,vc] 104 (0,0)):=by simpa using hb
   have hk:∀ b' own n' xs',wx.ownsRow b' 5 1 own n' xs'→(wx.setCell ⟨O,2,none⟩ (.slice a12 (m+1) c12)).ownsRow b' 5 1 own n' xs':=fun _ _ _ _ h=>ownsRow_setCell_other h (neO h g1 (by decide)) _
   have hrc2:=ownsRow_setCell_other g6 (a:=⟨O,2,none⟩) (neO g6 g1 (by decide)) (.slice a12 (m+1) c12);exact hQo undef _ (hK.out _ _ ⟨⟨_,CM.mk5 hb2 (hk _ _ _ _ o12) hm hrc2 hHO (by have:=gB.size;omega)⟩,⟨⟨g0.setCell hHO _,Nat.le_trans gs gB.size⟩,⟨_,hb2,fun h=>by cases h⟩,hk _ _ _ _ g5,hrc2⟩,hst _ hk⟩)
  all_goals
   clear hl ha hb hD hI;go_wp2;exact hK.out _ _ ⟨rfl,hG,kkp⟩
 clear Hext;intro xs wx hV hG0;obtain⟨Lx,hL,hG⟩:=hG0;have l15:Lx 15=true:=hL 15 (by decide);clear hL;have d15:∃ v2,CM wx H O ⟨L,S0,out ++ [(L:Int)/16777216],ch⟩ v2 vc:=hV 15 (by decide);clear hV;simp only[patchS,Nat.reduceAdd,Nat.reduceEqDiff,↓reduceIte];generalize xs 0=y0,xs 1=y1,xs 2=y2,xs 3=y3,xs 4=y4,xs 5=y5,xs 6=y6,xs 7=y7,xs 8=y8,xs 9=y9,xs 10=y10,xs 11=y11,xs 12=y12,xs 13=y13,xs 14=y14,xs 15=y15 at *
 replace hG:(Below H w wx∧HI≤wx.heap.size)∧(∃ z,wx.heap[O]?=some (.cells #[.int .i64 (L:Int),.int .i64 (S0:Int),z,vc] 104 (0,0))∧(Lx 15=false→z=vo))∧wx.ownsRow H 5 1 vo m (u8s out)∧wx.ownsRow H 3 1 vc 40 (ch64 ch):=hG
 obtain⟨v15,c15⟩:=d15;obtain⟨⟨g0,gs⟩,-⟩:=hG;obtain⟨bl,⟨k0,k1,k2,k3⟩,f0,f1,f2,f3⟩:=bx4 c15.bk;simp only at k0;have HC:=Lib.hid c15;have HL:=Lib.hid hL;have Hm:=Lib.hid hm;clear c15 hvl hm hbk hro hrc;go_wp2;refine bodyPost_end (results_none rfl _ _ _) rfl ?_;refine⟨rfl,⟨v15,?_⟩,g0.setCell hHO _⟩;have hf:=HC.out.low (L%16777216*256);rw[show(((L%16777216*256:Nat)):Int)=(L:Int)%16777216*256 by omega]at hf;first|exact hf|(rw[show(((L/16777216:Nat)):Int)=(L:Int)/16777216 by omega];exact hf)|(rw[Hout.out]at hf;simp only[List.append_assoc,List.cons_append]at hf;first|exact hf|(rw[hmm]at hf;exact hf))
theorem spec_shift_yes (w:World) (H O s:Nat) (c:Ac) (vo vc:Value) (h:CM w H O c vo vc) (hi:c.inv s) (hs:0<s) (hn:c.out.length≤1000000) (hl:4294967296≤c.low) :
 Calls Try.prog 57 #[.pointer (some ⟨O,0,none⟩)] w fun e w'=>e= .returned (.tuple #[])∧(∃ vo',CM w' H O c.shift vo' vc)∧Below H w w':=by
 have hsplit:=inc_split (Ac.carry hi hs hl);have hlo:=Ac.lo_lt hi;have hbyt:=hi.1;clear hi hs;obtain⟨L0,S0,out0,ch⟩:=c;simp only at hl hn hsplit hbyt;unfold Ac.lo at hlo;simp only at hlo;rw[if_pos hl]at hlo;obtain⟨r,x,mm,hout,hx⟩:=hsplit;subst hout;have hx2:0≤x∧x≤255:=hbyt x (by simp);have hx3:0≤x+1∧x+1≤255:=by omega
 obtain⟨L,hL0⟩:∃ q,q=L0-4294967296:=⟨_,rfl⟩;rw[←hL0]at hlo;have hshift:(⟨L0,S0,r++x::List.replicate mm 255,ch⟩:Ac).shift=⟨L%16777216*256,S0,(r++(x+1)::List.replicate mm 0) ++ [((L/16777216:Nat):Int)],ch⟩:=by
  unfold Ac.shift Ac.car Ac.lo;simp only;rw[if_pos hl,if_pos hl,inc_at r x mm hx,←hL0]
 rw[hshift];rw[show r++x::List.replicate mm 255=outL r x mm 0 by simp[outL]]at h hn;obtain⟨g,cap,rfl,hc1,hc2,hgH⟩:=h.form (by rw[outL_len (by omega)];omega);simp only at hc1 h;rw[outL_len (by omega)]at hc1 hn h;obtain⟨N,hN⟩:∃ N,N=r.length+1+mm:=⟨_,rfl⟩;rw[←hN]at hc1 hn h;have HN:=Lib.hid hN;have hrN:r.length+mm<N:=by omega
 clear hN;have hd:decide ((4294967296:Int)≤(L0:Int))=true:=by simp;omega
 obtain⟨bl,⟨k0,k1,k2,k3⟩,f0,f1,f2,f3⟩:=bx4 h.bk;simp only at k0;have HC:=Lib.hid h;have HL:=Lib.hid hlo;have HL0:=Lib.hid (show(L0:Int)-4294967296=(L:Int) by omega);have hL1:(L0:Int)<8589934592:=by omega
 clear hshift hbyt hl h hlo hL0;go_enter Try.func57,Try.ntmps57
 go_upto_region 2 with fail
 have hC:=HC.out.low L;simp only at hC;rw[←HL0.out]at hC;have hB:=(Below.refl H w).setCell (p:=⟨O,0,none⟩) HC.out.hO (.int .i64 ((L0:Int)-4294967296));clear hd bl k0 k1 k2 k3 f0 f1 f2 f3 HC hL1 HL0 hc2;generalize World.setCell _ _ _=w1 at *;obtain⟨bl,⟨k0,k1,k2,k3⟩,f0,f1,f2,f3⟩:=bx4 hC.bk;have hC1:=Lib.hid hC;clear hC;go_wp2_with fail
 go_loopw [2] (fun kx wr=>∃ i,i≤mm∧kx= .int .i64 ((r.length+(mm-i):Nat):Int)∧Below H w wr∧CM wr H O ⟨L,S0,outL r x mm i,ch⟩ (.slice (some ⟨g,0,none⟩) N cap) vc) (fun kx _=>(intOf kx).toNat)
 case atStart=>exact⟨0,by omega,by have:=HN.out;congr 1;omega,hB,hC1.out⟩
 case round =>
  clear hB hC1 bl k0 k1 k2 k3 f0 f1 f2 f3;obtain⟨i,hi,rfl,hB,hC⟩:=hrel;obtain⟨K,hK0⟩:∃ K,K=r.length+(mm-i):=⟨_,rfl⟩;rw[←hK0];have hKN:(K:Int)<N:=by omega
  have hKm:i<mm→1≤K:=by omega
  have HK:=Lib.hid hK0;have Hrn:=Lib.hid hrN;clear hK0 hrN;obtain⟨bl,⟨k0,k1,k2,k3⟩,f0,f1,f2,f3⟩:=bx4 hC.bk
  by_cases hlt:i<mm
  ·have hk:=hC.cellB (outL_get hlt);rw[←HK.out]at hk;have hf:=hC.frozB K;have hC5:=hC.byte K 0;simp only at hC5;rw[show(outL r x mm i).set K 0=outL r x mm (i+1) by rw[HK.out];exact outL_set hlt]at hC5;have HC5:=Lib.hid hC5;have hK1:=hKm hlt;have Hlt:=Lib.hid hlt;clear hC hC5 hKm hlt;go_wp2;go_roundw
   case rel=>exact⟨i+1,by have:=Hlt.out;omega,by have:=HK.out;have:=Hlt.out;congr 1;omega,hB.setCell hgH _,HC5.out⟩
   case measure=>simp[intOf];omega
  ·obtain rfl:i=mm:=by omega
   have hKr:K=r.length:=by have:=HK.out;omega
   have htop:(outL r x i i)[K]?=some x:=by rw[hKr];exact outL_top
   have hk:=hC.cellB htop;have hty:∀ y,(r++y::List.replicate i (0:Int))[K]?=some y:=fun y=>by rw[hKr,List.getElem?_append_right (Nat.le_refl _)];simp
   have hts:∀ y,(r++y::List.replicate i (0:Int)).set K (x+1)=r++(x+1)::List.replicate i 0:=fun y=>by rw[hKr,List.set_append_right _ _ (Nat.le_refl _)];simp
   have hno:decide (x=255)=false:=by simp;omega
   have Hkr:=Lib.hid hKr;clear hKr hKm;have hC6:=hC;rw[show outL r x i i=r++x::List.replicate i 0 by simp[outL]]at hC6;have HC6:=Lib.hid hC6;have Hty:=Lib.hid hty;have Hts:=Lib.hid hts;clear hC hC6 htop hty hts;go_upto_region 6 with fail
   have hC6:=HC6.out;have hty:=Hty.out;have hts:=Hts.out;have hw8:IntKind.u8.wrap (x+1)=x+1:=by rw[IntKind.wrap_u8];omega
   clear bl k0 k1 k2 k3 f0 f1 f2 f3 hk hno HC6 Hty Hts;obtain⟨mm,hmm⟩:∃ q,q=i:=⟨_,rfl⟩;rw[←hmm]at hC6 hty hts HN;generalize (x == 255)=bb;clear hw8;have hw8:IntKind.u8.wrap (x+1)=x+1:=by rw[IntKind.wrap_u8];omega
   refine wp_region_invL (by kernel_rfl) [(38,0),(39,1),(40,2),(41,3),(42,4),(43,5),(44,6),(45,7),(46,8),(47,9),(48,10),(49,11),(50,12),(51,13)] [[],[0],[0,1],[0,1,2],[],[],[5],[5,6],[5,6,7],[],[5,6,7,8,9],[5,6,7,8,9,10],[5,6,7,8,9,10,11],[0,1,2,3,4,5,6,7,8,9,10,11,12],[0,1,2,3,4,5,6,7,8,9,10,11,12,13]] (fun i own ys wx=>match i with|0=>own= .pointer (some ⟨O,0,none⟩)|1=>own= .pointer (some ⟨O,0,none⟩)|2=>own= .pointer (some ⟨O,2,none⟩)|3=>own= .slice (some ⟨g,0,none⟩) N cap|4=>own= .int .i64 (K:Int)|5=>own= .pointer (some ⟨O,0,none⟩)|6=>own= .pointer (some ⟨O,0,none⟩)|7=>own= .pointer (some ⟨O,2,none⟩)|8=>own= .slice (some ⟨g,0,none⟩) N cap|9=>own= .int .i64 (K:Int)|10=>own= .pointer (some ⟨g,K,none⟩)|11=>own= .int .u8 x|12=>own= .int .u8 (x+1)|13=>own= .pointer (some ⟨g,K,none⟩)|14=>∃ _z:Nat,CM wx H O ⟨L,S0,r++(x+1)::List.replicate mm 0,ch⟩ (.slice (some ⟨g,0,none⟩) N cap) vc|_=>True) (fun Lx wx=>(∃ y,CM wx H O ⟨L,S0,r++y::List.replicate mm 0,ch⟩ (.slice (some ⟨g,0,none⟩) N cap) vc∧(Lx 14=false→y=x))∧Below H w wx) (by kernel_rfl) (by kernel_rfl) (by kernel_rfl) ?g0_r2 ?gop_r2 ?gend_r2
   case g0_r2=>exact⟨⟨x,hC6.ext (Ext.drewN _ 1),fun _=>rfl⟩,hB.drew⟩
   case gop_r2 =>
    refine⟨?_,?o1,?o2,?o3,?_,?_,?o6,?o7,?o8,?_,?o10,?o11,?o12,?o13,?o14,trivial⟩ <;> (intro Lx xs wx hG hl ha hb hD hI Qo Kx hK hQo;simp only[patchS,Nat.reduceAdd,Nat.reduceEqDiff,↓reduceIte]at hQo⊢)
    case o1 =>
     clear hl ha hb;rw[ddq (hD 0 rfl)]at hQo⊢;clear hD hI;go_wp2;exact hK.out _ _ ⟨rfl,hG,kkp⟩
    case o2 =>
     clear hl ha hb;rw[ddq (hD 1 rfl)]at hQo⊢;clear hD hI;go_wp2;exact hK.out _ _ ⟨rfl,hG,kkp⟩
    case o3 =>
     clear hl ha hb;rw[ddq (hD 2 rfl)]at hQo⊢;clear hD hI;obtain⟨y,g1,g2⟩:=hG.1;obtain⟨-,⟨k0,k1,k2,k3⟩,-⟩:=bx4 g1.bk;go_wp2;exact hK.out _ _ ⟨rfl,hG,kkp⟩
    case o6 =>
     clear hl ha hb;rw[ddq (hD 5 rfl)]at hQo⊢;clear hD hI;go_wp2;exact hK.out _ _ ⟨rfl,hG,kkp⟩
    case o7 =>
     clear hl ha hb;rw[ddq (hD 6 rfl)]at hQo⊢;clear hD hI;go_wp2;exact hK.out _ _ ⟨rfl,hG,kkp⟩
    case o8 =>
     clear hl ha hb;rw[ddq (hD 7 rfl)]at hQo⊢;clear hD hI;obtain⟨y,g1,g2⟩:=hG.1;obtain⟨-,⟨k0,k1,k2,k3⟩,-⟩:=bx4 g1.bk;go_wp2;exact hK.out _ _ ⟨rfl,hG,kkp⟩
    case o10 =>
     clear hl ha hb;rw[ddq (hD 8 rfl),ddq (hD 9 rfl)]at hQo⊢;clear hD hI;go_wp2;exact hK.out _ _ ⟨rfl,hG,kkp⟩
    case o11 =>
     have l14:Lx 14=false:=hb 14 rfl;clear hl ha hb;rw[ddq (hD 10 rfl)]at hQo⊢;clear hD hI;obtain⟨y,g1,g2⟩:=hG.1;have hy:=g2 l14;rw[hy]at g1;have k0:=g1.cellB (i:=K) (v:=x) (hty x);go_wp2;exact hK.out _ _ ⟨rfl,hG,kkp⟩
    case o12 =>
     clear hl ha hb;rw[ddq (hD 11 rfl)]at hQo⊢;clear hD hI;go_wp2;exact hK.out _ _ ⟨rfl,hG,kkp⟩
    case o13 =>
     clear hl ha hb;rw[ddq (hD 3 rfl),ddq (hD 4 rfl)]at hQo⊢;clear hD hI;go_wp2;exact hK.out _ _ ⟨rfl,hG,kkp⟩
    case o14 =>
     clear hl ha hb;rw[ddq (hD 12 rfl),ddq (hD 13 rfl)]at hQo⊢;clear hD hI;obtain⟨y,g1,g2⟩:=hG.1;have f0:=g1.frozB K;have k0:=g1.cellB (i:=K) (v:=y) (hty y);go_wp2;have hst:∀(wy:World),True→Stbn 15 14 [[],[0],[0,1],[0,1,2],[],[],[5],[5,6],[5,6,7],[],[5,6,7,8,9],[5,6,7,8,9,10],[5,6,7,8,9,10,11],[0,1,2,3,4,5,6,7,8,9,10,11,12],[0,1,2,3,4,5,6,7,8,9,10,11,12,13]] (fun i own ys wx=>match i with|0=>own= .pointer (some ⟨O,0,none⟩)|1=>own= .pointer (some ⟨O,0,none⟩)|2=>own= .pointer (some ⟨O,2,none⟩)|3=>own= .slice (some ⟨g,0,none⟩) N cap|4=>own= .int .i64 (K:Int)|5=>own= .pointer (some ⟨O,0,none⟩)|6=>own= .pointer (some ⟨O,0,none⟩)|7=>own= .pointer (some ⟨O,2,none⟩)|8=>own= .slice (some ⟨g,0,none⟩) N cap|9=>own= .int .i64 (K:Int)|10=>own= .pointer (some ⟨g,K,none⟩)|11=>own= .int .u8 x|12=>own= .int .u8 (x+1)|13=>own= .pointer (some ⟨g,K,none⟩)|14=>∃ _z:Nat,CM wx H O ⟨L,S0,r++(x+1)::List.replicate mm 0,ch⟩ (.slice (some ⟨g,0,none⟩) N cap) vc|_=>True) wx wy:=by
      intro wy hy ii hii hne hc own ys h
      match ii,h with
      | 0,h|1,h|2,h|3,h|4,h|5,h|6,h|7,h|8,h|9,h|10,h|11,h|12,h|13,h=>exact h
      | 14,h=>exact absurd rfl hne
      | _+15,_=>trivial
     have hf:=g1.byte K (x+1);simp only[hts]at hf;exact hQo undef _ (hK.out _ _ ⟨⟨0,hf⟩,⟨⟨_,hf,fun h=>by cases h⟩,hG.2.setCell hgH _⟩,hst _ trivial⟩)
    all_goals
     clear hl ha hb hD hI;go_wp2;exact hK.out _ _ ⟨rfl,hG,kkp⟩
   intro xs wx hV hG0;obtain⟨Lx,hL,hG⟩:=hG0;have l14:Lx 14=true:=hL 14 (by decide);clear hL;have d14:∃ _z:Nat,CM wx H O ⟨L,S0,r++(x+1)::List.replicate mm 0,ch⟩ (.slice (some ⟨g,0,none⟩) N cap) vc:=hV 14 (by decide);clear hV;simp only[patchS,Nat.reduceAdd,Nat.reduceEqDiff,↓reduceIte];generalize xs 0=y0,xs 1=y1,xs 2=y2,xs 3=y3,xs 4=y4,xs 5=y5,xs 6=y6,xs 7=y7,xs 8=y8,xs 9=y9,xs 10=y10,xs 11=y11,xs 12=y12,xs 13=y13,xs 14=y14 at *
   replace hG:(∃ y,CM wx H O ⟨L,S0,r++y::List.replicate mm 0,ch⟩ (.slice (some ⟨g,0,none⟩) N cap) vc∧(Lx 14=false→y=x))∧Below H w wx:=hG
   obtain⟨_,c14⟩:=d14;have hC:=c14;have hB:=hG.2;clear c14 hG hC6;obtain⟨out,hout⟩:∃ q,q=r++(x+1)::List.replicate mm 0:=⟨_,rfl⟩;rw[←hout]at hC;have Hout:=Lib.hid hout;have hm:out.length=N:=by have:=HN.out;rw[hout];simp;omega
   clear hty hts;obtain⟨m,hmN⟩:∃ m,m=N:=⟨_,rfl⟩;rw[←hmN]at hm hn;have hL:=HL.out;clear hw8 hout hmN;obtain⟨vo,hvo⟩:∃ v,v=Value.slice (some ⟨g,0,none⟩) N cap:=⟨_,rfl⟩;rw[←hvo]at hC;clear hvo;generalize wx=wr at *;go_upto_region 7 with fail
   obtain⟨HI,hHI0⟩:∃ HI,HI=wr.heap.size:=⟨_,rfl⟩;have hHI:H≤HI:=by rw[hHI0];exact hC.hs
   have hvl:∀ q,vo.ownBlock=some q→q<HI:=fun q hq=>by rw[hHI0];exact(hC.ro.lt q hq).2
   have hOI:O<HI:=by rw[hHI0];exact lt_of_block hC.bk
   have hHIs:HI≤wr.heap.size:=by omega
   have hrc:=hC.rc;have hro:=hC.ro;have hbk:=hC.bk;simp only at hbk;have hHO:=hC.hO;rw[show((⟨L,S0,out,ch⟩:Ac).out.length)=m from hm]at hro;have hq64:IntKind.i64.wrap ((L:Int)/16777216)=(L:Int)/16777216:=by rw[IntKind.wrap_i64];omega
   have hq8:IntKind.u8.wrap ((L:Int)/16777216)=(L:Int)/16777216:=by rw[IntKind.wrap_u8];omega
   clear hHI0 hC;have hext:Stab (fun wa wb=>Ext wa wb) (fun i own ys wx=>match i with|0=>own= .pointer (some ⟨O,0,none⟩)|1=>own= .pointer (some ⟨O,0,none⟩)|2=>own= .pointer (some ⟨O,0,none⟩)|3=>own= .pointer (some ⟨O,2,none⟩)|4=>own=vo|5=>own= .pointer (some ⟨O,0,none⟩)|6=>own= .pointer (some ⟨O,0,none⟩)|7=>own= .pointer (some ⟨O,0,none⟩)|8=>own= .int .i64 (L:Int)|9=>own= .int .i64 ((L:Int)/16777216)|10=>own= .int .u8 ((L:Int)/16777216)|11=>∃(q:Nat),own= .slice (some ⟨q,0,none⟩) 1 1∧wx.ownsRow HI 5 1 (.slice (some ⟨q,0,none⟩) 1 1) 1 [.int .u8 ((L:Int)/16777216)]|12=>∃(a3:Option Addr) (c3:Nat),own= .slice a3 (m+1) c3∧wx.ownsRow H 5 1 (.slice a3 (m+1) c3) (m+1) (u8s out ++ [.int .u8 ((L:Int)/16777216)])|13=>own= .pointer (some ⟨O,0,none⟩)|14=>own= .pointer (some ⟨O,2,none⟩)|15=>∃ v2,CM wx H O ⟨L,S0,out ++ [(L:Int)/16777216],ch⟩ v2 vc|_=>True):=by
    intro i own ys wa wb e h
    match i,h with
    | 0,h|1,h|2,h|3,h|4,h|5,h|6,h|7,h|8,h|9,h|10,h|13,h|14,h=>exact h
    | 11,h=>obtain⟨q9,h1,h2⟩:=h;exact⟨q9,h1,owns_ext h2 e⟩
    | 12,h=>obtain⟨a9,c9,h1,h2⟩:=h;exact⟨a9,c9,h1,owns_ext h2 e⟩
    | 15,h=>obtain⟨v9,h1⟩:=h;exact⟨v9,h1.ext e⟩
    | _+16,_=>trivial
   have Hext:=Lib.hid hext;clear hext;refine wp_region_invL (by kernel_rfl) [(52,0),(53,1),(54,2),(55,3),(56,4),(57,5),(58,6),(59,7),(60,8),(61,9),(62,10),(63,11),(64,12),(65,13),(66,14)] [[],[],[1],[1,2],[1,2,3],[],[5],[5,6],[5,6,7],[5,6,7,8],[5,6,7,8,9],[5,6,7,8,9,10],[1,2,3,4,5,6,7,8,9,10,11],[0,1,2,3,4,5,6,7,8,9,10,11,12],[0,1,2,3,4,5,6,7,8,9,10,11,12,13],[0,1,2,3,4,5,6,7,8,9,10,11,12,13,14]] (fun i own ys wx=>match i with|0=>own= .pointer (some ⟨O,0,none⟩)|1=>own= .pointer (some ⟨O,0,none⟩)|2=>own= .pointer (some ⟨O,0,none⟩)|3=>own= .pointer (some ⟨O,2,none⟩)|4=>own=vo|5=>own= .pointer (some ⟨O,0,none⟩)|6=>own= .pointer (some ⟨O,0,none⟩)|7=>own= .pointer (some ⟨O,0,none⟩)|8=>own= .int .i64 (L:Int)|9=>own= .int .i64 ((L:Int)/16777216)|10=>own= .int .u8 ((L:Int)/16777216)|11=>∃(q:Nat),own= .slice (some ⟨q,0,none⟩) 1 1∧wx.ownsRow HI 5 1 (.slice (some ⟨q,0,none⟩) 1 1) 1 [.int .u8 ((L:Int)/16777216)]|12=>∃(a3:Option Addr) (c3:Nat),own= .slice a3 (m+1) c3∧wx.ownsRow H 5 1 (.slice a3 (m+1) c3) (m+1) (u8s out ++ [.int .u8 ((L:Int)/16777216)])|13=>own= .pointer (some ⟨O,0,none⟩)|14=>own= .pointer (some ⟨O,2,none⟩)|15=>∃ v2,CM wx H O ⟨L,S0,out ++ [(L:Int)/16777216],ch⟩ v2 vc|_=>True) (fun Lx wx=>(Below H w wx∧HI≤wx.heap.size)∧(∃ z,wx.heap[O]?=some (.cells #[.int .i64 (L:Int),.int .i64 (S0:Int),z,vc] 104 (0,0))∧(Lx 15=false→z=vo))∧wx.ownsRow H 5 1 vo m (u8s out)∧wx.ownsRow H 3 1 vc 40 (ch64 ch)) (by kernel_rfl) (by kernel_rfl) (by kernel_rfl) ?g0_r3 ?gop_r3 ?gend_r3
   case g0_r3=>exact⟨⟨hB.drew,hHIs⟩,⟨_,hbk,fun _=>rfl⟩,owns_ext hro (Ext.drewN _ 1),owns_ext hrc (Ext.drewN _ 1)⟩
   case gop_r3 =>
    refine⟨?_,?_,?o2,?o3,?o4,?_,?o6,?o7,?o8,?o9,?o10,?o11,?o12,?o13,?o14,?o15,trivial⟩ <;> (intro Lx xs wx hG hl ha hb hD hI Qo Kx hK hQo;simp only[patchS,Nat.reduceAdd,Nat.reduceEqDiff,↓reduceIte]at hQo⊢)
    case o2 =>
     clear hl ha hb;rw[ddq (hD 1 rfl)]at hQo⊢;clear hD hI;go_wp2;exact hK.out _ _ ⟨rfl,hG,kkp⟩
    case o3 =>
     clear hl ha hb;rw[ddq (hD 2 rfl)]at hQo⊢;clear hD hI;go_wp2;exact hK.out _ _ ⟨rfl,hG,kkp⟩
    case o4 =>
     have l15:Lx 15=false:=hb 15 rfl;clear hl ha hb;rw[ddq (hD 3 rfl)]at hQo⊢;clear hD hI;obtain⟨z,g1,g2⟩:=hG.2.1;obtain rfl:=g2 l15;obtain⟨-,⟨k0,k1,k2,k3⟩,-⟩:=bx4 g1;go_wp2;exact hK.out _ _ ⟨rfl,hG,kkp⟩
    case o6 =>
     clear hl ha hb;rw[ddq (hD 5 rfl)]at hQo⊢;clear hD hI;go_wp2;exact hK.out _ _ ⟨rfl,hG,kkp⟩
    case o7 =>
     clear hl ha hb;rw[ddq (hD 6 rfl)]at hQo⊢;clear hD hI;go_wp2;exact hK.out _ _ ⟨rfl,hG,kkp⟩
    case o8 =>
     clear hl ha hb;rw[ddq (hD 7 rfl)]at hQo⊢;clear hD hI;obtain⟨z,g1,g2⟩:=hG.2.1;obtain⟨-,⟨k0,k1,k2,k3⟩,-⟩:=bx4 g1;go_wp2;exact hK.out _ _ ⟨rfl,hG,kkp⟩
    case o9 =>
     clear hl ha hb;rw[ddq (hD 8 rfl)]at hQo⊢;clear hD hI;go_wp2;exact hK.out _ _ ⟨rfl,hG,kkp⟩
    case o10 =>
     clear hl ha hb;rw[ddq (hD 9 rfl)]at hQo⊢;clear hD hI;go_wp2;exact hK.out _ _ ⟨rfl,hG,kkp⟩
    case o11 =>
     clear hl ha hb;rw[ddq (hD 10 rfl)]at hQo⊢;clear hD hI;have e8:=Ext.alloc wx (.cells #[.int .u8 ((L:Int)/16777216)] 5);have o9:=World.ownsRow_lit (base:=HI) (e:=5) (size:=1) wx #[.int .u8 ((L:Int)/16777216)] 1 hG.1.2 (by unfold maxLen;omega) rfl;go_wp2;obtain⟨⟨g0,gs⟩,⟨z,g3,g4⟩,g5,g6⟩:=hG;exact hK.out _ _ ⟨⟨_,rfl,o9⟩,⟨⟨g0.alloc (Nat.le_trans hHI gs) _,Nat.le_trans gs e8.size⟩,⟨z,e8.blk g3,g4⟩,owns_ext g5 e8,owns_ext g6 e8⟩,fun i _ _ _ own ys h=>Hext.out i own ys _ _ e8 h⟩
    case o12 =>
     clear hl ha hb;rw[ddq (hD 4 rfl)]at hQo⊢;have d11:∃(q:Nat),(xs 11) = .slice (some ⟨q,0,none⟩) 1 1∧wx.ownsRow HI 5 1 (.slice (some ⟨q,0,none⟩) 1 1) 1 [.int .u8 ((L:Int)/16777216)]:=hD 11 rfl;clear hD hI;generalize xs 11=y11 at *;obtain⟨q11,rfl,o11⟩:=d11;refine wpList_appk _ rfl hG.2.2.1 (Nat.le_trans hHI hG.1.2) _ _ _ rfl (.int .u8 0) 1 Try.underlying22 info_uint8 rfl (by decide) rfl ⟨q11,0,none⟩ 1 1 _ rfl rfl (o11.cells rfl) (by intro u hu;simp at hu;subst hu;rfl) (by omega) (by omega) ?_;intro v14 w14 own14 gr14 keep14;obtain⟨a14,c14,rfl⟩:=owns_form own14;have hst:∀(wy:World),(∀ e' own n' xs',wx.ownsRow HI e' 1 own n' xs'→wy.ownsRow HI e' 1 own n' xs')→Stbn 16 12 [[],[],[1],[1,2],[1,2,3],[],[5],[5,6],[5,6,7],[5,6,7,8],[5,6,7,8,9],[5,6,7,8,9,10],[1,2,3,4,5,6,7,8,9,10,11],[0,1,2,3,4,5,6,7,8,9,10,11,12],[0,1,2,3,4,5,6,7,8,9,10,11,12,13],[0,1,2,3,4,5,6,7,8,9,10,11,12,13,14]] (fun i own ys wx=>match i with|0=>own= .pointer (some ⟨O,0,none⟩)|1=>own= .pointer (some ⟨O,0,none⟩)|2=>own= .pointer (some ⟨O,0,none⟩)|3=>own= .pointer (some ⟨O,2,none⟩)|4=>own=vo|5=>own= .pointer (some ⟨O,0,none⟩)|6=>own= .pointer (some ⟨O,0,none⟩)|7=>own= .pointer (some ⟨O,0,none⟩)|8=>own= .int .i64 (L:Int)|9=>own= .int .i64 ((L:Int)/16777216)|10=>own= .int .u8 ((L:Int)/16777216)|11=>∃(q:Nat),own= .slice (some ⟨q,0,none⟩) 1 1∧wx.ownsRow HI 5 1 (.slice (some ⟨q,0,none⟩) 1 1) 1 [.int .u8 ((L:Int)/16777216)]|12=>∃(a3:Option Addr) (c3:Nat),own= .slice a3 (m+1) c3∧wx.ownsRow H 5 1 (.slice a3 (m+1) c3) (m+1) (u8s out ++ [.int .u8 ((L:Int)/16777216)])|13=>own= .pointer (some ⟨O,0,none⟩)|14=>own= .pointer (some ⟨O,2,none⟩)|15=>∃ v2,CM wx H O ⟨L,S0,out ++ [(L:Int)/16777216],ch⟩ v2 vc|_=>True) wx wy:=by
      intro wy hy ii hii hne hc own ys h
      match ii,h with
      | 0,h|1,h|2,h|3,h|4,h|5,h|6,h|7,h|8,h|9,h|10,h=>exact h
      | 11,h=>obtain⟨q9,h1,h2⟩:=h;exact⟨q9,h1,hy _ _ _ _ h2⟩
      | 12,h=>exact absurd rfl hne
      | 13,h|14,h|15,h=>exact absurd hc (by decide)
      | _+16,_=>trivial
     obtain⟨⟨g0,gs⟩,⟨z,g3,g4⟩,g5,g6⟩:=hG;have hb1:=blk_gr g3 gr14 (neO g5 g3 (by decide));exact hQo _ _ (hK.out _ _ ⟨⟨_,_,rfl,own14⟩,⟨⟨g0.grown gr14 (Nat.le_trans hHI gs) (owns_ge g5),Nat.le_trans gs gr14.size⟩,⟨z,hb1,g4⟩,keep14 _ _ _ _ (Nat.le_refl _) g5,g6.kept gr14 (owns_neE g6 g5 (by decide))⟩,hst _ (fun _ _ _ _ h=>own_hiE h gr14 hvl)⟩)
    case o13 =>
     clear hl ha hb;rw[ddq (hD 0 rfl)]at hQo⊢;clear hD hI;go_wp2;exact hK.out _ _ ⟨rfl,hG,kkp⟩
    case o14 =>
     clear hl ha hb;rw[ddq (hD 13 rfl)]at hQo⊢;clear hD hI;go_wp2;exact hK.out _ _ ⟨rfl,hG,kkp⟩
    case o15 =>
     clear hl ha hb;rw[ddq (hD 14 rfl)]at hQo⊢;have d12:∃(a3:Option Addr) (c3:Nat),(xs 12) = .slice a3 (m+1) c3∧wx.ownsRow H 5 1 (.slice a3 (m+1) c3) (m+1) (u8s out ++ [.int .u8 ((L:Int)/16777216)]):=hD 12 rfl;clear hD hI;generalize xs 12=y12 at *;obtain⟨a12,c12,rfl,o12⟩:=d12;obtain⟨z,g1,g2⟩:=hG.2.1;obtain⟨-,⟨k0,k1,k2,k3⟩,f0,f1,f2,f3⟩:=bx4 g1;go_wp2;have hst:∀(wy:World),(∀ b' own n' xs',wx.ownsRow b' 5 1 own n' xs'→wy.ownsRow b' 5 1 own n' xs')→Stbn 16 15 [[],[],[1],[1,2],[1,2,3],[],[5],[5,6],[5,6,7],[5,6,7,8],[5,6,7,8,9],[5,6,7,8,9,10],[1,2,3,4,5,6,7,8,9,10,11],[0,1,2,3,4,5,6,7,8,9,10,11,12],[0,1,2,3,4,5,6,7,8,9,10,11,12,13],[0,1,2,3,4,5,6,7,8,9,10,11,12,13,14]] (fun i own ys wx=>match i with|0=>own= .pointer (some ⟨O,0,none⟩)|1=>own= .pointer (some ⟨O,0,none⟩)|2=>own= .pointer (some ⟨O,0,none⟩)|3=>own= .pointer (some ⟨O,2,none⟩)|4=>own=vo|5=>own= .pointer (some ⟨O,0,none⟩)|6=>own= .pointer (some ⟨O,0,none⟩)|7=>own= .pointer (some ⟨O,0,none⟩)|8=>own= .int .i64 (L:Int)|9=>own= .int .i64 ((L:Int)/16777216)|10=>own= .int .u8 ((L:Int)/16777216)|11=>∃(q:Nat),own= .slice (some ⟨q,0,none⟩) 1 1∧wx.ownsRow HI 5 1 (.slice (some ⟨q,0,none⟩) 1 1) 1 [.int .u8 ((L:Int)/16777216)]|12=>∃(a3:Option Addr) (c3:Nat),own= .slice a3 (m+1) c3∧wx.ownsRow H 5 1 (.slice a3 (m+1) c3) (m+1) (u8s out ++ [.int .u8 ((L:Int)/16777216)])|13=>own= .pointer (some ⟨O,0,none⟩)|14=>own= .pointer (some ⟨O,2,none⟩)|15=>∃ v2,CM wx H O ⟨L,S0,out ++ [(L:Int)/16777216],ch⟩ v2 vc|_=>True) wx wy:=by
      intro wy hy ii hii hne hc own ys h
      match ii,h with
      | 0,h|1,h|2,h|3,h|4,h|5,h|6,h|7,h|8,h|9,h|10,h|13,h|14,h=>exact h
      | 11,h=>obtain⟨q9,h1,h2⟩:=h;exact⟨q9,h1,hy _ _ _ _ h2⟩
      | 12,h=>obtain⟨a9,c9,h1,h2⟩:=h;exact⟨a9,c9,h1,hy _ _ _ _ h2⟩
      | 15,h=>exact absurd rfl hne
      | _+16,_=>trivial
     obtain⟨⟨g0,gs⟩,-,g5,g6⟩:=hG;have gB:=gsO wx O 2 (.slice a12 (m+1) c12);have hb:=heap_setCell_same wx O 2 _ _ (.slice a12 (m+1) c12) g1;have hb2:(wx.setCell ⟨O,2,none⟩ (.slice a12 (m+1) c12)).heap[O]?=some (.cells #[.int .i64 (L:Int),.int .i64 (S0:Int),.slice a12 (m+1) c12,vc] 104 (0,0)):=by simpa using hb
     have hk:∀ b' own n' xs',wx.ownsRow b' 5 1 own n' xs'→(wx.setCell ⟨O,2,none⟩ (.slice a12 (m+1) c12)).ownsRow b' 5 1 own n' xs':=fun _ _ _ _ h=>ownsRow_setCell_other h (neO h g1 (by decide)) _
     have hrc2:=ownsRow_setCell_other g6 (a:=⟨O,2,none⟩) (neO g6 g1 (by decide)) (.slice a12 (m+1) c12);exact hQo undef _ (hK.out _ _ ⟨⟨_,CM.mk5 hb2 (hk _ _ _ _ o12) hm hrc2 hHO (by have:=gB.size;omega)⟩,⟨⟨g0.setCell hHO _,Nat.le_trans gs gB.size⟩,⟨_,hb2,fun h=>by cases h⟩,hk _ _ _ _ g5,hrc2⟩,hst _ hk⟩)
    all_goals
     clear hl ha hb hD hI;go_wp2;exact hK.out _ _ ⟨rfl,hG,kkp⟩
   clear Hext;intro xs wx hV hG0;obtain⟨Lx,hL,hG⟩:=hG0;have l15:Lx 15=true:=hL 15 (by decide);clear hL;have d15:∃ v2,CM wx H O ⟨L,S0,out ++ [(L:Int)/16777216],ch⟩ v2 vc:=hV 15 (by decide);clear hV;simp only[patchS,Nat.reduceAdd,Nat.reduceEqDiff,↓reduceIte];generalize xs 0=y0,xs 1=y1,xs 2=y2,xs 3=y3,xs 4=y4,xs 5=y5,xs 6=y6,xs 7=y7,xs 8=y8,xs 9=y9,xs 10=y10,xs 11=y11,xs 12=y12,xs 13=y13,xs 14=y14,xs 15=y15 at *
   replace hG:(Below H w wx∧HI≤wx.heap.size)∧(∃ z,wx.heap[O]?=some (.cells #[.int .i64 (L:Int),.int .i64 (S0:Int),z,vc] 104 (0,0))∧(Lx 15=false→z=vo))∧wx.ownsRow H 5 1 vo m (u8s out)∧wx.ownsRow H 3 1 vc 40 (ch64 ch):=hG
   obtain⟨v15,c15⟩:=d15;obtain⟨⟨g0,gs⟩,-⟩:=hG;obtain⟨bl,⟨k0,k1,k2,k3⟩,f0,f1,f2,f3⟩:=bx4 c15.bk;simp only at k0;have HC:=Lib.hid c15;have HL:=Lib.hid hL;have Hm:=Lib.hid hm;clear c15 hvl hm hbk hro hrc;go_wp2;refine bodyPost_end (results_none rfl _ _ _) rfl ?_;refine⟨rfl,⟨v15,?_⟩,g0.setCell hHO _⟩;have hf:=HC.out.low (L%16777216*256);rw[show(((L%16777216*256:Nat)):Int)=(L:Int)%16777216*256 by omega]at hf;first|exact hf|(rw[show(((L/16777216:Nat)):Int)=(L:Int)/16777216 by omega];exact hf)|(rw[Hout.out]at hf;simp only[List.append_assoc,List.cons_append]at hf;first|exact hf|(rw[hmm]at hf;exact hf))
theorem spec_shift_any (w:World) (H O s:Nat) (c:Ac) (vo vc:Value) (h:CM w H O c vo vc) (hi:c.inv s) (hs:0<s) (hn:c.out.length≤1000000) :
 Calls Try.prog 57 #[.pointer (some ⟨O,0,none⟩)] w fun e w'=>e= .returned (.tuple #[])∧(∃ vo',CM w' H O c.shift vo' vc)∧Below H w w':=by
 by_cases hl:4294967296≤c.low
 ·exact spec_shift_yes w H O s c vo vc h hi hs hn hl
 ·refine(spec_shift_no w H O c vo vc h hn (by omega)).mono ?_
  rintro e w' ⟨rfl,⟨v,hC⟩,hB⟩
  refine⟨rfl,⟨v,?_⟩,hB⟩;have:c.shift=⟨c.low%16777216*256,c.span,c.out ++ [((c.low/16777216:Nat):Int)],c.ch⟩:=by
   unfold Ac.shift Ac.car Ac.lo;rw[if_neg hl,if_neg hl]
  rw[this];exact hC
end Go.Proofs.Ytphfacfjhjcllaa
