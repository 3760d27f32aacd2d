/- MotionBlock on valid arguments; the laws' comparisons. | The intra macroblock: the reference's; both sides for all arguments. | Equality of structs of integers: macroblocks compared. | Words of the laws of macroblocks. -/
import Derived.Test.YtbnhaegidfbgbaaDoorQf18
namespace Go.Proofs.YtbnhaegidfbgbaaDoor
open Go.RowKit
set_option maxHeartbeats 1000000
set_option maxRecDepth 100000 in
theorem sameInts_same (a b : Option Addr) (c d n : Nat) (zs : List Int) (w : World) (hn : n < 2^40) (r : Sl w a n (zs.map (Value.int .i64))) (s : Sl w b n (zs.map (Value.int .i64))) :
 Calls Tryd.prog 15 #[.slice a n c, .slice b n d] w fun e w' => e = .returned (.bool true) ∧ Ext w w' := by
 have hnn : ((n : Int) != n) = false := by simp
 go_enter Tryd.func15, Tryd.ntmps15
 go_wp2
 go_loopw [5] (fun i wr => ∃ k : Nat, k ≤ n ∧ i = .int .i64 k ∧ Ext w wr) (fun i _ => n - (intOf i).toNat)
 case atStart => exact ⟨0, by omega, rfl, Below.refl _ _⟩
 case round =>
  obtain ⟨k, hk, rfl, E4⟩ := hrel
  by_cases hlt : k < n
  ·have hd : decide ((k : Int) < n) = true := by simp; omega
   obtain ⟨b1, o1, rfl, g1⟩ := r.int hlt
   obtain ⟨b2, o2, rfl, g2⟩ := s.int hlt
   have Ha := Lib.hid (fun (wx : World) (h : Ext w wx) => (r.ext h).int hlt)
   have Hb := Lib.hid (fun (wx : World) (h : Ext w wx) => (s.ext h).int hlt)
   clear g1 g2
   obtain ⟨z, hz⟩ : ∃ z, z = nth zs k := ⟨_, rfl⟩
   rw [← hz] at Ha Hb
   have hzz : (z != z) = false := by simp
   clear hz
   go_wp2_with fail
   refine wp_region_inv2 (by kernel_rfl) [(17, 0), (18, 1), (19, 2), (20, 3), (21, 4), (22, 5), (23, 6), (24, 7), (25, 8)] [[], [], [0, 1], [0, 1, 2], [], [], [4, 5], [4, 5, 6], [0, 1, 2, 3, 4, 5, 6, 7]] (fun i own ys wx => match i with | 0 => own = .slice (some ⟨b1, o1, none⟩) n c | 1 => own = .int .i64 (k : Nat) | 2 => own = .pointer (some ⟨b1, o1 + k, none⟩) | 3 => own = .int .i64 z | 4 => own = .slice (some ⟨b2, o2, none⟩) n d | 5 => own = .int .i64 (k : Nat) | 6 => own = .pointer (some ⟨b2, o2 + k, none⟩) | 7 => own = .int .i64 z | 8 => own = .bool false | _ => True) (fun kx wx => Ext w wx) (by kernel_rfl) (by kernel_rfl) (by kernel_rfl) ?g0_r1 ?gop_r1 ?gend_r1
   case g0_r1 => exact E4.trans_drewN 1
   case gop_r1 =>
    refine ⟨?_, ?_, ?_, ?_, ?_, ?_, ?_, ?_, ?_, trivial⟩
    ·intro kx xs wx hk hG hD hI Qo Kx hK hQo
     clear hD hI
     simp only [patchS, Nat.reduceAdd, Nat.reduceEqDiff, ↓reduceIte] at hQo ⊢
     go_wp2
     exact hK.out _ _ ⟨rfl, hG, fun _ _ _ _ _ _ h => h⟩
    ·intro kx xs wx hk hG hD hI Qo Kx hK hQo
     clear hD hI
     simp only [patchS, Nat.reduceAdd, Nat.reduceEqDiff, ↓reduceIte] at hQo ⊢
     go_wp2
     exact hK.out _ _ ⟨rfl, hG, fun _ _ _ _ _ _ h => h⟩
    ·intro kx xs wx hk hG hD hI Qo Kx hK hQo
     have d0 : (xs 0) = .slice (some ⟨b1, o1, none⟩) n c := hD 0 rfl
     have d1 : (xs 1) = .int .i64 (k : Nat) := hD 1 rfl
     clear hD hI
     simp only [patchS, Nat.reduceAdd, Nat.reduceEqDiff, ↓reduceIte] at hQo ⊢
     generalize xs 0 = y0 at *
     generalize xs 1 = y1 at *
     subst d0 d1
     go_wp2
     exact hK.out _ _ ⟨rfl, hG, fun _ _ _ _ _ _ h => h⟩
    ·intro kx xs wx hk hG hD hI Qo Kx hK hQo
     have d2 : (xs 2) = .pointer (some ⟨b1, o1 + k, none⟩) := hD 2 rfl
     clear hD hI
     simp only [patchS, Nat.reduceAdd, Nat.reduceEqDiff, ↓reduceIte] at hQo ⊢
     generalize xs 2 = y2 at *
     subst d2
     obtain ⟨q1, q2, he, cx⟩ := Ha.out wx hG
     simp only [Option.some.injEq, Addr.mk.injEq, and_true] at he
     obtain ⟨rfl, rfl⟩ := he
     go_wp2
     exact hK.out _ _ ⟨rfl, hG, fun _ _ _ _ _ _ h => h⟩
    ·intro kx xs wx hk hG hD hI Qo Kx hK hQo
     clear hD hI
     simp only [patchS, Nat.reduceAdd, Nat.reduceEqDiff, ↓reduceIte] at hQo ⊢
     go_wp2
     exact hK.out _ _ ⟨rfl, hG, fun _ _ _ _ _ _ h => h⟩
    ·intro kx xs wx hk hG hD hI Qo Kx hK hQo
     clear hD hI
     simp only [patchS, Nat.reduceAdd, Nat.reduceEqDiff, ↓reduceIte] at hQo ⊢
     go_wp2
     exact hK.out _ _ ⟨rfl, hG, fun _ _ _ _ _ _ h => h⟩
    ·intro kx xs wx hk hG hD hI Qo Kx hK hQo
     have d4 : (xs 4) = .slice (some ⟨b2, o2, none⟩) n d := hD 4 rfl
     have d5 : (xs 5) = .int .i64 (k : Nat) := hD 5 rfl
     clear hD hI
     simp only [patchS, Nat.reduceAdd, Nat.reduceEqDiff, ↓reduceIte] at hQo ⊢
     generalize xs 4 = y4 at *
     generalize xs 5 = y5 at *
     subst d4 d5
     go_wp2
     exact hK.out _ _ ⟨rfl, hG, fun _ _ _ _ _ _ h => h⟩
    ·intro kx xs wx hk hG hD hI Qo Kx hK hQo
     have d6 : (xs 6) = .pointer (some ⟨b2, o2 + k, none⟩) := hD 6 rfl
     clear hD hI
     simp only [patchS, Nat.reduceAdd, Nat.reduceEqDiff, ↓reduceIte] at hQo ⊢
     generalize xs 6 = y6 at *
     subst d6
     obtain ⟨q1, q2, he, cx⟩ := Hb.out wx hG
     simp only [Option.some.injEq, Addr.mk.injEq, and_true] at he
     obtain ⟨rfl, rfl⟩ := he
     go_wp2
     exact hK.out _ _ ⟨rfl, hG, fun _ _ _ _ _ _ h => h⟩
    ·intro kx xs wx hk hG hD hI Qo Kx hK hQo
     have d3 : (xs 3) = .int .i64 z := hD 3 rfl
     have d7 : (xs 7) = .int .i64 z := hD 7 rfl
     clear hD hI
     simp only [patchS, Nat.reduceAdd, Nat.reduceEqDiff, ↓reduceIte] at hQo ⊢
     generalize xs 3 = y3 at *
     generalize xs 7 = y7 at *
     subst d3 d7
     go_wp2
     exact hK.out _ _ ⟨rfl, hG, fun _ _ _ _ _ _ h => h⟩
   intro xs wx hV hG
   have d0 : (xs 0) = .slice (some ⟨b1, o1, none⟩) n c := hV 0 (by decide)
   have d1 : (xs 1) = .int .i64 (k : Nat) := hV 1 (by decide)
   have d2 : (xs 2) = .pointer (some ⟨b1, o1 + k, none⟩) := hV 2 (by decide)
   have d3 : (xs 3) = .int .i64 z := hV 3 (by decide)
   have d4 : (xs 4) = .slice (some ⟨b2, o2, none⟩) n d := hV 4 (by decide)
   have d5 : (xs 5) = .int .i64 (k : Nat) := hV 5 (by decide)
   have d6 : (xs 6) = .pointer (some ⟨b2, o2 + k, none⟩) := hV 6 (by decide)
   have d7 : (xs 7) = .int .i64 z := hV 7 (by decide)
   have d8 : (xs 8) = .bool false := hV 8 (by decide)
   clear hV
   simp only [patchS, Nat.reduceAdd, Nat.reduceEqDiff, ↓reduceIte]
   generalize xs 0 = y0 at *
   generalize xs 1 = y1 at *
   generalize xs 2 = y2 at *
   generalize xs 3 = y3 at *
   generalize xs 4 = y4 at *
   generalize xs 5 = y5 at *
   generalize xs 6 = y6 at *
   generalize xs 7 = y7 at *
   generalize xs 8 = y8 at *
   replace hG : Ext w wx := hG
   clear d0 d1 d2 d3 d4 d5 d6 d7
   subst d8
   clear Ha Hb
   go_wp2
   go_roundw
   case rel => exact ⟨k + 1, by omega, by go_num, hG⟩
   case measure => simp [intOf]; omega
  ·obtain rfl : k = n := by omega
   go_wp2
   go_ret
   exact ⟨rfl, E4⟩
set_option maxRecDepth 100000 in
theorem samePicture_same (x y : Int) (a b : Option Addr) (c d n : Nat) (zs : List Int) (w : World) (hn : n < 2^40) (r : Sl w a n (zs.map (Value.int .i64))) (s : Sl w b n (zs.map (Value.int .i64))) :
 Calls Tryd.prog 28 #[.agg #[.int .i64 x, .int .i64 y, .slice a n c], .agg #[.int .i64 x, .int .i64 y, .slice b n d]] w fun e w' => e = .returned (.bool true) ∧ Ext w w' := by
 have a2 := Ext.alloc (w.alloc (.cells #[.int .i64 x, .int .i64 y, .slice a n c] 25)) (.cells #[.int .i64 x, .int .i64 y, .slice b n d] 25)
 have p0 := a2.blk (blk_new w (.cells #[.int .i64 x, .int .i64 y, .slice a n c] 25))
 have p1 := blk_new (w.alloc (.cells #[.int .i64 x, .int .i64 y, .slice a n c] 25)) (.cells #[.int .i64 x, .int .i64 y, .slice b n d] 25)
 have E1 := (Ext.alloc w (.cells #[.int .i64 x, .int .i64 y, .slice a n c] 25)).trans a2
 simp only [World.size_alloc] at p1
 clear a2
 obtain ⟨-, k0, k1, k2, -⟩ := bx3 p0
 obtain ⟨-, j0, j1, j2, -⟩ := bx3 p1
 have hxx : (x == x) = true := by simp
 have hyy : (y == y) = true := by simp
 go_enter Tryd.func28, Tryd.ntmps28
 go_wp2_with fail
 refine (sameInts_same a b c d n zs _ hn (r.ext E1) (s.ext E1)).mono ?_
 rintro e w6 ⟨rfl, e6⟩
 have E6 := E1.trans e6
 clear p0 p1 E1 e6 k0 k1 k2 j0 j1 j2
 go_wp2
 go_ret
 exact ⟨rfl, E6⟩
end Go.Proofs.YtbnhaegidfbgbaaDoor
namespace Go.Proofs.YtbnhaegidfbgbaaDoor
open Go.RowKit
set_option maxHeartbeats 1000000
end Go.Proofs.YtbnhaegidfbgbaaDoor
namespace Go.Proofs.YtbnhaegidfbgbaaDoor
open Go.RowKit
set_option maxHeartbeats 400000
section
variable {P : Program}
/-- Fields that follow one another from o to n, each compared as lists. -/
def EqF (P : Program) (d n : Nat) : List Field → Nat → Prop
 | [], o => o = n
 | f :: fs, o => f.name ≠ "_" ∧ f.offset = o ∧ ∃ c, EqE P f.type c d ∧ o + c ≤ n ∧ EqF P d n fs (o + c)
theorem sub_split (zs : List Int) (o c m : Nat) : sub zs o (c + m) = sub zs o c ++ sub zs (o + c) m := by
 unfold sub
 rw [List.take_add, List.drop_drop]
theorem EqF.run {d n : Nat} (w : World) (xs ys : List Int) (hx : n ≤ xs.length) (hy : n ≤ ys.length) : ∀ (fs : List Field) (o : Nat), EqF P d n fs o →
 (Op.eqFields d (ic xs) (ic ys) fs).run P w = .ok (decide (sub xs o (n - o) = sub ys o (n - o))) w
 | [], o, h => by
  have h' : o = n := h
  subst h'
  simp [Op.eqFields, sub]
 | f :: fs, o, h => by
  obtain ⟨h1, h2, c, hE, hc, h3⟩ := h
  obtain ⟨a, b, p1, p2, p3⟩ := hE w xs ys o (by omega) (by omega)
  have ih := EqF.run w xs ys hx hy fs (o + c) h3
  have e : n - o = c + (n - (o + c)) := by omega
  rw [e, sub_split, sub_split]
  simp only [Op.eqFields, ne_eq, h1, not_false_eq_true, if_true, Sem.run_bind, h2, p1, p2, p3, Result.andThen_ok, ih]
  by_cases hs : sub xs o c = sub ys o c
  ·simp only [hs, decide_true, Bool.not_true, Bool.false_eq_true, if_false, ih]
   congr 1
   simp
  ·simp only [hs, decide_false, Bool.not_false, if_true, Sem.run_pure]
   congr 1
   symm
   rw [decide_eq_false_iff_not]
   intro h
   exact hs (List.append_inj_left h (by rw [sub_len _ _ _ (by omega), sub_len _ _ _ (by omega)]))
theorem fieldsOf_eq {t : TypeId} {fs : Array Field} (ht : P.underlying t = some (.struct fs)) : P.fieldsOf t = fs := by simp [Program.fieldsOf, ht]
theorem EqE.struct {t : TypeId} {n d : Nat} {fs : Array Field} (ht : P.underlying t = some (.struct fs)) (hp : P.stoodInHeld t = false) (hti : (P.info? t).map (·.size) = some n) (hF : EqF P d n fs.toList 0) : EqE P t n (d + 1) := by
 have he := fieldsOf_eq ht
 subst he
 intro w xs ys off h1 h2
 have hag := isAgg_of (P := P) w ht rfl
 cases hqt : P.info? t with
 | none => simp [hqt] at hti
 | some jj =>
  have hst : jj.size = n := by simpa [hqt] using hti
  refine ⟨.agg (ic (sub xs off n)), .agg (ic (sub ys off n)), ?_, ?_, ?_⟩
  ·simp [part, Sem.run_bind, hag, sizeOf, typeInfo, hqt, hst, ic_extract]
  ·simp [part, Sem.run_bind, hag, sizeOf, typeInfo, hqt, hst, ic_extract]
  ·rw [run_equalIn_struct w d t _ _ ht hp, EqF.run w _ _ (by rw [sub_len _ _ _ h1]; omega) (by rw [sub_len _ _ _ h2]; omega) _ 0 hF, Nat.sub_zero, sub_all _ _ (sub_len _ _ _ h1), sub_all _ _ (sub_len _ _ _ h2)]
end
end Go.Proofs.YtbnhaegidfbgbaaDoor
namespace Go.Proofs.YtbnhaegidfbgbaaDoor
open Go.RowKit
set_option maxHeartbeats 1000000
theorem byte_rangeV {L : List Int} (h : ∀ z ∈ L, (Lit.int .u8 z).wf = true) : ∀ z ∈ L, 0 ≤ z ∧ z ≤ 255 := by
 intro z hz
 have := h z hz
 simp [Lit.wf, IntKind.min, IntKind.max, IntKind.signed, IntKind.bits] at this
 exact ⟨by omega, by omega⟩
theorem sl_kept {w w' : World} {a : Option Addr} {n r : Nat} {xs : List Value} (h : Sl w a n xs) (g : w.grownBy w' (some r)) (hb : ∀ y, a = some y → 0 < n → y.block < r) : Sl w' a n xs := by
 by_cases h0 : n = 0
 ·subst h0
  exact ⟨h.1, fun i hi => by omega⟩
 ·exact h.grown g (fun y hy e => by have := hb y hy (by omega); simp at e; omega)
theorem PBx.e {w w' : World} {b : Nat} {p : Pic} {a : Option Addr} {n c : Nat} (h : PBx w b p a n c) (e : Ext w w') : PBx w' b p a n c := e.blk h
/-- What lies in the law's boxes: two pictures, a macroblock. -/
structure LS (w : World) (O : Nat) (p : Pic) (a : Option Addr) (n c : Nat) (q : Pic) (a2 : Option Addr) (n2 c2 u : Nat) (Z : List Int) (wx : World) : Prop where
 ex : Ext w wx
 b1 : PBx wx O p a n c
 b2 : PBx wx (O + 1) q a2 n2 c2
 ib : IB wx u 34 Z
 s1 : Sl wx a n (p.px.map (Value.int .i64))
 s2 : Sl wx a2 n2 (q.px.map (Value.int .i64))
theorem LS.e {w wx wy : World} {O n c n2 c2 u : Nat} {p q : Pic} {a a2 : Option Addr} {Z : List Int} (h : LS w O p a n c q a2 n2 c2 u Z wx) (e : Ext wx wy) : LS w O p a n c q a2 n2 c2 u Z wy :=
 ⟨h.ex.trans e, e.blk h.b1, e.blk h.b2, h.ib.ext e, h.s1.ext e, h.s2.ext e⟩
theorem VB1.ext {w w' : World} {b : Nat} {x y : Int} (h : w.heap[b]? = some (.cells #[.int .i64 x, .int .i64 y] 27 (0, 0))) (e : Ext w w') : w'.heap[b]? = some (.cells #[.int .i64 x, .int .i64 y] 27 (0, 0)) := e.blk h
end Go.Proofs.YtbnhaegidfbgbaaDoor
