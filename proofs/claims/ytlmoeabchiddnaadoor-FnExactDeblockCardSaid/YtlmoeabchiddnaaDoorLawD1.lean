/- FnExactDeblock: the program's Deblock returns what the reference's returns: the walk of the law. -/
import Derived.Test.YtlmoeabchiddnaaDoorDj
namespace Go.Proofs.YtlmoeabchiddnaaDoor
open Go.RowKit
set_option maxHeartbeats 1000000
/-- A picture's box. -/
def PB (w : World) (b : Nat) (x y : Int) (a : Option Addr) (n c : Nat) : Prop := w.heap[b]? = some (.cells #[.int .i64 x, .int .i64 y, .slice a n c] 46 (0, 0))
theorem PB.ext {w w' : World} {b : Nat} {x y : Int} {a : Option Addr} {n c : Nat} (h : PB w b x y a n c) (e : Ext w w') : PB w' b x y a n c := e.blk h
theorem PB.alloc {w : World} {b : Nat} {x y : Int} {a : Option Addr} {n c : Nat} (h : PB w b x y a n c) (o : Obj) : PB (w.alloc o) b x y a n c := blk_alloc h o
theorem PB.gr {w w' : World} {b : Nat} {x y : Int} {a : Option Addr} {n c : Nat} {row : Option Nat} (h : PB w b x y a n c) (g : w.grownBy w' row) (hne : row ≠ some b) : PB w' b x y a n c := blk_gr h g hne
theorem PB.cells {w : World} {b : Nat} {x y : Int} {a : Option Addr} {n c : Nat} (h : PB w b x y a n c) : w.cell? ⟨b, 0, none⟩ = some (.int .i64 x) ∧ w.cell? ⟨b, 1, none⟩ = some (.int .i64 y) ∧ w.cell? ⟨b, 2, none⟩ = some (.slice a n c) := by
  obtain ⟨-, h0, h1, h2, -⟩ := bx3 h
  exact ⟨h0, h1, h2⟩
theorem PB.ne_row {w : World} {b base n c : Nat} {x y : Int} {a : Option Addr} {v : Value} {m : Nat} {xs : List Value} (h : PB w b x y a n c) (own : w.ownsRow base 3 1 v m xs) : v.ownBlock ≠ some b := by
  rcases own_ne_blk own h (by decide) with h1 | h1
  · rw [h1]; simp
  · exact h1
set_option maxRecDepth 100000 in
set_option maxHeartbeats 2000000 in
theorem law_FnExactDeblock (a : Option Addr) (c : Nat) (p : Pic) (q : Int) (wq : (Lit.int .i64 q).wf = true) (w : World) (hT : TabQ w) (r : Sl w a p.px.length (p.px.map (Value.int .i64))) (hn0 : p.px.length ≤ c ∧ c ≤ maxLen) :
    Calls Tryd.prog 5 #[.agg #[.int .i64 p.w, .int .i64 p.h, .slice a p.px.length c], .int .i64 q] w fun e w' => e = .returned (.bool true) ∧ Ext w w' := by
  have hn : p.px.length ≤ 9223372036854775807 := Nat.le_trans hn0.1 hn0.2
  clear hn0 wq
  have hm : (dbPic p q).px.length ≤ p.px.length := by
    unfold dbPic
    split
    · rw [dbL_len]; exact Nat.le_refl _
    · exact Nat.zero_le _
  have HS := Lib.hid (fun (a : Option Addr) (c : Nat) (w : World) (r : Sl w a p.px.length (p.px.map (Value.int .i64))) => spec_Deblock_any p q a c _ w rfl hn r)
  have HI := Lib.hid (fun (a : Option Addr) (c : Nat) (w : World) (hT : TabQ w) (r : Sl w a p.px.length (p.px.map (Value.int .i64))) => impl_Deblock_any p q a c _ w hT rfl hn r)
  obtain ⟨x, y, zs⟩ := p
  simp only at hn hm HS HI r ⊢
  generalize dbPic ⟨x, y, zs⟩ q = R at *
  obtain ⟨rx, ry, rz⟩ := R
  simp only at hm HS HI
  obtain ⟨n, hnz⟩ : ∃ n, n = zs.length := ⟨_, rfl⟩
  obtain ⟨m, hmz⟩ : ∃ m, m = rz.length := ⟨_, rfl⟩
  rw [← hnz] at hn hm HS HI r ⊢
  rw [← hmz] at hm HS HI
  clear hnz hmz
  have X0 := blk_new w (.cells #[.int .i64 x, .int .i64 y, .slice a n c] 44)
  have E0 := Ext.alloc w (.cells #[.int .i64 x, .int .i64 y, .slice a n c] 44)
  go_enter Tryd.func5, Tryd.ntmps5
  go_wp2_with fail
  refine (szPicture_any x y a c n 1048576 _ hn (by omega) (by omega)).mono ?_
  rintro e w1 ⟨rfl, e1⟩
  have E1 := E0.trans e1
  have X1 := e1.blk X0
  clear E0 X0 e1
  by_cases hneg : (1048576 : Int) - n < 0
  · rw [if_pos hneg]
    go_wp2
    go_ret
    exact ⟨rfl, E1⟩
  rw [if_neg hneg]
  have hd : decide ((1048576 : Int) - (n : Int) < 0) = false := by simpa using hneg
  have hn45 : n < 2^40 := by omega
  obtain ⟨-, k0, k1, k2, -⟩ := bx3 X1
  -- the reference's answer
  go_wp2_with fail
  refine (toPicture_any x y a n c zs _ (by omega) (r.ext E1)).mono ?_
  rintro e w2 ⟨a2, c2, rfl, own2, e2⟩
  go_wp2_with fail
  refine (HS.out a2 c2 _ (Sl.of_owns own2)).mono ?_
  rintro e w3 ⟨a3, c3, rfl, own3, e3⟩
  have e23 := e2.trans e3
  have S3 := Lib.hid (show ∀ y, a3 = some y → y.block < w3.heap.size from fun y hy => (own3.lt y.block (by rw [hy]; rfl)).2)
  have s3 := Sl.of_owns own3
  have X3 := (e23.blk X1)
  have E3 := E1.trans e23
  clear own2 e2 e3 e23 own3 X1 E1 k0 k1 k2
  obtain ⟨b, hb⟩ : ∃ b, b = w3.heap.size := ⟨_, rfl⟩
  have e4 := Ext.alloc w3 (.cells #[.int .i64 rx, .int .i64 ry, .slice a3 m c3] 46)
  have P4 : PB (w3.alloc (.cells #[.int .i64 rx, .int .i64 ry, .slice a3 m c3] 46)) b rx ry a3 m c3 := by rw [hb]; exact blk_new _ _
  have X4 := e4.blk X3
  have E4 := E3.trans e4
  have s4 := s3.ext e4
  have h34 : b < (w3.alloc (.cells #[.int .i64 rx, .int .i64 ry, .slice a3 m c3] 46)).heap.size := by rw [hb]; simp
  have hwb : w.heap.size < b := by rw [hb]; exact lt_of_block X3
  have S4 := Lib.hid (show ∀ y, a3 = some y → y.block < b from fun y hy => by rw [hb]; exact S3.out y hy)
  obtain ⟨-, k0, k1, k2, -⟩ := bx3 X4
  -- the argument's copy
  go_wp2_with fail
  rw [← hb]
  generalize w3.alloc (.cells #[.int .i64 rx, .int .i64 ry, .slice a3 m c3] 46) = w4 at *
  clear hb S3 s3 X3 E3 e4
  refine (toPicture_any x y a n c zs _ (by omega) (r.ext E4)).mono ?_
  rintro e w5 ⟨a5, c5, rfl, own5, e5⟩
  obtain ⟨d, hdd⟩ : ∃ d, d = w5.heap.size := ⟨_, rfl⟩
  have e6 := Ext.alloc w5 (.cells #[.int .i64 x, .int .i64 y, .slice a5 n c5] 46)
  have P6 : PB (w5.alloc (.cells #[.int .i64 x, .int .i64 y, .slice a5 n c5] 46)) d x y a5 n c5 := by rw [hdd]; exact blk_new _ _
  have own6 := owns_ext own5 e6
  have O6 := Lib.hid (show ∀ k, (Value.slice a5 n c5).ownBlock = some k → w4.heap.size ≤ k ∧ k < d from fun k hk => by rw [hdd]; exact own5.lt k hk)
  have hbd : b < d := by have := e5.size; omega
  have hd6 : d < (w5.alloc (.cells #[.int .i64 x, .int .i64 y, .slice a5 n c5] 46)).heap.size := by rw [hdd]; simp
  have e46 := e5.trans e6
  have P6b := P4.ext e46
  have X6 := e46.blk X4
  have E6 := E4.trans e46
  have s6 := s4.ext e46
  clear own5 e5 e6 P4 X4 k0 k1 k2 s4
  obtain ⟨k0, k1, k2⟩ := P6.cells
  -- the program's answer
  go_wp2_with fail
  rw [← hdd]
  generalize w5.alloc (.cells #[.int .i64 x, .int .i64 y, .slice a5 n c5] 46) = w6 at *
  clear hdd
  refine (HI.out a5 c5 _ (hT.ext E6) (Sl.of_owns own6)).mono ?_
  rintro e w7 ⟨a7, c7, rfl, own7, e7⟩
  obtain ⟨f, hf⟩ : ∃ f, f = w7.heap.size := ⟨_, rfl⟩
  have e8 := Ext.alloc w7 (.cells #[.int .i64 rx, .int .i64 ry, .slice a7 m c7] 46)
  have P8 : PB (w7.alloc (.cells #[.int .i64 rx, .int .i64 ry, .slice a7 m c7] 46)) f rx ry a7 m c7 := by rw [hf]; exact blk_new _ _
  have own8 := owns_ext own7 e8
  have O8 := Lib.hid (show ∀ k, (Value.slice a7 m c7).ownBlock = some k → d < k ∧ k < f from fun k hk => by rw [hf]; exact ⟨Nat.lt_of_lt_of_le hd6 (own7.lt k hk).1, (own7.lt k hk).2⟩)
  have hdf : d < f := by have := e7.size; omega
  have e68 := e7.trans e8
  have P8b := P6b.ext e68
  have P8d := P6.ext e68
  have own8d := owns_ext own6 e68
  have X8 := e68.blk X6
  have E8 := E6.trans e68
  have s8 := s6.ext e68
  clear own7 e7 e8 P6 P6b own6 X6 s6 k0 k1 k2 e46
  obtain ⟨k0, k1, k2⟩ := P8.cells
  obtain ⟨l0, l1, l2⟩ := P8b.cells
  go_wp2_with fail
  rw [← hf]
  generalize w7.alloc (.cells #[.int .i64 rx, .int .i64 ry, .slice a7 m c7] 46) = w8 at *
  clear hf
  refine (eqPicture_same rx ry a7 a3 c7 c3 m rz _ (by omega) (Sl.of_owns own8) s8).mono ?_
  rintro e w9 ⟨rfl, e9⟩
  have P9 := P8.ext e9
  have P9b := P8b.ext e9
  have P9d := P8d.ext e9
  have own9 := owns_ext own8 e9
  have own9d := owns_ext own8d e9
  have X9 := e9.blk X8
  have E9 := E8.trans e9
  have s9 := s8.ext e9
  clear e9 P8 P8b P8d own8 own8d X8 E8 s8 k0 k1 k2 l0 l1 l2 e68 E6 E4
  have t9d := Sl.of_owns own9d
  go_upto_region 10 with fail
  have hext : ∀ (i : Nat) (own : Value) (ys : Nat → Value) (wa wb : World), Ext wa wb → (match i with | 0 => own = .agg #[.int .i64 x, .int .i64 y, .slice a5 n c5] | 1 => own = .agg #[.int .i64 x, .int .i64 y, .slice a n c] | 2 => ∃ (a2 : Option Addr) (c2 : Nat), own = .agg #[.int .i64 x, .int .i64 y, .slice a2 n c2] ∧ Sl wa a2 n (zs.map (Value.int .i64)) | 3 => own = .bool true | 4 => own = .bool false | _ => True) → (match i with | 0 => own = .agg #[.int .i64 x, .int .i64 y, .slice a5 n c5] | 1 => own = .agg #[.int .i64 x, .int .i64 y, .slice a n c] | 2 => ∃ (a2 : Option Addr) (c2 : Nat), own = .agg #[.int .i64 x, .int .i64 y, .slice a2 n c2] ∧ Sl wb a2 n (zs.map (Value.int .i64)) | 3 => own = .bool true | 4 => own = .bool false | _ => True) := by
    intro i own ys wa wb e h
    match i, h with
    | 0, h => exact h
    | 1, h => exact h
    | 2, h => obtain ⟨a2, c2, h1, h2⟩ := h; exact ⟨a2, c2, h1, h2.ext e⟩
    | 3, h => exact h
    | 4, h => exact h
    | _ + 5, _ => trivial
  have Hext := Lib.hid hext
  clear hext
  refine wp_region_inv2 (by kernel_rfl) [(31, 0), (32, 1), (33, 2), (34, 3), (35, 4)] [[], [], [1], [0, 1, 2], [0, 1, 2, 3]] (fun i own ys wx => match i with | 0 => own = .agg #[.int .i64 x, .int .i64 y, .slice a5 n c5] | 1 => own = .agg #[.int .i64 x, .int .i64 y, .slice a n c] | 2 => ∃ (a2 : Option Addr) (c2 : Nat), own = .agg #[.int .i64 x, .int .i64 y, .slice a2 n c2] ∧ Sl wx a2 n (zs.map (Value.int .i64)) | 3 => own = .bool true | 4 => own = .bool false | _ => True) (fun kx wx => Ext w9 wx) (by kernel_rfl) (by kernel_rfl) (by kernel_rfl) ?g0_r1 ?gop_r1 ?gend_r1
  case g0_r1 => exact Ext.drewN _ 1
  case gop_r1 =>
    refine ⟨?_, ?_, ?_, ?_, ?_, trivial⟩
    · intro kx xs wx hk hG hD hI Qo Kx hK hQo
      clear hD
      clear hI
      simp only [patchS, Nat.reduceAdd, Nat.reduceEqDiff, ↓reduceIte] at hQo ⊢
      obtain ⟨k0, k1, k2⟩ := (P9d.ext hG).cells
      go_wp2
      exact hK.out _ _ ⟨rfl, hG, fun _ _ _ _ _ _ h => h⟩
    · intro kx xs wx hk hG hD hI Qo Kx hK hQo
      clear hD
      clear hI
      simp only [patchS, Nat.reduceAdd, Nat.reduceEqDiff, ↓reduceIte] at hQo ⊢
      obtain ⟨-, k0, k1, k2, -⟩ := bx3 (hG.blk X9)
      go_wp2
      exact hK.out _ _ ⟨rfl, hG, fun _ _ _ _ _ _ h => h⟩
    · intro kx xs wx hk hG hD hI Qo Kx hK hQo
      have d1 : (xs 1) = .agg #[.int .i64 x, .int .i64 y, .slice a n c] := hD 1 rfl
      clear hD
      clear hI
      simp only [patchS, Nat.reduceAdd, Nat.reduceEqDiff, ↓reduceIte] at hQo ⊢
      generalize xs 1 = y1 at *
      subst d1
      go_wp2_with fail
      refine (toPicture_any x y a n c zs _ (by omega) (r.ext (E9.trans hG))).mono ?_
      rintro e wz ⟨az, cz, rfl, ownz, ez⟩
      go_wp2
      exact hK.out _ _ ⟨⟨az, cz, rfl, Sl.of_owns ownz⟩, hG.trans ez, fun i _ _ _ own ys h => Hext.out i own ys _ _ ez h⟩
    · intro kx xs wx hk hG hD hI Qo Kx hK hQo
      have d0 : (xs 0) = .agg #[.int .i64 x, .int .i64 y, .slice a5 n c5] := hD 0 rfl
      have d2 : ∃ (a2 : Option Addr) (c2 : Nat), (xs 2) = .agg #[.int .i64 x, .int .i64 y, .slice a2 n c2] ∧ Sl wx a2 n (zs.map (Value.int .i64)) := hD 2 rfl
      clear hD
      clear hI
      simp only [patchS, Nat.reduceAdd, Nat.reduceEqDiff, ↓reduceIte] at hQo ⊢
      generalize xs 0 = y0 at *
      generalize xs 2 = y2 at *
      subst d0
      obtain ⟨a2, c2, rfl, o2⟩ := d2
      go_wp2_with fail
      refine (eqPicture_same x y a5 a2 c5 c2 n zs _ (by omega) (t9d.ext hG) o2).mono ?_
      rintro e wz ⟨rfl, ez⟩
      go_wp2
      exact hK.out _ _ ⟨rfl, hG.trans ez, fun i _ _ _ own ys h => Hext.out i own ys _ _ ez h⟩
    · intro kx xs wx hk hG hD hI Qo Kx hK hQo
      have d3 : (xs 3) = .bool true := hD 3 rfl
      clear hD
      clear hI
      simp only [patchS, Nat.reduceAdd, Nat.reduceEqDiff, ↓reduceIte] at hQo ⊢
      generalize xs 3 = y3 at *
      subst d3
      go_wp2
      exact hK.out _ _ ⟨rfl, hG, fun _ _ _ _ _ _ h => h⟩
  clear Hext
  intro xs wx hV hG
  have d0 : (xs 0) = .agg #[.int .i64 x, .int .i64 y, .slice a5 n c5] := hV 0 (by decide)
  have d1 : (xs 1) = .agg #[.int .i64 x, .int .i64 y, .slice a n c] := hV 1 (by decide)
  have d2 : ∃ (a2 : Option Addr) (c2 : Nat), (xs 2) = .agg #[.int .i64 x, .int .i64 y, .slice a2 n c2] ∧ Sl wx a2 n (zs.map (Value.int .i64)) := hV 2 (by decide)
  have d3 : (xs 3) = .bool true := hV 3 (by decide)
  have d4 : (xs 4) = .bool false := hV 4 (by decide)
  clear hV
  simp only [patchS, Nat.reduceAdd, Nat.reduceEqDiff, ↓reduceIte]
  generalize xs 0 = y0 at *
  generalize xs 1 = y1 at *
  generalize xs 2 = y2 at *
  generalize xs 3 = y3 at *
  generalize xs 4 = y4 at *
  replace hG : Ext w9 wx := hG
  clear d0 d1 d2 d3
  subst d4
  have P10 := P9.ext hG
  have P10b := P9b.ext hG
  have P10d := P9d.ext hG
  have own10 := owns_ext own9 hG
  have own10d := owns_ext own9d hG
  have X10 := hG.blk X9
  have E10 := E9.trans hG
  have s10 := s9.ext hG
  clear hG P9 P9b P9d own9 own9d X9 E9 s9 t9d
  generalize wx = w10 at *
  obtain ⟨k0, k1, k2⟩ := P10d.cells
  -- the argument is overwritten
  go_wp2_with fail
  refine (markPicture_any x y a5 n c5 _ 1 _ _ (by omega) (by omega) (by omega) own10d).mono ?_
  rintro e w11 ⟨rfl, -, g11⟩
  have hd9 : decide ((1 : Int) + n < 0) = false := by simp; omega
  have E11 : Ext w w11 := Ext.grown E10 g11 (fun k hk => by have := (O6.out k hk).1; omega)
  have X11 := blk_gr X10 g11 (fun e => by have := (O6.out _ e).1; omega)
  have P11 := P10.gr g11 (fun e => by have := (O6.out _ e).2; omega)
  have P11b := P10b.gr g11 (fun e => by have := (O6.out _ e).1; omega)
  have own11 := own10.kept g11 (by
    cases hv : (Value.slice a7 m c7).ownBlock with
    | none => exact .inl rfl
    | some k => right; intro e; have := (O6.out k e.symm).2; have := (O8.out k hv).1; omega)
  have s11 := s10.grown g11 (fun y hy e => by have := S4.out y hy; have := (O6.out y.block e.symm).1; omega)
  clear g11 P10 P10b P10d own10 own10d X10 E10 s10 k0 k1 k2
  obtain ⟨k0, k1, k2⟩ := P11.cells
  obtain ⟨l0, l1, l2⟩ := P11b.cells
  go_wp2_with fail
  refine (eqPicture_same rx ry a7 a3 c7 c3 m rz _ (by omega) (Sl.of_owns own11) s11).mono ?_
  rintro e w12 ⟨rfl, e12⟩
  have P12 := P11.ext e12
  have P12b := P11b.ext e12
  have own12 := owns_ext own11 e12
  have X12 := e12.blk X11
  have E12 := E11.trans e12
  have s12 := s11.ext e12
  clear e12 P11 P11b own11 X11 E11 s11 k0 k1 k2 l0 l1 l2
  obtain ⟨k0, k1, k2⟩ := P12.cells
  -- the answer is overwritten
  go_wp2_with fail
  refine (markPicture_any rx ry a7 m c7 _ 1 _ _ (by omega) (by omega) (by omega) own12).mono ?_
  rintro e w13 ⟨rfl, own13, g13⟩
  have t13 := Sl.of_owns own13
  have E13 : Ext w w13 := Ext.grown E12 g13 (fun k hk => by have := (O8.out k hk).1; omega)
  have X13 := blk_gr X12 g13 (fun e => by have := (O8.out _ e).1; omega)
  have P13 := P12.gr g13 (fun e => by have := (O8.out _ e).2; omega)
  have P13b := P12b.gr g13 (fun e => by have := (O8.out _ e).1; omega)
  have s13 := s12.grown g13 (fun y hy e => by have := S4.out y hy; have := (O8.out y.block e.symm).1; omega)
  clear g13 P12 P12b own12 X12 E12 s12 k0 k1 k2 own13
  obtain ⟨k0, k1, k2⟩ := P13.cells
  have hd13 : decide ((1 : Int) + m < 0) = false := by simp; omega
  have hq : ((1 : Int) + m != 1 + (m : Int)) = false := by simp
  go_wp2_with fail
  refine (heldPicture_any rx ry a7 m c7 1 _ (by omega) (by omega) (by omega) t13).mono ?_
  rintro e w14 ⟨rfl, e14⟩
  have P14 := P13.ext e14
  have P14b := P13b.ext e14
  have X14 := e14.blk X13
  have E14 := E13.trans e14
  have s14 := s13.ext e14
  have t14 := t13.ext e14
  clear e14 P13 P13b X13 E13 s13 t13 k0 k1 k2
  obtain ⟨-, k0, k1, k2, -⟩ := bx3 X14
  -- the program's answer anew
  go_wp2_with fail
  refine (toPicture_any x y a n c zs _ (by omega) (r.ext E14)).mono ?_
  rintro e w15 ⟨a15, c15, rfl, own15, e15⟩
  go_wp2_with fail
  refine (HI.out a15 c15 _ (hT.ext (E14.trans e15)) (Sl.of_owns own15)).mono ?_
  rintro e w16 ⟨a16, c16, rfl, own16, e16⟩
  have e1416 := e15.trans e16
  have e17 := Ext.alloc w16 (.cells #[.int .i64 rx, .int .i64 ry, .slice a16 m c16] 46)
  obtain ⟨h, hh⟩ : ∃ h, h = w16.heap.size := ⟨_, rfl⟩
  have P17 : PB (w16.alloc (.cells #[.int .i64 rx, .int .i64 ry, .slice a16 m c16] 46)) h rx ry a16 m c16 := by rw [hh]; exact blk_new _ _
  have t17 := (Sl.of_owns own16).ext e17
  have ee := e1416.trans e17
  have P17f := P14.ext ee
  have P17b := P14b.ext ee
  have E17 := E14.trans ee
  have s17 := s14.ext ee
  have u17 := t14.ext ee
  clear e15 e16 e17 e1416 ee own15 own16 P14 P14b X14 E14 s14 t14 k0 k1 k2
  obtain ⟨k0, k1, k2⟩ := P17.cells
  obtain ⟨l0, l1, l2⟩ := P17b.cells
  go_wp2_with fail
  rw [← hh]
  generalize w16.alloc (.cells #[.int .i64 rx, .int .i64 ry, .slice a16 m c16] 46) = w17 at *
  clear hh
  refine (eqPicture_same rx ry a16 a3 c16 c3 m rz _ (by omega) t17 s17).mono ?_
  rintro e w18 ⟨rfl, e18⟩
  have P18 := P17f.ext e18
  have E18 := E17.trans e18
  have u18 := u17.ext e18
  clear e18 P17 P17f P17b E17 s17 u17 t17 k0 k1 k2 l0 l1 l2
  obtain ⟨k0, k1, k2⟩ := P18.cells
  go_wp2_with fail
  refine (heldPicture_any rx ry a7 m c7 1 _ (by omega) (by omega) (by omega) u18).mono ?_
  rintro e w19 ⟨rfl, e19⟩
  go_wp2
  go_ret
  exact ⟨rfl, E18.trans e19⟩
end Go.Proofs.YtlmoeabchiddnaaDoor
