/- Drawing: the arguments of MacroCost. | What a macroblock costs: the reference's walk. -/
import Derived.Test.YtbnhaegidfbgbaaGreatDoorQm17
set_option linter.unusedVariables false
set_option linter.unusedSimpArgs false
namespace Go.Proofs.YtbnhaegidfbgbaaGreatDoor
open Go.RowKit
set_option maxHeartbeats 1000000
theorem results_cccttctt {P : Program} {fn : Func} {p0 : Tmp} {y0 : TypeId} {p1 : Tmp} {y1 : TypeId} {p2 : Tmp} {y2 : TypeId} {p3 : Tmp} {p4 : Tmp} {p5 : Tmp} {y5 : TypeId} {p6 : Tmp} {p7 : Tmp} (h : fn.results = #[.cell p0 y0, .cell p1 y1, .cell p2 y2, .tmp p3, .tmp p4, .cell p5 y5, .tmp p6, .tmp p7]) (tmps : Array Value) (w : World)
 (g0 : Nat) (cs0 : Array Value) (hp0 : tmps.getD p0 undef = .pointer (some ⟨g0, 0, none⟩)) (hl0 : (loadVar y0 ⟨g0, 0, none⟩).run P w = .ok (.agg cs0) w)
 (g1 : Nat) (cs1 : Array Value) (hp1 : tmps.getD p1 undef = .pointer (some ⟨g1, 0, none⟩)) (hl1 : (loadVar y1 ⟨g1, 0, none⟩).run P w = .ok (.agg cs1) w)
 (g2 : Nat) (cs2 : Array Value) (hp2 : tmps.getD p2 undef = .pointer (some ⟨g2, 0, none⟩)) (hl2 : (loadVar y2 ⟨g2, 0, none⟩).run P w = .ok (.agg cs2) w)
 (g5 : Nat) (cs5 : Array Value) (hp5 : tmps.getD p5 undef = .pointer (some ⟨g5, 0, none⟩)) (hl5 : (loadVar y5 ⟨g5, 0, none⟩).run P w = .ok (.agg cs5) w) :
 (results fn tmps).run P w = .ok (.tuple #[.agg cs0, .agg cs1, .agg cs2, tmps.getD p3 undef, tmps.getD p4 undef, .agg cs5, tmps.getD p6 undef, tmps.getD p7 undef]) w := by
 have hq0 : tmps[p0]?.getD undef = .pointer (some ⟨g0, 0, none⟩) := by simpa using hp0
 have hq1 : tmps[p1]?.getD undef = .pointer (some ⟨g1, 0, none⟩) := by simpa using hp1
 have hq2 : tmps[p2]?.getD undef = .pointer (some ⟨g2, 0, none⟩) := by simpa using hp2
 have hq5 : tmps[p5]?.getD undef = .pointer (some ⟨g5, 0, none⟩) := by simpa using hp5
 simp [results, h, hq0, hl0, hq1, hl1, hq2, hl2, hq5, hl5, asAddr, Sem.run_bind, Result.andThen]
/-- Some picture that lies beyond the reader. -/
def P3 (b : Nat) (wx : World) (v : Value) : Prop := ∃ (r : Pic) (a : Option Addr) (n c : Nat), v = .agg #[.int .i64 r.w, .int .i64 r.h, .slice a n c] ∧ Hid (n = r.px.length) ∧ n ≤ 1024 ∧ Sl wx a n (r.px.map (Value.int .i64)) ∧ ∀ y, a = some y → b < y.block
theorem P3.gr {b x : Nat} {wx wy : World} {v : Value} (h : P3 b wx v) (g : wx.grownBy wy (some x)) (hx : x ≤ b) : P3 b wy v := by
 obtain ⟨r, a, n, c, h1, h2, h3, h4, h5⟩ := h
 exact ⟨r, a, n, c, h1, h2, h3, h4.grown g (fun u hu => by have := h5 u hu; simp; omega), h5⟩
def P3x (b X : Nat) (wx : World) : Prop := ∃ (r : Pic) (a : Option Addr) (n c : Nat), PBx wx X r a n c ∧ Hid (n = r.px.length) ∧ n ≤ 1024 ∧ Sl wx a n (r.px.map (Value.int .i64)) ∧ ∀ y, a = some y → b < y.block
theorem P3x.gr {b x X : Nat} {wx wy : World} (h : P3x b X wx) (g : wx.grownBy wy (some x)) (hx : x ≤ b) (hne : x ≠ X) : P3x b X wy := by
 obtain ⟨r, a, n, c, h1, h2, h3, h4, h5⟩ := h
 exact ⟨r, a, n, c, PBx.gr h1 g (by simp; omega), h2, h3, h4.grown g (fun u hu => by have := h5 u hu; simp; omega), h5⟩
def DS4 (w : World) (b P C k O : Nat) (p : Pic) (a : Option Addr) (n c Q : Nat) (q : Pic) (a2 : Option Addr) (n2 c2 : Nat) (wx : World) : Prop := DS w b P C k O p a n c Q q a2 n2 c2 wx ∧ PB0 wx (w.heap.size + 2) ∧ MB wx (w.heap.size + 3) ∧ w.heap.size + 4 ≤ b
section
variable {w wx wy : World} {b P C k O n c Q n2 c2 : Nat} {p q : Pic} {a a2 : Option Addr}
theorem DS4.step (h : DS4 w b P C k O p a n c Q q a2 n2 c2 wx) : DS4 w b P C (k + 1) O p a n c Q q a2 n2 c2 wx := ⟨h.1.step, h.2⟩
theorem DS4.more {c' : Nat} (h : DS4 w b P C k O p a n c Q q a2 n2 c2 wx) (e : wx.grownBy wy (some b)) (r : RdP wy b (P + k * C + c')) (hc : c' ≤ C) : DS4 w b P C (k + 1) O p a n c Q q a2 n2 c2 wy := by
 have hb := h.2.2.2
 exact ⟨h.1.more e r hc, h.2.1.gr e (by simp; omega), h.2.2.1.gr e (by simp; omega), hb⟩
theorem DS4.ext (h : DS4 w b P C k O p a n c Q q a2 n2 c2 wx) (e : Ext wx wy) : DS4 w b P C (k + 1) O p a n c Q q a2 n2 c2 wy := ⟨h.1.ext e, h.2.1.ext e, h.2.2.1.ext e, h.2.2.2⟩
end
set_option maxRecDepth 100000 in
theorem l20Tiny_c (b P : Nat) (m : Int) (w : World) (h : RdP w b P) (hp : P < 2^35) (hm0 : 0 ≤ m) (hm : m ≤ 1000000) :
 Calls Tryz.prog 32 #[.pointer (some ⟨b, 0, none⟩), .int .i64 m] w (PairR w b (P + 8000)) := by
 have hbw : b < w.heap.size := h.lt
 have e0 : Ext w ((w.alloc (.cells #[.int .i64 0, .int .i64 0, .slice none 0 0] 25)).alloc (.cells #[.int .i64 0, .int .i64 0, .slice none 0 0] 25)) := (Ext.alloc w (.cells #[.int .i64 0, .int .i64 0, .slice none 0 0] 25)).trans (Ext.alloc _ _)
 have R0 : PZ ((w.alloc (.cells #[.int .i64 0, .int .i64 0, .slice none 0 0] 25)).alloc (.cells #[.int .i64 0, .int .i64 0, .slice none 0 0] 25)) w.heap.size := ⟨_, _, _, (Ext.alloc (w.alloc (.cells #[.int .i64 0, .int .i64 0, .slice none 0 0] 25)) (.cells #[.int .i64 0, .int .i64 0, .slice none 0 0] 25)).blk (blk_new w (.cells #[.int .i64 0, .int .i64 0, .slice none 0 0] 25))⟩
 have R1 : PZ ((w.alloc (.cells #[.int .i64 0, .int .i64 0, .slice none 0 0] 25)).alloc (.cells #[.int .i64 0, .int .i64 0, .slice none 0 0] 25)) (w.heap.size + 1) := ⟨_, _, _, by have := blk_new (w.alloc (.cells #[.int .i64 0, .int .i64 0, .slice none 0 0] 25)) (.cells #[.int .i64 0, .int .i64 0, .slice none 0 0] 25); rwa [World.size_alloc] at this⟩
 have r0 := h.ext e0
 have G0 : w.grownBy _ (some b) := ext_gr e0
 have z0 : w.heap.size + 2 ≤ ((w.alloc (.cells #[.int .i64 0, .int .i64 0, .slice none 0 0] 25)).alloc (.cells #[.int .i64 0, .int .i64 0, .slice none 0 0] 25)).heap.size := by simp
 clear h e0
 go_enter Tryz.func32, Tryz.ntmps32
 go_upto_region 1 with fail
 try simp only [World.size_alloc]
 generalize (w.alloc (.cells #[.int .i64 0, .int .i64 0, .slice none 0 0] 25)).alloc (.cells #[.int .i64 0, .int .i64 0, .slice none 0 0] 25) = w0 at *
 go_wp2_with fail
 refine (pick_c b P 2 _ r0 (by omega) (by omega) (by omega)).mono ?_
 rintro e u1 ⟨i1, rfl, i1a, i1b, ra, ga⟩
 go_wp2_with fail
 refine (pick_c b _ 2 _ ra (by omega) (by omega) (by omega)).mono ?_
 rintro e u2 ⟨i2, rfl, i2a, i2b, rb, gb⟩
 obtain ⟨W, hW⟩ : ∃ W : Nat, 8 * (1 + i1) = (W : Int) := ⟨(8 * (1 + i1)).toNat, by omega⟩
 obtain ⟨H, hH⟩ : ∃ H : Nat, 8 * (1 + i2) = (H : Int) := ⟨(8 * (1 + i2)).toNat, by omega⟩
 have hs1 : side W := ⟨by omega, by omega, by omega⟩
 have hs2 : side H := ⟨by omega, by omega, by omega⟩
 go_wp2_with fail
 try rw [hW]
 try rw [hH]
 refine (l20Pic_c b _ W H _ rb (by omega) hs1 hs2).mono ?_
 rintro e w1 ⟨a, c, n, zs, rfl, hn0, hz, own3, rc, gc⟩
 have hpl := area_le hs1 hs2
 have hn2 : n ≤ 1024 := by
  have : (n : Int) = (W : Int) * (H : Int) := by rw [hn0]; simp
  omega
 have gbc := grown_trans gb gc
 have g1 := grown_trans ga gbc
 obtain ⟨p, hp0⟩ : ∃ p : Pic, p = ⟨W, H, zs⟩ := ⟨_, rfl⟩
 have hpw : (W : Int) = p.w := by rw [hp0]
 have hph : (H : Int) = p.h := by rw [hp0]
 have hpx : zs = p.px := by rw [hp0]
 obtain ⟨w8, w32, -⟩ := hs1
 obtain ⟨h8, h32, -⟩ := hs2
 have s1 := Sl.of_owns own3
 rw [hpx] at s1
 have hn : n = p.px.length := s1.int_len.symm
 have r1 : RdP w1 b (P + 2100) := rc.mono (by omega)
 have ha : ∀ y, a = some y → w0.heap.size ≤ y.block := fun y hy => by
  have h1 := (own3.lt y.block (by rw [hy]; rfl)).1
  have h2 := ga.size
  have h3 := gb.size
  omega
 have A1 : PicA (w.heap.size + 2) w1.heap.size w1 p a c n := (PicA.new hn hn2 (by omega) (by omega) (by omega) (by omega) s1 ha).mono z0 (Nat.le_refl _)
 rw [hpw, hph]
 clear hp0 hpw hph hpx own3 rc gc gbc ga gb ra rb hW hH hz hpl hn0 w8 w32 h8 h32
 have G1 := grown_trans G0 g1
 have S0 := R0.gr g1 (by simp; omega)
 have S1 := R1.gr g1 (by simp; omega)
 have z1 := Nat.le_trans z0 g1.size
 obtain ⟨O, hO⟩ : ∃ O, O = w1.heap.size := ⟨_, rfl⟩
 have e2 := Ext.alloc w1 (.cells #[.int .i64 p.w, .int .i64 p.h, .slice a n c] 25)
 have B2 : PBx (w1.alloc (.cells #[.int .i64 p.w, .int .i64 p.h, .slice a n c] 25)) O p a n c := by rw [hO]; exact blk_new _ _
 have zz2 : O + 1 ≤ (w1.alloc (.cells #[.int .i64 p.w, .int .i64 p.h, .slice a n c] 25)).heap.size := by rw [hO]; simp
 have A2 := A1.ext e2
 have G2 := grown_ext G1 e2
 have S2 := S0.ext e2
 have T2 := S1.ext e2
 have r2 := r1.ext e2
 rw [← hO] at A2 z1
 have HN := Lib.hid hn
 clear r0 G0 R0 R1 s1 ha g1 A1 G1 S0 S1 e2 r1 hn
 obtain ⟨k0, k1, k2⟩ := B2.cells
 go_upto_region 2 with fail
 rw [← hO]
 generalize w1.alloc (.cells #[.int .i64 p.w, .int .i64 p.h, .slice a n c] 25) = w2 at *
 clear hO z0
 go_wp2_with fail
 refine (l20Next_c b (P + 2100) p a c n _ r2 (by omega) HN.out (by omega) A2.2.2.2.2.1 (fun y hy => by have := (A2.2.2.2.2.2 y hy).1; omega)).mono ?_
 rintro e w3 ⟨q, a2, c2, n2, rfl, hq, hq2, qw1, qw2, qh1, qh2, s3, ha3, r3, g3⟩
 have C3 : PicA (w.heap.size + 2) w3.heap.size w3 q a2 c2 n2 := (PicA.new hq hq2 qw1 qw2 qh1 qh2 s3 ha3).mono (by omega) (Nat.le_refl _)
 have A3 := A2.gr g3 (fun k hk => by cases hk; omega)
 have B3 := B2.gr g3 (by simp; omega)
 have G3 := grown_trans G2 g3
 have S3 := S2.gr g3 (by simp; omega)
 have T3 := T2.gr g3 (by simp; omega)
 have z3 := Nat.le_trans zz2 g3.size
 obtain ⟨Q, hQ⟩ : ∃ Q, Q = w3.heap.size := ⟨_, rfl⟩
 have e4 := Ext.alloc w3 (.cells #[.int .i64 q.w, .int .i64 q.h, .slice a2 n2 c2] 25)
 have hsz4 : Q + 1 ≤ (w3.alloc (.cells #[.int .i64 q.w, .int .i64 q.h, .slice a2 n2 c2] 25)).heap.size := by rw [hQ]; simp
 have C4 := C3.ext e4
 rw [← hQ] at z3 C4
 have D4 : PS w b (P + 4300) O p a n c Q q a2 n2 c2 Q (w3.alloc (.cells #[.int .i64 q.w, .int .i64 q.h, .slice a2 n2 c2] 25)) :=
  ⟨grown_ext G3 e4, (r3.ext e4).mono (by omega), e4.blk B3, by rw [hQ]; exact blk_new _ _, S3.ext e4, T3.ext e4, (A3.ext e4).mono (Nat.le_refl _) (by omega), C4, hbw, by omega, by omega, by omega⟩
 clear A2 B2 G2 S2 T2 r2 s3 ha3 g3 C3 A3 B3 G3 S3 T3 e4 C4 k0 k1 k2 hq
 go_upto_region 3 with fail
 rw [← hQ]
 generalize w3.alloc (.cells #[.int .i64 q.w, .int .i64 q.h, .slice a2 n2 c2] 25) = w4 at *
 clear hQ
 go_wp2_with fail
 refine (odd_any b _ m _ D4.rd (by omega) hm0 (by omega)).mono ?_
 rintro e w5 ⟨x5, rfl, r5, g5⟩
 have D : PS w b (P + 4301) O p a n c Q q a2 n2 c2 Q w5 := ⟨grown_trans D4.gr g5, r5, D4.bx1.gr g5 (by simp; omega), D4.bx2.gr g5 (by simp; omega), D4.r1.gr g5 (by simp; omega), D4.r2.gr g5 (by simp; omega), D4.A.gr g5 (fun k hk => by cases hk; omega), D4.B.gr g5 (fun k hk => by cases hk; omega), hbw, D4.hO, D4.hQ, Nat.le_trans D4.hU g5.size⟩
 have hsz5 := Nat.le_trans hsz4 g5.size
 clear D4 r5 g5 hsz4
 cases x5
 ·go_upto_region 5 with fail
  refine wp_region_inv2 (by kernel_rfl) [(26, 0), (27, 1)] [[], [], [0], [0, 1, 2]] (fun i own ys wx => match i with | 0 => own = .agg #[.int .i64 p.w, .int .i64 p.h, .slice a n c] | 1 => own = .agg #[.int .i64 q.w, .int .i64 q.h, .slice a2 n2 c2] | 2 => PBx wx w.heap.size p a n c | 3 => PBx wx (w.heap.size + 1) q a2 n2 c2 | _ => True) (fun kx wx => PS w b (P + 4301) O p a n c Q q a2 n2 c2 Q wx) (by kernel_rfl) (by kernel_rfl) (by kernel_rfl) ?g0_r1 ?gop_r1 ?gend_r1
  case g0_r1 => exact D.ext (Ext.drewN _ 1)
  case gop_r1 =>
   refine ⟨?o0, ?o1, ?o2, ?o3, trivial⟩ <;> (intro kx xs wx hk hG hD hI Qo Kx hK hQo; simp only [patchS, Nat.reduceAdd, Nat.reduceEqDiff, ↓reduceIte] at hQo ⊢)
   case o0 =>
    clear hD hI
    obtain ⟨k0, k1, k2⟩ := hG.bx1.cells
    go_wp2
    exact hK.out _ _ ⟨rfl, hG, fun _ _ _ _ _ _ h => h⟩
   case o1 =>
    clear hD hI
    obtain ⟨k0, k1, k2⟩ := hG.bx2.cells
    go_wp2
    exact hK.out _ _ ⟨rfl, hG, fun _ _ _ _ _ _ h => h⟩
   case o2 =>
    have d0 : _ = _ := hD 0 rfl
    clear hD hI
    generalize xs 0 = y0 at *
    subst d0
    obtain ⟨x, y, z, hr⟩ := hG.r1
    obtain ⟨-, k0, k1, k2, f0, f1, f2⟩ := bx3 hr
    go_wp2
    have hst : ∀ (wy : World), wx.grownBy wy (some w.heap.size) → ∀ (ii : Nat), ii < 4 → ii ≠ 2 → ([[], [], [0], [0, 1, 2]].getD ii []).contains 2 = false → ∀ (own : Value) (ys : Nat → Value), (match ii with | 0 => own = .agg #[.int .i64 p.w, .int .i64 p.h, .slice a n c] | 1 => own = .agg #[.int .i64 q.w, .int .i64 q.h, .slice a2 n2 c2] | 2 => PBx wx w.heap.size p a n c | 3 => PBx wx (w.heap.size + 1) q a2 n2 c2 | _ => True) → (match ii with | 0 => own = .agg #[.int .i64 p.w, .int .i64 p.h, .slice a n c] | 1 => own = .agg #[.int .i64 q.w, .int .i64 q.h, .slice a2 n2 c2] | 2 => PBx wy w.heap.size p a n c | 3 => PBx wy (w.heap.size + 1) q a2 n2 c2 | _ => True) := by
     intro wy hy ii hii hne hc own ys h
     match ii, h with
     | 0, h | 1, h => exact h
     | 2, h => exact absurd rfl hne
     | 3, h => exact absurd hc (by decide)
     | _ + 4, _ => trivial
    have gB := gr_set3 wx w.heap.size (.int .i64 p.w) (.int .i64 p.h) (.slice a n c)
    have hb := blk_set3 (x' := .int .i64 p.w) (y' := .int .i64 p.h) (z' := .slice a n c) hr
    exact hQo undef _ (hK.out _ _ ⟨hb, hG.put gB (by omega) (by omega) ⟨_, _, _, hb⟩ (PZ.gr hG.r2 gB (by simp)), hst _ gB⟩)
   case o3 =>
    have d1 : _ = _ := hD 1 rfl
    clear hD hI
    generalize xs 1 = y1 at *
    subst d1
    obtain ⟨x, y, z, hr⟩ := hG.r2
    obtain ⟨-, k0, k1, k2, f0, f1, f2⟩ := bx3 hr
    go_wp2
    have hst : ∀ (wy : World), wx.grownBy wy (some (w.heap.size + 1)) → ∀ (ii : Nat), ii < 4 → ii ≠ 3 → ([[], [], [0], [0, 1, 2]].getD ii []).contains 3 = false → ∀ (own : Value) (ys : Nat → Value), (match ii with | 0 => own = .agg #[.int .i64 p.w, .int .i64 p.h, .slice a n c] | 1 => own = .agg #[.int .i64 q.w, .int .i64 q.h, .slice a2 n2 c2] | 2 => PBx wx w.heap.size p a n c | 3 => PBx wx (w.heap.size + 1) q a2 n2 c2 | _ => True) → (match ii with | 0 => own = .agg #[.int .i64 p.w, .int .i64 p.h, .slice a n c] | 1 => own = .agg #[.int .i64 q.w, .int .i64 q.h, .slice a2 n2 c2] | 2 => PBx wy w.heap.size p a n c | 3 => PBx wy (w.heap.size + 1) q a2 n2 c2 | _ => True) := by
     intro wy hy ii hii hne hc own ys h
     match ii, h with
     | 0, h | 1, h => exact h
     | 2, h => exact blk_gr h hy (by simp)
     | 3, h => exact absurd rfl hne
     | _ + 4, _ => trivial
    have gB := gr_set3 wx (w.heap.size + 1) (.int .i64 q.w) (.int .i64 q.h) (.slice a2 n2 c2)
    have hb := blk_set3 (x' := .int .i64 q.w) (y' := .int .i64 q.h) (z' := .slice a2 n2 c2) hr
    exact hQo undef _ (hK.out _ _ ⟨hb, hG.put gB (by omega) (by omega) (PZ.gr hG.r1 gB (by simp)) ⟨_, _, _, hb⟩, hst _ gB⟩)
  intro xs wx hV hG
  have d2 : PBx wx w.heap.size p a n c := hV 2 (by decide)
  have d3 : PBx wx (w.heap.size + 1) q a2 n2 c2 := hV 3 (by decide)
  clear hV
  simp only [patchS, Nat.reduceAdd, Nat.reduceEqDiff, ↓reduceIte]
  generalize xs 0 = y0 at *
  generalize xs 1 = y1 at *
  generalize xs 2 = y2 at *
  generalize xs 3 = y3 at *
  replace hG : PS w b (P + 4301) O p a n c Q q a2 n2 c2 Q wx := hG
  go_wp2
  exact bodyPost_ret (results_pcc rfl _ _ (w.heap.size) #[.int .i64 p.w, .int .i64 p.h, .slice a n c] rfl (run_loadVar_row _ _ 25 _ _ _ _ d2 Tryz.underlying25 rfl size_Picture) (w.heap.size + 1) #[.int .i64 q.w, .int .i64 q.h, .slice a2 n2 c2] rfl (run_loadVar_row _ _ 25 _ _ _ _ d3 Tryz.underlying25 rfl size_Picture)) rfl (hG.res (by omega))
 ·go_wp2_with fail
  refine (l20Picture_c b _ 2 _ D.rd (by omega) (by omega) (by omega)).mono ?_
  rintro e w6 ⟨q', a3, c3, n3, rfl, hq', hq2', qw1', qw2', qh1', qh2', s6, ha6, r6, g6⟩
  have hQz := D.hQ
  have hOz := D.hO
  have C6 : PicA (Q + 1) w6.heap.size w6 q' a3 c3 n3 := (PicA.new hq' hq2' qw1' qw2' qh1' qh2' s6 ha6).mono hsz5 (Nat.le_refl _)
  have B6 := D.bx2.gr g6 (by simp; omega)
  have gB := gr_set3 w6 Q (.int .i64 q'.w) (.int .i64 q'.h) (.slice a3 n3 c3)
  have hb := blk_set3 (x' := .int .i64 q'.w) (y' := .int .i64 q'.h) (z' := .slice a3 n3 c3) B6
  have D7 : PS w b (P + 7000) O p a n c Q q' a3 n3 c3 w6.heap.size (((w6.setCell ⟨Q, 0, none⟩ (.int .i64 q'.w)).setCell ⟨Q, 1, none⟩ (.int .i64 q'.h)).setCell ⟨Q, 2, none⟩ (.slice a3 n3 c3)) := by
   refine ⟨grown_any (grown_trans D.gr g6) gB (fun k hk => by cases hk; omega), (r6.mono (by omega)).gr gB (fun k hk => by cases hk; omega), (D.bx1.gr g6 (by simp; omega)).gr gB ?_, hb, (D.r1.gr g6 (by simp; omega)).gr gB (by simp; omega), (D.r2.gr g6 (by simp; omega)).gr gB (by simp; omega), ?_, ?_, hbw, hOz, hQz, gB.size⟩
   ·simp; omega
   ·exact ((D.A.gr g6 (fun k hk => by cases hk; omega)).gr gB (fun k hk => by cases hk; omega)).mono (Nat.le_refl _) (by have := g6.size; omega)
   ·exact (C6.gr gB (fun k hk => by cases hk; omega)).mono (by omega) (Nat.le_refl _)
  obtain ⟨-, k0, k1, k2, f0, f1, f2⟩ := bx3 B6
  obtain ⟨U, hU⟩ : ∃ U, U = w6.heap.size := ⟨_, rfl⟩
  rw [← hU] at D7
  clear D gB hb C6 B6 s6 ha6 r6 g6 hq'
  go_upto_region 5 with fail
  generalize ((w6.setCell ⟨Q, 0, none⟩ (.int .i64 q'.w)).setCell ⟨Q, 1, none⟩ (.int .i64 q'.h)).setCell ⟨Q, 2, none⟩ (.slice a3 n3 c3) = w7 at *
  clear k0 k1 k2 f0 f1 f2
  refine wp_region_inv2 (by kernel_rfl) [(26, 0), (27, 1)] [[], [], [0], [0, 1, 2]] (fun i own ys wx => match i with | 0 => own = .agg #[.int .i64 p.w, .int .i64 p.h, .slice a n c] | 1 => own = .agg #[.int .i64 q'.w, .int .i64 q'.h, .slice a3 n3 c3] | 2 => PBx wx w.heap.size p a n c | 3 => PBx wx (w.heap.size + 1) q' a3 n3 c3 | _ => True) (fun kx wx => PS w b (P + 7000) O p a n c Q q' a3 n3 c3 U wx) (by kernel_rfl) (by kernel_rfl) (by kernel_rfl) ?g0_r2 ?gop_r2 ?gend_r2
  case g0_r2 => exact D7.ext (Ext.drewN _ 1)
  case gop_r2 =>
   refine ⟨?o0, ?o1, ?o2, ?o3, trivial⟩ <;> (intro kx xs wx hk hG hD hI Qo Kx hK hQo; simp only [patchS, Nat.reduceAdd, Nat.reduceEqDiff, ↓reduceIte] at hQo ⊢)
   case o0 =>
    clear hD hI
    obtain ⟨k0, k1, k2⟩ := hG.bx1.cells
    go_wp2
    exact hK.out _ _ ⟨rfl, hG, fun _ _ _ _ _ _ h => h⟩
   case o1 =>
    clear hD hI
    obtain ⟨k0, k1, k2⟩ := hG.bx2.cells
    go_wp2
    exact hK.out _ _ ⟨rfl, hG, fun _ _ _ _ _ _ h => h⟩
   case o2 =>
    have d0 : _ = _ := hD 0 rfl
    clear hD hI
    generalize xs 0 = y0 at *
    subst d0
    obtain ⟨x, y, z, hr⟩ := hG.r1
    obtain ⟨-, k0, k1, k2, f0, f1, f2⟩ := bx3 hr
    go_wp2
    have hst : ∀ (wy : World), wx.grownBy wy (some w.heap.size) → ∀ (ii : Nat), ii < 4 → ii ≠ 2 → ([[], [], [0], [0, 1, 2]].getD ii []).contains 2 = false → ∀ (own : Value) (ys : Nat → Value), (match ii with | 0 => own = .agg #[.int .i64 p.w, .int .i64 p.h, .slice a n c] | 1 => own = .agg #[.int .i64 q'.w, .int .i64 q'.h, .slice a3 n3 c3] | 2 => PBx wx w.heap.size p a n c | 3 => PBx wx (w.heap.size + 1) q' a3 n3 c3 | _ => True) → (match ii with | 0 => own = .agg #[.int .i64 p.w, .int .i64 p.h, .slice a n c] | 1 => own = .agg #[.int .i64 q'.w, .int .i64 q'.h, .slice a3 n3 c3] | 2 => PBx wy w.heap.size p a n c | 3 => PBx wy (w.heap.size + 1) q' a3 n3 c3 | _ => True) := by
     intro wy hy ii hii hne hc own ys h
     match ii, h with
     | 0, h | 1, h => exact h
     | 2, h => exact absurd rfl hne
     | 3, h => exact absurd hc (by decide)
     | _ + 4, _ => trivial
    have gB := gr_set3 wx w.heap.size (.int .i64 p.w) (.int .i64 p.h) (.slice a n c)
    have hb := blk_set3 (x' := .int .i64 p.w) (y' := .int .i64 p.h) (z' := .slice a n c) hr
    exact hQo undef _ (hK.out _ _ ⟨hb, hG.put gB (by omega) (by omega) ⟨_, _, _, hb⟩ (PZ.gr hG.r2 gB (by simp)), hst _ gB⟩)
   case o3 =>
    have d1 : _ = _ := hD 1 rfl
    clear hD hI
    generalize xs 1 = y1 at *
    subst d1
    obtain ⟨x, y, z, hr⟩ := hG.r2
    obtain ⟨-, k0, k1, k2, f0, f1, f2⟩ := bx3 hr
    go_wp2
    have hst : ∀ (wy : World), wx.grownBy wy (some (w.heap.size + 1)) → ∀ (ii : Nat), ii < 4 → ii ≠ 3 → ([[], [], [0], [0, 1, 2]].getD ii []).contains 3 = false → ∀ (own : Value) (ys : Nat → Value), (match ii with | 0 => own = .agg #[.int .i64 p.w, .int .i64 p.h, .slice a n c] | 1 => own = .agg #[.int .i64 q'.w, .int .i64 q'.h, .slice a3 n3 c3] | 2 => PBx wx w.heap.size p a n c | 3 => PBx wx (w.heap.size + 1) q' a3 n3 c3 | _ => True) → (match ii with | 0 => own = .agg #[.int .i64 p.w, .int .i64 p.h, .slice a n c] | 1 => own = .agg #[.int .i64 q'.w, .int .i64 q'.h, .slice a3 n3 c3] | 2 => PBx wy w.heap.size p a n c | 3 => PBx wy (w.heap.size + 1) q' a3 n3 c3 | _ => True) := by
     intro wy hy ii hii hne hc own ys h
     match ii, h with
     | 0, h | 1, h => exact h
     | 2, h => exact blk_gr h hy (by simp)
     | 3, h => exact absurd rfl hne
     | _ + 4, _ => trivial
    have gB := gr_set3 wx (w.heap.size + 1) (.int .i64 q'.w) (.int .i64 q'.h) (.slice a3 n3 c3)
    have hb := blk_set3 (x' := .int .i64 q'.w) (y' := .int .i64 q'.h) (z' := .slice a3 n3 c3) hr
    exact hQo undef _ (hK.out _ _ ⟨hb, hG.put gB (by omega) (by omega) (PZ.gr hG.r1 gB (by simp)) ⟨_, _, _, hb⟩, hst _ gB⟩)
  intro xs wx hV hG
  have d2 : PBx wx w.heap.size p a n c := hV 2 (by decide)
  have d3 : PBx wx (w.heap.size + 1) q' a3 n3 c3 := hV 3 (by decide)
  clear hV
  simp only [patchS, Nat.reduceAdd, Nat.reduceEqDiff, ↓reduceIte]
  generalize xs 0 = y0 at *
  generalize xs 1 = y1 at *
  generalize xs 2 = y2 at *
  generalize xs 3 = y3 at *
  replace hG : PS w b (P + 7000) O p a n c Q q' a3 n3 c3 U wx := hG
  go_wp2
  exact bodyPost_ret (results_pcc rfl _ _ (w.heap.size) #[.int .i64 p.w, .int .i64 p.h, .slice a n c] rfl (run_loadVar_row _ _ 25 _ _ _ _ d2 Tryz.underlying25 rfl size_Picture) (w.heap.size + 1) #[.int .i64 q'.w, .int .i64 q'.h, .slice a3 n3 c3] rfl (run_loadVar_row _ _ 25 _ _ _ _ d3 Tryz.underlying25 rfl size_Picture)) rfl (hG.res (by omega))
set_option maxRecDepth 100000 in
set_option maxHeartbeats 3000000 in
theorem DrawMacroCost_any (s : Option Addr) (cc m : Nat) (bs : List Int) (w : World) (hc : m ≤ cc) (hc2 : cc ≤ 9223372036854775807) (r : Sl w s m (bs.map (Value.int .u8))) (hz : ∀ z ∈ bs, 0 ≤ z ∧ z ≤ 255) :
 Calls Tryz.prog 7 #[.slice s m cc] w fun e w' => ∃ (p q t : Pic) (a a2 a3 : Option Addr) (c n c2 n2 c3 n3 : Nat) (x y : Int) (mm : Mac) (qq top : Int), e = .returned (.tuple #[.agg #[.int .i64 p.w, .int .i64 p.h, .slice a n c], .agg #[.int .i64 q.w, .int .i64 q.h, .slice a2 n2 c2], .agg #[.int .i64 t.w, .int .i64 t.h, .slice a3 n3 c3], .int .i64 x, .int .i64 y, .agg (ic mm.zs), .int .i64 qq, .int .i64 top]) ∧ mm.ok ∧ (-1 ≤ qq ∧ qq ≤ 16) ∧ (n = p.px.length ∧ n ≤ 1024 ∧ Sl w' a n (p.px.map (Value.int .i64))) ∧ (n2 = q.px.length ∧ n2 ≤ 1024 ∧ Sl w' a2 n2 (q.px.map (Value.int .i64))) ∧ (n3 = t.px.length ∧ n3 ≤ 1024 ∧ Sl w' a3 n3 (t.px.map (Value.int .i64))) ∧ Ext w w' := by
 have e0 : Ext w ((((w.alloc (.cells #[.int .i64 0, .int .i64 0, .slice none 0 0] 25)).alloc (.cells #[.int .i64 0, .int .i64 0, .slice none 0 0] 25)).alloc (.cells #[.int .i64 0, .int .i64 0, .slice none 0 0] 25)).alloc (.cells (ic (zl 71)) 32)) := (((Ext.alloc w _).trans (Ext.alloc _ _)).trans (Ext.alloc _ _)).trans (Ext.alloc _ _)
 have R0 : PB0 ((((w.alloc (.cells #[.int .i64 0, .int .i64 0, .slice none 0 0] 25)).alloc (.cells #[.int .i64 0, .int .i64 0, .slice none 0 0] 25)).alloc (.cells #[.int .i64 0, .int .i64 0, .slice none 0 0] 25)).alloc (.cells (ic (zl 71)) 32)) w.heap.size := ⟨0, 0, none, 0, 0, (Ext.alloc _ _).blk ((Ext.alloc _ _).blk ((Ext.alloc _ _).blk (blk_new w _)))⟩
 have R1 : PB0 ((((w.alloc (.cells #[.int .i64 0, .int .i64 0, .slice none 0 0] 25)).alloc (.cells #[.int .i64 0, .int .i64 0, .slice none 0 0] 25)).alloc (.cells #[.int .i64 0, .int .i64 0, .slice none 0 0] 25)).alloc (.cells (ic (zl 71)) 32)) (w.heap.size + 1) := ⟨0, 0, none, 0, 0, (Ext.alloc _ _).blk ((Ext.alloc _ _).blk (by have := blk_new (w.alloc (.cells #[.int .i64 0, .int .i64 0, .slice none 0 0] 25)) (.cells #[.int .i64 0, .int .i64 0, .slice none 0 0] 25); rwa [World.size_alloc] at this))⟩
 have R2 : PB0 ((((w.alloc (.cells #[.int .i64 0, .int .i64 0, .slice none 0 0] 25)).alloc (.cells #[.int .i64 0, .int .i64 0, .slice none 0 0] 25)).alloc (.cells #[.int .i64 0, .int .i64 0, .slice none 0 0] 25)).alloc (.cells (ic (zl 71)) 32)) (w.heap.size + 2) := ⟨0, 0, none, 0, 0, (Ext.alloc _ _).blk (by have := blk_new ((w.alloc (.cells #[.int .i64 0, .int .i64 0, .slice none 0 0] 25)).alloc (.cells #[.int .i64 0, .int .i64 0, .slice none 0 0] 25)) (.cells #[.int .i64 0, .int .i64 0, .slice none 0 0] 25); rwa [World.size_alloc, World.size_alloc] at this)⟩
 have V0 : MB ((((w.alloc (.cells #[.int .i64 0, .int .i64 0, .slice none 0 0] 25)).alloc (.cells #[.int .i64 0, .int .i64 0, .slice none 0 0] 25)).alloc (.cells #[.int .i64 0, .int .i64 0, .slice none 0 0] 25)).alloc (.cells (ic (zl 71)) 32)) (w.heap.size + 3) := ⟨zl 71, by have := IB.new (((w.alloc (.cells #[.int .i64 0, .int .i64 0, .slice none 0 0] 25)).alloc (.cells #[.int .i64 0, .int .i64 0, .slice none 0 0] 25)).alloc (.cells #[.int .i64 0, .int .i64 0, .slice none 0 0] 25)) 32 (zl 71); simpa using this, zl_len 71⟩
 have z0 : w.heap.size + 4 ≤ ((((w.alloc (.cells #[.int .i64 0, .int .i64 0, .slice none 0 0] 25)).alloc (.cells #[.int .i64 0, .int .i64 0, .slice none 0 0] 25)).alloc (.cells #[.int .i64 0, .int .i64 0, .slice none 0 0] 25)).alloc (.cells (ic (zl 71)) 32)).heap.size := by simp
 go_enter Tryz.func7, Tryz.ntmps7
 go_wp2_with (first | (refine wpList_iallocz 32 rfl rfl 71 zero_Macz ?_; (try simp only [World.size_alloc])) | fail)
 try simp only [World.size_alloc]
 generalize ((((w.alloc (.cells #[.int .i64 0, .int .i64 0, .slice none 0 0] 25)).alloc (.cells #[.int .i64 0, .int .i64 0, .slice none 0 0] 25)).alloc (.cells #[.int .i64 0, .int .i64 0, .slice none 0 0] 25)).alloc (.cells (ic (zl 71)) 32)) = w0 at *
 refine (open_any s cc m bs _ hc hc2 (r.ext e0) hz).mono ?_
 rintro e w1 ⟨b, rfl, rd, e1, hb⟩
 have hRb : w.heap.size + 4 ≤ b := by omega
 have E1 := e0.trans e1
 have r1 : RdP w1 b 0 := ⟨0, by omega, rd⟩
 have S0 := R0.ext e1
 have S1 := R1.ext e1
 have U1 := R2.ext e1
 have V1 := V0.ext e1
 clear e0 e1 R0 R1 R2 z0 rd hb hz V0
 go_wp2_with fail
 refine (l20Tiny_c b 0 14 _ r1 (by omega) (by omega) (by omega)).mono ?_
 rintro e w2 ⟨p, q, a, a2, c, n, c2, n2, rfl, A2, B2, r2, g2⟩
 have hb1 := r1.lt
 have G2 := grown_trans (ext_gr E1 : w.grownBy _ (some b)) g2
 have S2 := S0.gr g2 (by simp; omega)
 have T2 := S1.gr g2 (by simp; omega)
 have U2 := U1.gr g2 (by simp; omega)
 have V2 := V1.gr g2 (by simp; omega)
 obtain ⟨O, hO⟩ : ∃ O, O = w2.heap.size := ⟨_, rfl⟩
 have D3 : DS w b 8000 2200 0 O p a n c (O + 1) q a2 n2 c2 ((w2.alloc (.cells #[.int .i64 p.w, .int .i64 p.h, .slice a n c] 25)).alloc (.cells #[.int .i64 q.w, .int .i64 q.h, .slice a2 n2 c2] 25)) := by
  have e3 : Ext w2 ((w2.alloc (.cells #[.int .i64 p.w, .int .i64 p.h, .slice a n c] 25)).alloc (.cells #[.int .i64 q.w, .int .i64 q.h, .slice a2 n2 c2] 25)) := (Ext.alloc w2 _).trans (Ext.alloc _ _)
  refine ⟨⟨grown_ext G2 e3, (r2.ext e3).mono (by omega)⟩, by rw [hO]; exact (Ext.alloc _ _).blk (blk_new _ _), ?_, S2.ext e3, T2.ext e3, A2.2.2.2.2.1.ext e3, B2.2.2.2.2.1.ext e3, by omega, by rw [hO]; exact Nat.lt_of_lt_of_le hb1 g2.size, by omega, fun y hy => by have := (A2.2.2.2.2.2 y hy).1; omega, fun y hy => by have := (B2.2.2.2.2.2 y hy).1; omega⟩
  have := blk_new (w2.alloc (.cells #[.int .i64 p.w, .int .i64 p.h, .slice a n c] 25)) (.cells #[.int .i64 q.w, .int .i64 q.h, .slice a2 n2 c2] 25)
  rwa [World.size_alloc, ← hO] at this
 have U3 : PB0 ((w2.alloc (.cells #[.int .i64 p.w, .int .i64 p.h, .slice a n c] 25)).alloc (.cells #[.int .i64 q.w, .int .i64 q.h, .slice a2 n2 c2] 25)) (w.heap.size + 2) := (U2.ext (Ext.alloc w2 _)).ext (Ext.alloc _ _)
 have V3 : MB ((w2.alloc (.cells #[.int .i64 p.w, .int .i64 p.h, .slice a n c] 25)).alloc (.cells #[.int .i64 q.w, .int .i64 q.h, .slice a2 n2 c2] 25)) (w.heap.size + 3) := (V2.ext (Ext.alloc w2 _)).ext (Ext.alloc _ _)
 have HA := Lib.hid (show n = p.px.length ∧ n ≤ 1024 from ⟨A2.1, A2.2.1⟩)
 have HB := Lib.hid (show n2 = q.px.length ∧ n2 ≤ 1024 from ⟨B2.1, B2.2.1⟩)
 have hAt : (-8 ≤ p.w ∧ p.w ≤ 40) ∧ 0 ≤ p.h ∧ p.h ≤ 40 := ⟨A2.2.2.1, A2.2.2.2.1⟩
 clear A2 B2 r2 g2 G2 S2 T2 S0 S1 E1 r1 r V1 V2 U1 U2
 go_upto_region 3 with fail
 try simp only [World.size_alloc]
 rw [← hO]
 generalize (w2.alloc (.cells #[.int .i64 p.w, .int .i64 p.h, .slice a n c] 25)).alloc (.cells #[.int .i64 q.w, .int .i64 q.h, .slice a2 n2 c2] 25) = w3 at *
 clear hO
 obtain ⟨k0, k1, k2⟩ := D3.bx1.cells
 go_wp2_with fail
 refine (l20At_c b _ p.w p.h a c n 14 _ D3.dg.2 (by omega) (by omega) (by omega) hAt.1 hAt.2).mono ?_
 rintro e w4 ⟨x, y, rfl, hy0, hy1, r4, g4⟩
 have D4 : DS w b 8100 2200 0 O p a n c (O + 1) q a2 n2 c2 w4 := D3.grb g4 ⟨grown_trans D3.dg.1 g4, r4.mono (by omega)⟩
 have U4 := U3.gr g4 (by simp; omega)
 have V4 := V3.gr g4 (by simp; omega)
 clear D3 r4 g4 k0 k1 k2 V3 U3
 go_upto_region 4 with fail
 obtain ⟨Q, hQ⟩ : ∃ Q, Q = O + 1 := ⟨_, rfl⟩
 rw [← hQ] at D4
 rw [← hQ]
 have hQO := D4.hQ
 have hbO := D4.hO
 have hRb2 := D4.hb
 clear hQ
 have hext : ∀ (i : Nat) (own : Value) (ys : Nat → Value) (wa wb : World), wa.grownBy wb (some b) → (match i with | 0 => own = .agg #[.int .i64 p.w, .int .i64 p.h, .slice a n c] | 1 => own = .agg #[.int .i64 q.w, .int .i64 q.h, .slice a2 n2 c2] | 2 => own = .pointer (some ⟨b, 0, none⟩) | 3 => own = .agg #[.int .i64 p.w, .int .i64 p.h, .slice a n c] | 4 => P3 b wa own | 5 => own = .int .i64 x | 6 => own = .int .i64 (y) | 7 => own = .pointer (some ⟨b, 0, none⟩) | 8 => ∃ zs : List Int, own = .agg (ic zs) ∧ zs.length = 71 ∧ bdI 10000 zs | 9 => own = .pointer (some ⟨b, 0, none⟩) | 10 => ∃ x : Int, own = .int .i64 x ∧ -1 ≤ x ∧ x ≤ 16 | 11 => own = .int .i64 (y) | 12 => own = .pointer (some ⟨b, 0, none⟩) | 13 => ∃ x : Int, own = .int .i64 x ∧ 0 ≤ x ∧ x < 9 | 14 => ∃ x : Int, own = .int .i64 x ∧ -1 ≤ x ∧ x ≤ 7 | 15 => SlR wa (b + 1) own 3 (-1) (32) | 16 => own = .pointer (some ⟨b, 0, none⟩) | 17 => ∃ x : Int, own = .int .i64 x ∧ 0 ≤ x ∧ x < 3 | 18 => PtR wa (b + 1) own (-1) (32) | 19 => ∃ x : Int, own = .int .i64 x ∧ -1 ≤ x ∧ x ≤ 32 | 20 => PBx wa w.heap.size p a n c | 21 => PBx wa (w.heap.size + 1) q a2 n2 c2 | 22 => P3x b (w.heap.size + 2) wa | 23 => own = .int .i64 x | 24 => own = .int .i64 (y) | 25 => ∃ zs : List Int, IB wa (w.heap.size + 3) 32 zs ∧ zs.length = 71 ∧ bdI 10000 zs | 26 => ∃ x : Int, own = .int .i64 x ∧ -1 ≤ x ∧ x ≤ 16 | 27 => ∃ x : Int, own = .int .i64 x ∧ -1 ≤ x ∧ x ≤ 32 | _ => True) → (match i with | 0 => own = .agg #[.int .i64 p.w, .int .i64 p.h, .slice a n c] | 1 => own = .agg #[.int .i64 q.w, .int .i64 q.h, .slice a2 n2 c2] | 2 => own = .pointer (some ⟨b, 0, none⟩) | 3 => own = .agg #[.int .i64 p.w, .int .i64 p.h, .slice a n c] | 4 => P3 b wb own | 5 => own = .int .i64 x | 6 => own = .int .i64 (y) | 7 => own = .pointer (some ⟨b, 0, none⟩) | 8 => ∃ zs : List Int, own = .agg (ic zs) ∧ zs.length = 71 ∧ bdI 10000 zs | 9 => own = .pointer (some ⟨b, 0, none⟩) | 10 => ∃ x : Int, own = .int .i64 x ∧ -1 ≤ x ∧ x ≤ 16 | 11 => own = .int .i64 (y) | 12 => own = .pointer (some ⟨b, 0, none⟩) | 13 => ∃ x : Int, own = .int .i64 x ∧ 0 ≤ x ∧ x < 9 | 14 => ∃ x : Int, own = .int .i64 x ∧ -1 ≤ x ∧ x ≤ 7 | 15 => SlR wb (b + 1) own 3 (-1) (32) | 16 => own = .pointer (some ⟨b, 0, none⟩) | 17 => ∃ x : Int, own = .int .i64 x ∧ 0 ≤ x ∧ x < 3 | 18 => PtR wb (b + 1) own (-1) (32) | 19 => ∃ x : Int, own = .int .i64 x ∧ -1 ≤ x ∧ x ≤ 32 | 20 => PBx wb w.heap.size p a n c | 21 => PBx wb (w.heap.size + 1) q a2 n2 c2 | 22 => P3x b (w.heap.size + 2) wb | 23 => own = .int .i64 x | 24 => own = .int .i64 (y) | 25 => ∃ zs : List Int, IB wb (w.heap.size + 3) 32 zs ∧ zs.length = 71 ∧ bdI 10000 zs | 26 => ∃ x : Int, own = .int .i64 x ∧ -1 ≤ x ∧ x ≤ 16 | 27 => ∃ x : Int, own = .int .i64 x ∧ -1 ≤ x ∧ x ≤ 32 | _ => True) := by
  intro i own ys wa wb e h
  match i, h with
  | 0, h | 1, h | 2, h | 3, h | 5, h | 6, h | 7, h | 8, h | 9, h | 10, h | 11, h | 12, h | 13, h | 14, h | 16, h | 17, h | 19, h | 23, h | 24, h | 26, h | 27, h => exact h
  | 4, h => exact h.gr e (by omega)
  | 15, h | 18, h => exact h.grown e (by omega)
  | 20, h | 21, h => exact PBx.gr h e (by simp; omega)
  | 22, h => exact h.gr e (by omega) (by omega)
  | 25, h => obtain ⟨zs, h1, h2⟩ := h; exact ⟨zs, IB.gr h1 e (by simp; omega), h2⟩
  | _ + 28, _ => trivial
 have Hext := Lib.hid hext
 clear hext
 refine wp_region_inv2 (by kernel_rfl) [(5, 23), (6, 24), (8, 26), (9, 27), (28, 0), (29, 1), (30, 2), (31, 3), (32, 4), (33, 5), (34, 6), (35, 7), (36, 8), (37, 9), (38, 10), (39, 11), (40, 12), (41, 13), (42, 14), (43, 15), (44, 16), (45, 17), (46, 18), (47, 19)] [[], [], [], [], [2, 3], [], [], [], [2, 3, 4, 7], [], [2, 3, 4, 7, 8, 9], [], [], [2, 3, 4, 7, 8, 9, 10, 12], [2, 3, 4, 7, 8, 9, 10, 12, 13], [2, 3, 4, 7, 8, 9, 10, 11, 12, 13, 14], [], [2, 3, 4, 7, 8, 9, 10, 12, 13, 16], [2, 3, 4, 7, 8, 9, 10, 11, 12, 13, 14, 15, 16, 17], [2, 3, 4, 7, 8, 9, 10, 11, 12, 13, 14, 15, 16, 17, 18], [0, 2, 3, 4, 7, 8, 9, 10, 12, 13, 16, 17], [0, 1, 2, 3, 4, 7, 8, 9, 10, 12, 13, 16, 17, 20], [0, 1, 2, 3, 4, 7, 8, 9, 10, 12, 13, 16, 17, 20, 21], [0, 1, 2, 3, 4, 5, 7, 8, 9, 10, 12, 13, 16, 17, 20, 21, 22], [0, 1, 2, 3, 4, 5, 6, 7, 8, 9, 10, 12, 13, 16, 17, 20, 21, 22, 23], [0, 1, 2, 3, 4, 5, 6, 7, 8, 9, 10, 12, 13, 16, 17, 20, 21, 22, 23, 24], [0, 1, 2, 3, 4, 5, 6, 7, 8, 9, 10, 12, 13, 16, 17, 20, 21, 22, 23, 24, 25], [0, 1, 2, 3, 4, 5, 6, 7, 8, 9, 10, 11, 12, 13, 14, 15, 16, 17, 18, 19, 20, 21, 22, 23, 24, 25, 26]] (fun i own ys wx => match i with | 0 => own = .agg #[.int .i64 p.w, .int .i64 p.h, .slice a n c] | 1 => own = .agg #[.int .i64 q.w, .int .i64 q.h, .slice a2 n2 c2] | 2 => own = .pointer (some ⟨b, 0, none⟩) | 3 => own = .agg #[.int .i64 p.w, .int .i64 p.h, .slice a n c] | 4 => P3 b wx own | 5 => own = .int .i64 x | 6 => own = .int .i64 (y) | 7 => own = .pointer (some ⟨b, 0, none⟩) | 8 => ∃ zs : List Int, own = .agg (ic zs) ∧ zs.length = 71 ∧ bdI 10000 zs | 9 => own = .pointer (some ⟨b, 0, none⟩) | 10 => ∃ x : Int, own = .int .i64 x ∧ -1 ≤ x ∧ x ≤ 16 | 11 => own = .int .i64 (y) | 12 => own = .pointer (some ⟨b, 0, none⟩) | 13 => ∃ x : Int, own = .int .i64 x ∧ 0 ≤ x ∧ x < 9 | 14 => ∃ x : Int, own = .int .i64 x ∧ -1 ≤ x ∧ x ≤ 7 | 15 => SlR wx (b + 1) own 3 (-1) (32) | 16 => own = .pointer (some ⟨b, 0, none⟩) | 17 => ∃ x : Int, own = .int .i64 x ∧ 0 ≤ x ∧ x < 3 | 18 => PtR wx (b + 1) own (-1) (32) | 19 => ∃ x : Int, own = .int .i64 x ∧ -1 ≤ x ∧ x ≤ 32 | 20 => PBx wx w.heap.size p a n c | 21 => PBx wx (w.heap.size + 1) q a2 n2 c2 | 22 => P3x b (w.heap.size + 2) wx | 23 => own = .int .i64 x | 24 => own = .int .i64 (y) | 25 => ∃ zs : List Int, IB wx (w.heap.size + 3) 32 zs ∧ zs.length = 71 ∧ bdI 10000 zs | 26 => ∃ x : Int, own = .int .i64 x ∧ -1 ≤ x ∧ x ≤ 16 | 27 => ∃ x : Int, own = .int .i64 x ∧ -1 ≤ x ∧ x ≤ 32 | _ => True) (fun kx wx => DS4 w b 8100 2200 kx O p a n c Q q a2 n2 c2 wx) (by kernel_rfl) (by kernel_rfl) (by kernel_rfl) ?g0_r3 ?gop_r3 ?gend_r3
 case g0_r3 => exact ⟨D4.grb (ext_gr (Ext.drewN _ 1)) D4.dg.drew, U4.ext (Ext.drewN _ 1), V4.ext (Ext.drewN _ 1), hRb⟩
 case gop_r3 =>
  refine ⟨?o0, ?o1, ?_, ?o3, ?o4, ?_, ?_, ?_, ?o8, ?_, ?o10, ?_, ?_, ?o13, ?o14, ?o15, ?_, ?o17, ?o18, ?o19, ?o20, ?o21, ?o22, ?o23, ?o24, ?o25, ?o26, ?o27, trivial⟩ <;> (intro kx xs wx hk hG hD hI Qo Kx hK hQo; simp only [patchS, Nat.reduceAdd, Nat.reduceEqDiff, ↓reduceIte] at hQo ⊢)
  case o0 =>
   clear hD hI
   obtain ⟨k0, k1, k2⟩ := hG.1.bx1.cells
   go_wp2
   exact hK.out _ _ ⟨rfl, hG.step, fun _ _ _ _ _ _ h => h⟩
  case o1 =>
   clear hD hI
   obtain ⟨k0, k1, k2⟩ := hG.1.bx2.cells
   go_wp2
   exact hK.out _ _ ⟨rfl, hG.step, fun _ _ _ _ _ _ h => h⟩
  case o3 =>
   clear hD hI
   obtain ⟨k0, k1, k2⟩ := hG.1.bx1.cells
   go_wp2
   exact hK.out _ _ ⟨rfl, hG.step, fun _ _ _ _ _ _ h => h⟩
  case o4 =>
   have d2 : _ = _ := hD 2 rfl
   have d3 : _ = _ := hD 3 rfl
   clear hD hI
   generalize xs 2 = y2 at *
   generalize xs 3 = y3 at *
   subst d2 d3
   go_wp2_with fail
   refine (l20Next_c b _ p a c n _ hG.1.dg.2 (by have hk2 : kx < 28 := hk; omega) HA.out.1 HA.out.2 hG.1.sl1 (fun u hu => by have := hG.1.ha u hu; omega)).mono ?_
   rintro e w4 ⟨r, ar, cr, nr, rfl, xa, xb, -, -, -, -, xs1, xy, rd, gr⟩
   have Xa := Lib.hid xa
   clear xa
   go_wp2
   exact hK.out _ _ ⟨⟨r, ar, nr, cr, rfl, Xa, xb, xs1, fun u hu => by have := xy u hu; have := hG.1.dg.2.lt; omega⟩, hG.more gr rd (by decide), fun i _ _ _ own ys h => Hext.out i own ys _ _ gr h⟩
  case o8 =>
   have d7 : _ = _ := hD 7 rfl
   clear hD hI
   generalize xs 7 = y7 at *
   subst d7
   go_wp2_with fail
   refine (l20Macro_c b _ false 14 _ hG.1.dg.2 (by have hk2 : kx < 28 := hk; omega) (by omega) (by omega)).mono ?_
   rintro e w4 ⟨zs, rfl, za, zb, rd, gr⟩
   go_wp2
   exact hK.out _ _ ⟨⟨zs, rfl, za, zb⟩, hG.more gr rd (by decide), fun i _ _ _ own ys h => Hext.out i own ys _ _ gr h⟩
  case o10 =>
   have d9 : _ = _ := hD 9 rfl
   clear hD hI
   generalize xs 9 = y9 at *
   subst d9
   go_wp2_with fail
   refine (l20Q_c b _ 14 _ hG.1.dg.2 (DG.bd hk (by decide) (by decide) (by decide)) (by omega) (by omega)).mono ?_
   rintro e w4 ⟨xx, rfl, xa, xb, rd, gr⟩
   go_wp2
   exact hK.out _ _ ⟨⟨xx, rfl, xa, xb⟩, hG.more gr rd (by decide), fun i _ _ _ own ys h => Hext.out i own ys _ _ gr h⟩
  case o13 =>
   have d12 : _ = _ := hD 12 rfl
   clear hD hI
   generalize xs 12 = y12 at *
   subst d12
   go_wp2_with fail
   refine (pick_c _ _ _ _ hG.1.dg.2 (DG.small hk (by decide) (by decide) (by omega)) (by omega) (by omega)).mono ?_
   rintro e w4 ⟨xx, rfl, xa, xb, rd, gr⟩
   go_wp2
   exact hK.out _ _ ⟨⟨xx, rfl, xa, by omega⟩, hG.more gr rd (by decide), fun i _ _ _ own ys h => Hext.out i own ys _ _ gr h⟩
  case o14 =>
   have d13 : ∃ x : Int, (xs 13) = .int .i64 x ∧ 0 ≤ x ∧ x < 9 := hD 13 rfl
   clear hD hI
   generalize xs 13 = y13 at *
   obtain ⟨x13, rfl, x13a, x13b⟩ := d13
   go_wp2
   exact hK.out _ _ ⟨⟨_, rfl, by omega, by omega⟩, hG.step, fun _ _ _ _ _ _ h => h⟩
  case o15 =>
   have d11 : _ = _ := hD 11 rfl
   have d14 : ∃ x : Int, (xs 14) = .int .i64 x ∧ -1 ≤ x ∧ x ≤ 7 := hD 14 rfl
   clear hD hI
   generalize xs 11 = y11 at *
   generalize xs 14 = y14 at *
   subst d11
   obtain ⟨x14, rfl, x14a, x14b⟩ := d14
   have e5 := Ext.alloc wx (.cells #[.int .i64 0, .int .i64 y, .int .i64 x14] 3)
   go_wp2
   exact hK.out _ _ ⟨⟨_, [0, y, x14], rfl, by have := hG.1.dg.2.lt; omega, Sl_new _ _ _, by simp <;> omega⟩, hG.ext e5, fun i _ _ _ own ys h => Hext.out i own ys _ _ (ext_gr e5) h⟩
  case o17 =>
   have d16 : _ = _ := hD 16 rfl
   clear hD hI
   generalize xs 16 = y16 at *
   subst d16
   go_wp2_with fail
   refine (pick_c _ _ _ _ hG.1.dg.2 (DG.small hk (by decide) (by decide) (by omega)) (by omega) (by omega)).mono ?_
   rintro e w4 ⟨xx, rfl, xa, xb, rd, gr⟩
   go_wp2
   exact hK.out _ _ ⟨⟨xx, rfl, xa, by omega⟩, hG.more gr rd (by decide), fun i _ _ _ own ys h => Hext.out i own ys _ _ gr h⟩
  case o18 =>
   have d15 : SlR wx (b + 1) (xs 15) 3 (-1) (32) := hD 15 rfl
   have d17 : ∃ x : Int, (xs 17) = .int .i64 x ∧ 0 ≤ x ∧ x < 3 := hD 17 rfl
   clear hD hI
   generalize xs 15 = y15 at *
   generalize xs 17 = y17 at *
   obtain ⟨g15, l15, rfl, n15, s15, r15⟩ := d15
   obtain ⟨x17, rfl, x17a, x17b⟩ := d17
   go_wp2
   exact hK.out _ _ ⟨SlR.at n15 s15 r15 (by omega), hG.step, fun _ _ _ _ _ _ h => h⟩
  case o19 =>
   have d18 : PtR wx (b + 1) (xs 18) (-1) (32) := hD 18 rfl
   clear hD hI
   generalize xs 18 = y18 at *
   obtain ⟨g18, j18, y18, rfl, n18, c18, y18a, y18b⟩ := d18
   go_wp2
   exact hK.out _ _ ⟨⟨_, rfl, by omega, by omega⟩, hG.step, fun _ _ _ _ _ _ h => h⟩
  case o20 =>
   have d0 : _ = _ := hD 0 rfl
   clear hD hI
   generalize xs 0 = y0 at *
   subst d0
   obtain ⟨x0, y0, a0, n0, c0, hr⟩ := hG.1.res1
   obtain ⟨-, k0, k1, k2, f0, f1, f2⟩ := bx3 hr
   go_wp2
   have hst : ∀ (wy : World), wx.grownBy wy (some w.heap.size) → ∀ (ii : Nat), ii < 28 → ii ≠ 20 → ([[], [], [], [], [2, 3], [], [], [], [2, 3, 4, 7], [], [2, 3, 4, 7, 8, 9], [], [], [2, 3, 4, 7, 8, 9, 10, 12], [2, 3, 4, 7, 8, 9, 10, 12, 13], [2, 3, 4, 7, 8, 9, 10, 11, 12, 13, 14], [], [2, 3, 4, 7, 8, 9, 10, 12, 13, 16], [2, 3, 4, 7, 8, 9, 10, 11, 12, 13, 14, 15, 16, 17], [2, 3, 4, 7, 8, 9, 10, 11, 12, 13, 14, 15, 16, 17, 18], [0, 2, 3, 4, 7, 8, 9, 10, 12, 13, 16, 17], [0, 1, 2, 3, 4, 7, 8, 9, 10, 12, 13, 16, 17, 20], [0, 1, 2, 3, 4, 7, 8, 9, 10, 12, 13, 16, 17, 20, 21], [0, 1, 2, 3, 4, 5, 7, 8, 9, 10, 12, 13, 16, 17, 20, 21, 22], [0, 1, 2, 3, 4, 5, 6, 7, 8, 9, 10, 12, 13, 16, 17, 20, 21, 22, 23], [0, 1, 2, 3, 4, 5, 6, 7, 8, 9, 10, 12, 13, 16, 17, 20, 21, 22, 23, 24], [0, 1, 2, 3, 4, 5, 6, 7, 8, 9, 10, 12, 13, 16, 17, 20, 21, 22, 23, 24, 25], [0, 1, 2, 3, 4, 5, 6, 7, 8, 9, 10, 11, 12, 13, 14, 15, 16, 17, 18, 19, 20, 21, 22, 23, 24, 25, 26]].getD ii []).contains 20 = false → ∀ (own : Value) (ys : Nat → Value), (match ii with | 0 => own = .agg #[.int .i64 p.w, .int .i64 p.h, .slice a n c] | 1 => own = .agg #[.int .i64 q.w, .int .i64 q.h, .slice a2 n2 c2] | 2 => own = .pointer (some ⟨b, 0, none⟩) | 3 => own = .agg #[.int .i64 p.w, .int .i64 p.h, .slice a n c] | 4 => P3 b wx own | 5 => own = .int .i64 x | 6 => own = .int .i64 (y) | 7 => own = .pointer (some ⟨b, 0, none⟩) | 8 => ∃ zs : List Int, own = .agg (ic zs) ∧ zs.length = 71 ∧ bdI 10000 zs | 9 => own = .pointer (some ⟨b, 0, none⟩) | 10 => ∃ x : Int, own = .int .i64 x ∧ -1 ≤ x ∧ x ≤ 16 | 11 => own = .int .i64 (y) | 12 => own = .pointer (some ⟨b, 0, none⟩) | 13 => ∃ x : Int, own = .int .i64 x ∧ 0 ≤ x ∧ x < 9 | 14 => ∃ x : Int, own = .int .i64 x ∧ -1 ≤ x ∧ x ≤ 7 | 15 => SlR wx (b + 1) own 3 (-1) (32) | 16 => own = .pointer (some ⟨b, 0, none⟩) | 17 => ∃ x : Int, own = .int .i64 x ∧ 0 ≤ x ∧ x < 3 | 18 => PtR wx (b + 1) own (-1) (32) | 19 => ∃ x : Int, own = .int .i64 x ∧ -1 ≤ x ∧ x ≤ 32 | 20 => PBx wx w.heap.size p a n c | 21 => PBx wx (w.heap.size + 1) q a2 n2 c2 | 22 => P3x b (w.heap.size + 2) wx | 23 => own = .int .i64 x | 24 => own = .int .i64 (y) | 25 => ∃ zs : List Int, IB wx (w.heap.size + 3) 32 zs ∧ zs.length = 71 ∧ bdI 10000 zs | 26 => ∃ x : Int, own = .int .i64 x ∧ -1 ≤ x ∧ x ≤ 16 | 27 => ∃ x : Int, own = .int .i64 x ∧ -1 ≤ x ∧ x ≤ 32 | _ => True) → (match ii with | 0 => own = .agg #[.int .i64 p.w, .int .i64 p.h, .slice a n c] | 1 => own = .agg #[.int .i64 q.w, .int .i64 q.h, .slice a2 n2 c2] | 2 => own = .pointer (some ⟨b, 0, none⟩) | 3 => own = .agg #[.int .i64 p.w, .int .i64 p.h, .slice a n c] | 4 => P3 b wy own | 5 => own = .int .i64 x | 6 => own = .int .i64 (y) | 7 => own = .pointer (some ⟨b, 0, none⟩) | 8 => ∃ zs : List Int, own = .agg (ic zs) ∧ zs.length = 71 ∧ bdI 10000 zs | 9 => own = .pointer (some ⟨b, 0, none⟩) | 10 => ∃ x : Int, own = .int .i64 x ∧ -1 ≤ x ∧ x ≤ 16 | 11 => own = .int .i64 (y) | 12 => own = .pointer (some ⟨b, 0, none⟩) | 13 => ∃ x : Int, own = .int .i64 x ∧ 0 ≤ x ∧ x < 9 | 14 => ∃ x : Int, own = .int .i64 x ∧ -1 ≤ x ∧ x ≤ 7 | 15 => SlR wy (b + 1) own 3 (-1) (32) | 16 => own = .pointer (some ⟨b, 0, none⟩) | 17 => ∃ x : Int, own = .int .i64 x ∧ 0 ≤ x ∧ x < 3 | 18 => PtR wy (b + 1) own (-1) (32) | 19 => ∃ x : Int, own = .int .i64 x ∧ -1 ≤ x ∧ x ≤ 32 | 20 => PBx wy w.heap.size p a n c | 21 => PBx wy (w.heap.size + 1) q a2 n2 c2 | 22 => P3x b (w.heap.size + 2) wy | 23 => own = .int .i64 x | 24 => own = .int .i64 (y) | 25 => ∃ zs : List Int, IB wy (w.heap.size + 3) 32 zs ∧ zs.length = 71 ∧ bdI 10000 zs | 26 => ∃ x : Int, own = .int .i64 x ∧ -1 ≤ x ∧ x ≤ 16 | 27 => ∃ x : Int, own = .int .i64 x ∧ -1 ≤ x ∧ x ≤ 32 | _ => True) := by
    intro wy hy ii hii hne hc own ys h
    match ii, h with
    | 0, h | 1, h | 2, h | 3, h | 5, h | 6, h | 7, h | 8, h | 9, h | 10, h | 11, h | 12, h | 13, h | 14, h | 16, h | 17, h | 19, h => exact h
    | 4, h => exact h.gr hy (by omega)
    | 15, h | 18, h => exact h.grown hy (by omega)
    | 20, h => exact absurd rfl hne
    | 21, h | 22, h | 23, h | 24, h | 25, h | 26, h | 27, h => exact absurd hc (by decide)
    | _ + 28, _ => trivial
   have gB := gr_set3 wx w.heap.size (.int .i64 p.w) (.int .i64 p.h) (.slice a n c)
   exact hQo undef _ (hK.out _ _ ⟨blk_set3 hr, ⟨hG.1.put1 gB hr, hG.2.1.gr gB (by simp), hG.2.2.1.gr gB (by simp), hG.2.2.2⟩, hst _ gB⟩)
  case o21 =>
   have d1 : _ = _ := hD 1 rfl
   clear hD hI
   generalize xs 1 = y1 at *
   subst d1
   obtain ⟨x0, y0, a0, n0, c0, hr⟩ := hG.1.res2
   obtain ⟨-, k0, k1, k2, f0, f1, f2⟩ := bx3 hr
   go_wp2
   have hst : ∀ (wy : World), wx.grownBy wy (some (w.heap.size + 1)) → ∀ (ii : Nat), ii < 28 → ii ≠ 21 → ([[], [], [], [], [2, 3], [], [], [], [2, 3, 4, 7], [], [2, 3, 4, 7, 8, 9], [], [], [2, 3, 4, 7, 8, 9, 10, 12], [2, 3, 4, 7, 8, 9, 10, 12, 13], [2, 3, 4, 7, 8, 9, 10, 11, 12, 13, 14], [], [2, 3, 4, 7, 8, 9, 10, 12, 13, 16], [2, 3, 4, 7, 8, 9, 10, 11, 12, 13, 14, 15, 16, 17], [2, 3, 4, 7, 8, 9, 10, 11, 12, 13, 14, 15, 16, 17, 18], [0, 2, 3, 4, 7, 8, 9, 10, 12, 13, 16, 17], [0, 1, 2, 3, 4, 7, 8, 9, 10, 12, 13, 16, 17, 20], [0, 1, 2, 3, 4, 7, 8, 9, 10, 12, 13, 16, 17, 20, 21], [0, 1, 2, 3, 4, 5, 7, 8, 9, 10, 12, 13, 16, 17, 20, 21, 22], [0, 1, 2, 3, 4, 5, 6, 7, 8, 9, 10, 12, 13, 16, 17, 20, 21, 22, 23], [0, 1, 2, 3, 4, 5, 6, 7, 8, 9, 10, 12, 13, 16, 17, 20, 21, 22, 23, 24], [0, 1, 2, 3, 4, 5, 6, 7, 8, 9, 10, 12, 13, 16, 17, 20, 21, 22, 23, 24, 25], [0, 1, 2, 3, 4, 5, 6, 7, 8, 9, 10, 11, 12, 13, 14, 15, 16, 17, 18, 19, 20, 21, 22, 23, 24, 25, 26]].getD ii []).contains 21 = false → ∀ (own : Value) (ys : Nat → Value), (match ii with | 0 => own = .agg #[.int .i64 p.w, .int .i64 p.h, .slice a n c] | 1 => own = .agg #[.int .i64 q.w, .int .i64 q.h, .slice a2 n2 c2] | 2 => own = .pointer (some ⟨b, 0, none⟩) | 3 => own = .agg #[.int .i64 p.w, .int .i64 p.h, .slice a n c] | 4 => P3 b wx own | 5 => own = .int .i64 x | 6 => own = .int .i64 (y) | 7 => own = .pointer (some ⟨b, 0, none⟩) | 8 => ∃ zs : List Int, own = .agg (ic zs) ∧ zs.length = 71 ∧ bdI 10000 zs | 9 => own = .pointer (some ⟨b, 0, none⟩) | 10 => ∃ x : Int, own = .int .i64 x ∧ -1 ≤ x ∧ x ≤ 16 | 11 => own = .int .i64 (y) | 12 => own = .pointer (some ⟨b, 0, none⟩) | 13 => ∃ x : Int, own = .int .i64 x ∧ 0 ≤ x ∧ x < 9 | 14 => ∃ x : Int, own = .int .i64 x ∧ -1 ≤ x ∧ x ≤ 7 | 15 => SlR wx (b + 1) own 3 (-1) (32) | 16 => own = .pointer (some ⟨b, 0, none⟩) | 17 => ∃ x : Int, own = .int .i64 x ∧ 0 ≤ x ∧ x < 3 | 18 => PtR wx (b + 1) own (-1) (32) | 19 => ∃ x : Int, own = .int .i64 x ∧ -1 ≤ x ∧ x ≤ 32 | 20 => PBx wx w.heap.size p a n c | 21 => PBx wx (w.heap.size + 1) q a2 n2 c2 | 22 => P3x b (w.heap.size + 2) wx | 23 => own = .int .i64 x | 24 => own = .int .i64 (y) | 25 => ∃ zs : List Int, IB wx (w.heap.size + 3) 32 zs ∧ zs.length = 71 ∧ bdI 10000 zs | 26 => ∃ x : Int, own = .int .i64 x ∧ -1 ≤ x ∧ x ≤ 16 | 27 => ∃ x : Int, own = .int .i64 x ∧ -1 ≤ x ∧ x ≤ 32 | _ => True) → (match ii with | 0 => own = .agg #[.int .i64 p.w, .int .i64 p.h, .slice a n c] | 1 => own = .agg #[.int .i64 q.w, .int .i64 q.h, .slice a2 n2 c2] | 2 => own = .pointer (some ⟨b, 0, none⟩) | 3 => own = .agg #[.int .i64 p.w, .int .i64 p.h, .slice a n c] | 4 => P3 b wy own | 5 => own = .int .i64 x | 6 => own = .int .i64 (y) | 7 => own = .pointer (some ⟨b, 0, none⟩) | 8 => ∃ zs : List Int, own = .agg (ic zs) ∧ zs.length = 71 ∧ bdI 10000 zs | 9 => own = .pointer (some ⟨b, 0, none⟩) | 10 => ∃ x : Int, own = .int .i64 x ∧ -1 ≤ x ∧ x ≤ 16 | 11 => own = .int .i64 (y) | 12 => own = .pointer (some ⟨b, 0, none⟩) | 13 => ∃ x : Int, own = .int .i64 x ∧ 0 ≤ x ∧ x < 9 | 14 => ∃ x : Int, own = .int .i64 x ∧ -1 ≤ x ∧ x ≤ 7 | 15 => SlR wy (b + 1) own 3 (-1) (32) | 16 => own = .pointer (some ⟨b, 0, none⟩) | 17 => ∃ x : Int, own = .int .i64 x ∧ 0 ≤ x ∧ x < 3 | 18 => PtR wy (b + 1) own (-1) (32) | 19 => ∃ x : Int, own = .int .i64 x ∧ -1 ≤ x ∧ x ≤ 32 | 20 => PBx wy w.heap.size p a n c | 21 => PBx wy (w.heap.size + 1) q a2 n2 c2 | 22 => P3x b (w.heap.size + 2) wy | 23 => own = .int .i64 x | 24 => own = .int .i64 (y) | 25 => ∃ zs : List Int, IB wy (w.heap.size + 3) 32 zs ∧ zs.length = 71 ∧ bdI 10000 zs | 26 => ∃ x : Int, own = .int .i64 x ∧ -1 ≤ x ∧ x ≤ 16 | 27 => ∃ x : Int, own = .int .i64 x ∧ -1 ≤ x ∧ x ≤ 32 | _ => True) := by
    intro wy hy ii hii hne hc own ys h
    match ii, h with
    | 0, h | 1, h | 2, h | 3, h | 5, h | 6, h | 7, h | 8, h | 9, h | 10, h | 11, h | 12, h | 13, h | 14, h | 16, h | 17, h | 19, h => exact h
    | 4, h => exact h.gr hy (by omega)
    | 15, h | 18, h => exact h.grown hy (by omega)
    | 20, h => exact PBx.gr h hy (by simp)
    | 21, h => exact absurd rfl hne
    | 22, h | 23, h | 24, h | 25, h | 26, h | 27, h => exact absurd hc (by decide)
    | _ + 28, _ => trivial
   have gB := gr_set3 wx (w.heap.size + 1) (.int .i64 q.w) (.int .i64 q.h) (.slice a2 n2 c2)
   exact hQo undef _ (hK.out _ _ ⟨blk_set3 hr, ⟨hG.1.put2 gB hr, hG.2.1.gr gB (by simp), hG.2.2.1.gr gB (by simp), hG.2.2.2⟩, hst _ gB⟩)
  case o22 =>
   have d4 : P3 b wx (xs 4) := hD 4 rfl
   clear hD hI
   generalize xs 4 = y4 at *
   obtain ⟨r4, a4, n4, c4, rfl, h4a, h4b, h4s, h4y⟩ := d4
   obtain ⟨x0, y0, a0, n0, c0, hr⟩ := hG.2.1
   obtain ⟨-, k0, k1, k2, f0, f1, f2⟩ := bx3 hr
   go_wp2
   have hst : ∀ (wy : World), wx.grownBy wy (some (w.heap.size + 2)) → ∀ (ii : Nat), ii < 28 → ii ≠ 22 → ([[], [], [], [], [2, 3], [], [], [], [2, 3, 4, 7], [], [2, 3, 4, 7, 8, 9], [], [], [2, 3, 4, 7, 8, 9, 10, 12], [2, 3, 4, 7, 8, 9, 10, 12, 13], [2, 3, 4, 7, 8, 9, 10, 11, 12, 13, 14], [], [2, 3, 4, 7, 8, 9, 10, 12, 13, 16], [2, 3, 4, 7, 8, 9, 10, 11, 12, 13, 14, 15, 16, 17], [2, 3, 4, 7, 8, 9, 10, 11, 12, 13, 14, 15, 16, 17, 18], [0, 2, 3, 4, 7, 8, 9, 10, 12, 13, 16, 17], [0, 1, 2, 3, 4, 7, 8, 9, 10, 12, 13, 16, 17, 20], [0, 1, 2, 3, 4, 7, 8, 9, 10, 12, 13, 16, 17, 20, 21], [0, 1, 2, 3, 4, 5, 7, 8, 9, 10, 12, 13, 16, 17, 20, 21, 22], [0, 1, 2, 3, 4, 5, 6, 7, 8, 9, 10, 12, 13, 16, 17, 20, 21, 22, 23], [0, 1, 2, 3, 4, 5, 6, 7, 8, 9, 10, 12, 13, 16, 17, 20, 21, 22, 23, 24], [0, 1, 2, 3, 4, 5, 6, 7, 8, 9, 10, 12, 13, 16, 17, 20, 21, 22, 23, 24, 25], [0, 1, 2, 3, 4, 5, 6, 7, 8, 9, 10, 11, 12, 13, 14, 15, 16, 17, 18, 19, 20, 21, 22, 23, 24, 25, 26]].getD ii []).contains 22 = false → ∀ (own : Value) (ys : Nat → Value), (match ii with | 0 => own = .agg #[.int .i64 p.w, .int .i64 p.h, .slice a n c] | 1 => own = .agg #[.int .i64 q.w, .int .i64 q.h, .slice a2 n2 c2] | 2 => own = .pointer (some ⟨b, 0, none⟩) | 3 => own = .agg #[.int .i64 p.w, .int .i64 p.h, .slice a n c] | 4 => P3 b wx own | 5 => own = .int .i64 x | 6 => own = .int .i64 (y) | 7 => own = .pointer (some ⟨b, 0, none⟩) | 8 => ∃ zs : List Int, own = .agg (ic zs) ∧ zs.length = 71 ∧ bdI 10000 zs | 9 => own = .pointer (some ⟨b, 0, none⟩) | 10 => ∃ x : Int, own = .int .i64 x ∧ -1 ≤ x ∧ x ≤ 16 | 11 => own = .int .i64 (y) | 12 => own = .pointer (some ⟨b, 0, none⟩) | 13 => ∃ x : Int, own = .int .i64 x ∧ 0 ≤ x ∧ x < 9 | 14 => ∃ x : Int, own = .int .i64 x ∧ -1 ≤ x ∧ x ≤ 7 | 15 => SlR wx (b + 1) own 3 (-1) (32) | 16 => own = .pointer (some ⟨b, 0, none⟩) | 17 => ∃ x : Int, own = .int .i64 x ∧ 0 ≤ x ∧ x < 3 | 18 => PtR wx (b + 1) own (-1) (32) | 19 => ∃ x : Int, own = .int .i64 x ∧ -1 ≤ x ∧ x ≤ 32 | 20 => PBx wx w.heap.size p a n c | 21 => PBx wx (w.heap.size + 1) q a2 n2 c2 | 22 => P3x b (w.heap.size + 2) wx | 23 => own = .int .i64 x | 24 => own = .int .i64 (y) | 25 => ∃ zs : List Int, IB wx (w.heap.size + 3) 32 zs ∧ zs.length = 71 ∧ bdI 10000 zs | 26 => ∃ x : Int, own = .int .i64 x ∧ -1 ≤ x ∧ x ≤ 16 | 27 => ∃ x : Int, own = .int .i64 x ∧ -1 ≤ x ∧ x ≤ 32 | _ => True) → (match ii with | 0 => own = .agg #[.int .i64 p.w, .int .i64 p.h, .slice a n c] | 1 => own = .agg #[.int .i64 q.w, .int .i64 q.h, .slice a2 n2 c2] | 2 => own = .pointer (some ⟨b, 0, none⟩) | 3 => own = .agg #[.int .i64 p.w, .int .i64 p.h, .slice a n c] | 4 => P3 b wy own | 5 => own = .int .i64 x | 6 => own = .int .i64 (y) | 7 => own = .pointer (some ⟨b, 0, none⟩) | 8 => ∃ zs : List Int, own = .agg (ic zs) ∧ zs.length = 71 ∧ bdI 10000 zs | 9 => own = .pointer (some ⟨b, 0, none⟩) | 10 => ∃ x : Int, own = .int .i64 x ∧ -1 ≤ x ∧ x ≤ 16 | 11 => own = .int .i64 (y) | 12 => own = .pointer (some ⟨b, 0, none⟩) | 13 => ∃ x : Int, own = .int .i64 x ∧ 0 ≤ x ∧ x < 9 | 14 => ∃ x : Int, own = .int .i64 x ∧ -1 ≤ x ∧ x ≤ 7 | 15 => SlR wy (b + 1) own 3 (-1) (32) | 16 => own = .pointer (some ⟨b, 0, none⟩) | 17 => ∃ x : Int, own = .int .i64 x ∧ 0 ≤ x ∧ x < 3 | 18 => PtR wy (b + 1) own (-1) (32) | 19 => ∃ x : Int, own = .int .i64 x ∧ -1 ≤ x ∧ x ≤ 32 | 20 => PBx wy w.heap.size p a n c | 21 => PBx wy (w.heap.size + 1) q a2 n2 c2 | 22 => P3x b (w.heap.size + 2) wy | 23 => own = .int .i64 x | 24 => own = .int .i64 (y) | 25 => ∃ zs : List Int, IB wy (w.heap.size + 3) 32 zs ∧ zs.length = 71 ∧ bdI 10000 zs | 26 => ∃ x : Int, own = .int .i64 x ∧ -1 ≤ x ∧ x ≤ 16 | 27 => ∃ x : Int, own = .int .i64 x ∧ -1 ≤ x ∧ x ≤ 32 | _ => True) := by
    intro wy hy ii hii hne hc own ys h
    match ii, h with
    | 0, h | 1, h | 2, h | 3, h | 5, h | 6, h | 7, h | 8, h | 9, h | 10, h | 11, h | 12, h | 13, h | 14, h | 16, h | 17, h | 19, h => exact h
    | 4, h => exact h.gr hy (by omega)
    | 15, h | 18, h => exact h.grown hy (by omega)
    | 20, h | 21, h => exact PBx.gr h hy (by simp)
    | 22, h => exact absurd rfl hne
    | 23, h | 24, h | 25, h | 26, h | 27, h => exact absurd hc (by decide)
    | _ + 28, _ => trivial
   have gB := gr_set3 wx (w.heap.size + 2) (.int .i64 r4.w) (.int .i64 r4.h) (.slice a4 n4 c4)
   exact hQo undef _ (hK.out _ _ ⟨⟨r4, a4, n4, c4, blk_set3 hr, h4a, h4b, h4s.grown gB (fun u hu => by have := h4y u hu; simp; omega), h4y⟩, ⟨hG.1.low gB (by omega) (by omega) (hG.1.dg.2.setP3 hr (by omega)) (hG.1.res1.gr gB (by simp)) (hG.1.res2.gr gB (by simp)), ⟨_, _, _, _, _, blk_set3 hr⟩, hG.2.2.1.gr gB (by simp), hG.2.2.2⟩, hst _ gB⟩)
  case o23 =>
   have d5 : _ = _ := hD 5 rfl
   clear hD hI
   generalize xs 5 = y5 at *
   subst d5
   go_wp2
   exact hK.out _ _ ⟨rfl, hG.step, fun _ _ _ _ _ _ h => h⟩
  case o24 =>
   have d6 : _ = _ := hD 6 rfl
   clear hD hI
   generalize xs 6 = y6 at *
   subst d6
   go_wp2
   exact hK.out _ _ ⟨rfl, hG.step, fun _ _ _ _ _ _ h => h⟩
  case o25 =>
   have d8 : ∃ zs : List Int, (xs 8) = .agg (ic zs) ∧ zs.length = 71 ∧ bdI 10000 zs := hD 8 rfl
   clear hD hI
   generalize xs 8 = y8 at *
   obtain ⟨zs8, rfl, z8a, z8b⟩ := d8
   obtain ⟨zr, hr, hrl⟩ := hG.2.2.1
   go_wp2_with (refine wpList_istore 32 _ _ rfl rfl hr 0 71 rfl _ rfl zs8 rfl size_Macro z8a (by omega) ?_; intro wf pf gf; refine Hid.out ?_)
   have hst : ∀ (wy : World), wx.grownBy wy (some (w.heap.size + 3)) → ∀ (ii : Nat), ii < 28 → ii ≠ 25 → ([[], [], [], [], [2, 3], [], [], [], [2, 3, 4, 7], [], [2, 3, 4, 7, 8, 9], [], [], [2, 3, 4, 7, 8, 9, 10, 12], [2, 3, 4, 7, 8, 9, 10, 12, 13], [2, 3, 4, 7, 8, 9, 10, 11, 12, 13, 14], [], [2, 3, 4, 7, 8, 9, 10, 12, 13, 16], [2, 3, 4, 7, 8, 9, 10, 11, 12, 13, 14, 15, 16, 17], [2, 3, 4, 7, 8, 9, 10, 11, 12, 13, 14, 15, 16, 17, 18], [0, 2, 3, 4, 7, 8, 9, 10, 12, 13, 16, 17], [0, 1, 2, 3, 4, 7, 8, 9, 10, 12, 13, 16, 17, 20], [0, 1, 2, 3, 4, 7, 8, 9, 10, 12, 13, 16, 17, 20, 21], [0, 1, 2, 3, 4, 5, 7, 8, 9, 10, 12, 13, 16, 17, 20, 21, 22], [0, 1, 2, 3, 4, 5, 6, 7, 8, 9, 10, 12, 13, 16, 17, 20, 21, 22, 23], [0, 1, 2, 3, 4, 5, 6, 7, 8, 9, 10, 12, 13, 16, 17, 20, 21, 22, 23, 24], [0, 1, 2, 3, 4, 5, 6, 7, 8, 9, 10, 12, 13, 16, 17, 20, 21, 22, 23, 24, 25], [0, 1, 2, 3, 4, 5, 6, 7, 8, 9, 10, 11, 12, 13, 14, 15, 16, 17, 18, 19, 20, 21, 22, 23, 24, 25, 26]].getD ii []).contains 25 = false → ∀ (own : Value) (ys : Nat → Value), (match ii with | 0 => own = .agg #[.int .i64 p.w, .int .i64 p.h, .slice a n c] | 1 => own = .agg #[.int .i64 q.w, .int .i64 q.h, .slice a2 n2 c2] | 2 => own = .pointer (some ⟨b, 0, none⟩) | 3 => own = .agg #[.int .i64 p.w, .int .i64 p.h, .slice a n c] | 4 => P3 b wx own | 5 => own = .int .i64 x | 6 => own = .int .i64 (y) | 7 => own = .pointer (some ⟨b, 0, none⟩) | 8 => ∃ zs : List Int, own = .agg (ic zs) ∧ zs.length = 71 ∧ bdI 10000 zs | 9 => own = .pointer (some ⟨b, 0, none⟩) | 10 => ∃ x : Int, own = .int .i64 x ∧ -1 ≤ x ∧ x ≤ 16 | 11 => own = .int .i64 (y) | 12 => own = .pointer (some ⟨b, 0, none⟩) | 13 => ∃ x : Int, own = .int .i64 x ∧ 0 ≤ x ∧ x < 9 | 14 => ∃ x : Int, own = .int .i64 x ∧ -1 ≤ x ∧ x ≤ 7 | 15 => SlR wx (b + 1) own 3 (-1) (32) | 16 => own = .pointer (some ⟨b, 0, none⟩) | 17 => ∃ x : Int, own = .int .i64 x ∧ 0 ≤ x ∧ x < 3 | 18 => PtR wx (b + 1) own (-1) (32) | 19 => ∃ x : Int, own = .int .i64 x ∧ -1 ≤ x ∧ x ≤ 32 | 20 => PBx wx w.heap.size p a n c | 21 => PBx wx (w.heap.size + 1) q a2 n2 c2 | 22 => P3x b (w.heap.size + 2) wx | 23 => own = .int .i64 x | 24 => own = .int .i64 (y) | 25 => ∃ zs : List Int, IB wx (w.heap.size + 3) 32 zs ∧ zs.length = 71 ∧ bdI 10000 zs | 26 => ∃ x : Int, own = .int .i64 x ∧ -1 ≤ x ∧ x ≤ 16 | 27 => ∃ x : Int, own = .int .i64 x ∧ -1 ≤ x ∧ x ≤ 32 | _ => True) → (match ii with | 0 => own = .agg #[.int .i64 p.w, .int .i64 p.h, .slice a n c] | 1 => own = .agg #[.int .i64 q.w, .int .i64 q.h, .slice a2 n2 c2] | 2 => own = .pointer (some ⟨b, 0, none⟩) | 3 => own = .agg #[.int .i64 p.w, .int .i64 p.h, .slice a n c] | 4 => P3 b wy own | 5 => own = .int .i64 x | 6 => own = .int .i64 (y) | 7 => own = .pointer (some ⟨b, 0, none⟩) | 8 => ∃ zs : List Int, own = .agg (ic zs) ∧ zs.length = 71 ∧ bdI 10000 zs | 9 => own = .pointer (some ⟨b, 0, none⟩) | 10 => ∃ x : Int, own = .int .i64 x ∧ -1 ≤ x ∧ x ≤ 16 | 11 => own = .int .i64 (y) | 12 => own = .pointer (some ⟨b, 0, none⟩) | 13 => ∃ x : Int, own = .int .i64 x ∧ 0 ≤ x ∧ x < 9 | 14 => ∃ x : Int, own = .int .i64 x ∧ -1 ≤ x ∧ x ≤ 7 | 15 => SlR wy (b + 1) own 3 (-1) (32) | 16 => own = .pointer (some ⟨b, 0, none⟩) | 17 => ∃ x : Int, own = .int .i64 x ∧ 0 ≤ x ∧ x < 3 | 18 => PtR wy (b + 1) own (-1) (32) | 19 => ∃ x : Int, own = .int .i64 x ∧ -1 ≤ x ∧ x ≤ 32 | 20 => PBx wy w.heap.size p a n c | 21 => PBx wy (w.heap.size + 1) q a2 n2 c2 | 22 => P3x b (w.heap.size + 2) wy | 23 => own = .int .i64 x | 24 => own = .int .i64 (y) | 25 => ∃ zs : List Int, IB wy (w.heap.size + 3) 32 zs ∧ zs.length = 71 ∧ bdI 10000 zs | 26 => ∃ x : Int, own = .int .i64 x ∧ -1 ≤ x ∧ x ≤ 16 | 27 => ∃ x : Int, own = .int .i64 x ∧ -1 ≤ x ∧ x ≤ 32 | _ => True) := by
    intro wy hy ii hii hne hc own ys h
    match ii, h with
    | 0, h | 1, h | 2, h | 3, h | 5, h | 6, h | 7, h | 8, h | 9, h | 10, h | 11, h | 12, h | 13, h | 14, h | 16, h | 17, h | 19, h | 23, h | 24, h => exact h
    | 4, h => exact h.gr hy (by omega)
    | 15, h | 18, h => exact h.grown hy (by omega)
    | 20, h | 21, h => exact PBx.gr h hy (by simp)
    | 22, h => exact h.gr hy (by omega) (by omega)
    | 25, h => exact absurd rfl hne
    | 26, h | 27, h => exact absurd hc (by decide)
    | _ + 28, _ => trivial
   rw [spl_all (by rw [z8a, hrl])] at pf
   refine Lib.hid ?_
   go_wp2
   exact hQo undef _ (hK.out _ _ ⟨⟨zs8, pf, z8a, z8b⟩, ⟨hG.1.low gf (by omega) (by omega) (hG.1.dg.2.grI hr gf (by omega)) (hG.1.res1.gr gf (by simp)) (hG.1.res2.gr gf (by simp)), hG.2.1.gr gf (by simp), ⟨_, pf, z8a⟩, hG.2.2.2⟩, hst _ gf⟩)
  case o26 =>
   have d10 : ∃ x : Int, (xs 10) = .int .i64 x ∧ -1 ≤ x ∧ x ≤ 16 := hD 10 rfl
   clear hD hI
   generalize xs 10 = y10 at *
   obtain ⟨x10, rfl, x10a, x10b⟩ := d10
   go_wp2
   exact hK.out _ _ ⟨⟨_, rfl, by omega, by omega⟩, hG.step, fun _ _ _ _ _ _ h => h⟩
  case o27 =>
   have d19 : ∃ x : Int, (xs 19) = .int .i64 x ∧ -1 ≤ x ∧ x ≤ 32 := hD 19 rfl
   clear hD hI
   generalize xs 19 = y19 at *
   obtain ⟨x19, rfl, x19a, x19b⟩ := d19
   go_wp2
   exact hK.out _ _ ⟨⟨_, rfl, by omega, by omega⟩, hG.step, fun _ _ _ _ _ _ h => h⟩
  all_goals
   clear hD hI
   go_wp2
   exact hK.out _ _ ⟨rfl, hG.step, fun _ _ _ _ _ _ h => h⟩
 clear Hext
 intro xs wx hV hG
 have d20 : PBx wx w.heap.size p a n c := hV 20 (by decide)
 have d21 : PBx wx (w.heap.size + 1) q a2 n2 c2 := hV 21 (by decide)
 have d22 : P3x b (w.heap.size + 2) wx := hV 22 (by decide)
 have d23 : _ = _ := hV 23 (by decide)
 have d24 : _ = _ := hV 24 (by decide)
 have d25 : ∃ zs : List Int, IB wx (w.heap.size + 3) 32 zs ∧ zs.length = 71 ∧ bdI 10000 zs := hV 25 (by decide)
 have d26 : ∃ x : Int, (xs 26) = .int .i64 x ∧ -1 ≤ x ∧ x ≤ 16 := hV 26 (by decide)
 have d27 : ∃ x : Int, (xs 27) = .int .i64 x ∧ -1 ≤ x ∧ x ≤ 32 := hV 27 (by decide)
 clear hV
 simp only [patchS, Nat.reduceAdd, Nat.reduceEqDiff, ↓reduceIte]
 generalize xs 0 = y0 at *
 generalize xs 1 = y1 at *
 generalize xs 2 = y2 at *
 generalize xs 3 = y3 at *
 generalize xs 4 = y4 at *
 generalize xs 5 = y5 at *
 generalize xs 6 = y6 at *
 generalize xs 7 = y7 at *
 generalize xs 8 = y8 at *
 generalize xs 9 = y9 at *
 generalize xs 10 = y10 at *
 generalize xs 11 = y11 at *
 generalize xs 12 = y12 at *
 generalize xs 13 = y13 at *
 generalize xs 14 = y14 at *
 generalize xs 15 = y15 at *
 generalize xs 16 = y16 at *
 generalize xs 17 = y17 at *
 generalize xs 18 = y18 at *
 generalize xs 19 = y19 at *
 generalize xs 20 = y20 at *
 generalize xs 21 = y21 at *
 generalize xs 22 = y22 at *
 generalize xs 23 = y23 at *
 generalize xs 24 = y24 at *
 generalize xs 25 = y25 at *
 generalize xs 26 = y26 at *
 generalize xs 27 = y27 at *
 replace hG : DS4 w b 8100 2200 28 O p a n c Q q a2 n2 c2 wx := hG
 obtain ⟨r22, a22, n22, c22, d22, h22a, h22b, h22s, h22y⟩ := d22
 subst d23 d24
 obtain ⟨zs25, d25, z25a, z25b⟩ := d25
 obtain ⟨x26, rfl, x26a, x26b⟩ := d26
 obtain ⟨x27, rfl, x27a, x27b⟩ := d27
 obtain ⟨mm, hm1, hm2⟩ := Mac.of z25a
 go_wp2
 refine bodyPost_ret (results_cccttctt rfl _ _ (w.heap.size) #[.int .i64 p.w, .int .i64 p.h, .slice a n c] rfl (run_loadVar_row _ _ 25 _ _ _ _ d20 Tryz.underlying25 rfl size_Picture) (w.heap.size + 1) #[.int .i64 q.w, .int .i64 q.h, .slice a2 n2 c2] rfl (run_loadVar_row _ _ 25 _ _ _ _ d21 Tryz.underlying25 rfl size_Picture) (w.heap.size + 2) #[.int .i64 r22.w, .int .i64 r22.h, .slice a22 n22 c22] rfl (run_loadVar_row _ _ 25 _ _ _ _ d22 Tryz.underlying25 rfl size_Picture) (w.heap.size + 3) (ic zs25) rfl (run_loadVar_row _ _ 32 _ _ _ _ d25 Tryz.underlying32 rfl (by rw [ic_size, z25a]; exact size_Macro))) rfl ?_
 exact ⟨p, q, r22, a, a2, a22, c, n, c2, n2, c22, n22, x, _, mm, _, _, by rw [hm2]; rfl, hm1, ⟨x26a, x26b⟩, ⟨HA.out.1, HA.out.2, hG.1.sl1⟩, ⟨HB.out.1, HB.out.2, hG.1.sl2⟩, ⟨h22a.out, h22b, h22s⟩, hG.1.lift⟩
end Go.Proofs.YtbnhaegidfbgbaaGreatDoor
namespace Go.Proofs.YtbnhaegidfbgbaaGreatDoor
open Go.RowKit
set_option maxHeartbeats 1000000
theorem nth_blk0 (p : Pic) (x y : Int) {k : Nat} (h : k < 64) : nth (blkL p x y 0 0) k = pat p (x + (k % 8 : Nat)) (y + (k / 8 : Nat)) := by
 rw [nth_blkL p x y 0 0 h, Int.add_zero, Int.add_zero, hlf_two]
set_option maxRecDepth 100000 in
set_option maxHeartbeats 2000000 in
theorem l13Error_in (t D : Pic) (x y : Nat) (a b : Option Addr) (c d n l : Nat) (w : World) (htv : t.valid) (hDv : D.valid) (hn : n = t.px.length) (hl : l = D.px.length) (s : Sl w a n (t.px.map (Value.int .i64))) (u : Sl w b l (D.px.map (Value.int .i64))) (hx : x ≤ 100) (hy : y ≤ 100) :
 Calls Tryz.prog 97 #[.agg #[.int .i64 t.w, .int .i64 t.h, .slice a n c], .agg #[.int .i64 D.w, .int .i64 D.h, .slice b l d], .int .i64 (x : Nat), .int .i64 (y : Nat)] w fun e w' => e = .returned (.int .i64 (sqS t D x y 64)) ∧ Ext w w' := by
 have HN := Lib.hid hn
 have HL := Lib.hid hl
 clear hn hl
 have Y0 := (Ext.alloc (w.alloc (.cells #[.int .i64 t.w, .int .i64 t.h, .slice a n c] 25)) (.cells #[.int .i64 D.w, .int .i64 D.h, .slice b l d] 25)).blk (blk_new w (.cells #[.int .i64 t.w, .int .i64 t.h, .slice a n c] 25))
 have Y1 := blk_new (w.alloc (.cells #[.int .i64 t.w, .int .i64 t.h, .slice a n c] 25)) (.cells #[.int .i64 D.w, .int .i64 D.h, .slice b l d] 25)
 have F1 := (Ext.alloc w (.cells #[.int .i64 t.w, .int .i64 t.h, .slice a n c] 25)).trans (Ext.alloc _ (.cells #[.int .i64 D.w, .int .i64 D.h, .slice b l d] 25))
 simp only [World.size_alloc] at Y1
 obtain ⟨B, hB⟩ : ∃ B, B = w.heap.size := ⟨_, rfl⟩
 rw [← hB] at Y0 Y1
 have HB := Lib.hid hB
 go_enter Tryz.func97, Tryz.ntmps97
 go_upto_region 1 with fail
 try simp only [World.size_alloc]
 rw [← hB]
 clear hB
 generalize (w.alloc (.cells #[.int .i64 t.w, .int .i64 t.h, .slice a n c] 25)).alloc (.cells #[.int .i64 D.w, .int .i64 D.h, .slice b l d] 25) = w1 at *
 obtain ⟨-, k1, k2, k3, -⟩ := bx3 Y0
 go_wp2_with fail
 refine (l7Block_any t x y 0 0 a c n _ htv HN.out (s.ext F1) (by omega) (by omega) (by omega) (by omega) (by omega) (by omega) (by omega) (by omega)).mono ?_
 rintro e w4 ⟨a4, c4, rfl, o4, e4⟩
 obtain ⟨g4, rfl⟩ := own_ptr o4 (by omega)
 have S4 := Sl.of_owns o4
 have G1 := e4.blk Y1
 have F2 := F1.trans e4
 clear Y0 Y1 F1 e4 o4 k1 k2 k3
 obtain ⟨-, k1, k2, k3, -⟩ := bx3 G1
 go_wp2_with fail
 refine (l7Block_any D x y 0 0 b d l _ hDv HL.out (u.ext F2) (by omega) (by omega) (by omega) (by omega) (by omega) (by omega) (by omega) (by omega)).mono ?_
 rintro e w6 ⟨a6, c6, rfl, o6, e6⟩
 obtain ⟨g6, rfl⟩ := own_ptr o6 (by omega)
 have S6 := Sl.of_owns o6
 have S5 := S4.ext e6
 have F3 := F2.trans e6
 clear G1 F2 e6 o6 S4 k1 k2 k3
 go_wp2_with fail
 go_loopw [11, 12] (fun v i wr => ∃ k : Nat, k ≤ 64 ∧ i = .int .i64 k ∧ v = .int .i64 (sqS t D x y k) ∧ Ext w6 wr) (fun _ i _ => 64 - (intOf i).toNat)
 case atStart => exact ⟨0, by omega, rfl, by simp [sqS], Below.refl _ _⟩
 case round =>
  obtain ⟨k, hk, rfl, rfl, Ek⟩ := hrel
  have hsr := sqS_rng htv hDv x y k
  by_cases hlt : k < 64
  ·have hd : decide ((k : Int) < 64) = true := by simp; omega
   have hpd := pd_rng htv hDv ((x : Int) + (k % 8 : Nat)) ((y : Int) + (k / 8 : Nat))
   have hsq := sq_rng hpd.1 hpd.2
   have Hnx := Lib.hid (show sqS t D x y (k + 1) = _ by rw [sqS])
   obtain ⟨u, hu⟩ : ∃ u, u = pat t ((x : Int) + (k % 8 : Nat)) ((y : Int) + (k / 8 : Nat)) := ⟨_, rfl⟩
   obtain ⟨v, hv⟩ : ∃ v, v = pat D ((x : Int) + (k % 8 : Nat)) ((y : Int) + (k / 8 : Nat)) := ⟨_, rfl⟩
   have hp1 := pat_rng htv ((x : Int) + (k % 8 : Nat)) ((y : Int) + (k / 8 : Nat))
   have hp2 := pat_rng hDv ((x : Int) + (k % 8 : Nat)) ((y : Int) + (k / 8 : Nat))
   rw [← hu] at hp1
   rw [← hv] at hp2
   rw [← hu, ← hv] at hpd hsq Hnx
   obtain ⟨S, hS⟩ : ∃ S, S = sqS t D x y k := ⟨_, rfl⟩
   rw [← hS] at hsr Hnx
   rw [← hS]
   have HcU := Lib.hid (fun (wx : World) (h : Ext wr wx) => cellP (S5.ext (Ek.trans h)) hlt ((nth_blk0 t x y hlt).trans hu.symm))
   have HcV := Lib.hid (fun (wx : World) (h : Ext wr wx) => cellP (S6.ext (Ek.trans h)) hlt ((nth_blk0 D x y hlt).trans hv.symm))
   obtain ⟨P, hP⟩ : ∃ P, P = (u - v) * (u - v) := ⟨_, rfl⟩
   rw [← hP] at hsq Hnx
   have HP := Lib.hid (show (u - v) * (u - v) = P from hP.symm)
   have HPw := Lib.hid (show wrap64 ((u - v) * (u - v)) = P by rw [← hP]; unfold wrap64; omega)
   clear hu hv hS hP
   go_upto_region 7 with fail
   refine wp_region_inv2 (by kernel_rfl) [(11, 21), (29, 0), (30, 1), (31, 2), (32, 3), (33, 4), (34, 5), (35, 6), (36, 7), (37, 8), (38, 9), (39, 10), (40, 11), (41, 12), (42, 13), (43, 14), (44, 15), (45, 16), (46, 17), (47, 18), (48, 19), (49, 20)] [[], [], [], [1, 2], [1, 2, 3], [], [], [5, 6], [5, 6, 7], [1, 2, 3, 4, 5, 6, 7, 8], [], [], [10, 11], [10, 11, 12], [], [], [14, 15], [14, 15, 16], [10, 11, 12, 13, 14, 15, 16, 17], [1, 2, 3, 4, 5, 6, 7, 8, 9, 10, 11, 12, 13, 14, 15, 16, 17, 18], [0, 1, 2, 3, 4, 5, 6, 7, 8, 9, 10, 11, 12, 13, 14, 15, 16, 17, 18, 19], [0, 1, 2, 3, 4, 5, 6, 7, 8, 9, 10, 11, 12, 13, 14, 15, 16, 17, 18, 19, 20]] (fun i own ys wx => match i with | 0 => own = .int .i64 S | 1 => own = .slice (some ⟨g4, 0, none⟩) 64 c4 | 2 => own = .int .i64 (k : Nat) | 3 => own = .pointer (some ⟨g4, k, none⟩) | 4 => own = .int .i64 u | 5 => own = .slice (some ⟨g6, 0, none⟩) 64 c6 | 6 => own = .int .i64 (k : Nat) | 7 => own = .pointer (some ⟨g6, k, none⟩) | 8 => own = .int .i64 v | 9 => own = .int .i64 (u - v) | 10 => own = .slice (some ⟨g4, 0, none⟩) 64 c4 | 11 => own = .int .i64 (k : Nat) | 12 => own = .pointer (some ⟨g4, k, none⟩) | 13 => own = .int .i64 u | 14 => own = .slice (some ⟨g6, 0, none⟩) 64 c6 | 15 => own = .int .i64 (k : Nat) | 16 => own = .pointer (some ⟨g6, k, none⟩) | 17 => own = .int .i64 v | 18 => own = .int .i64 (u - v) | 19 => own = .int .i64 P | 20 => own = .int .i64 (S + P) | 21 => own = .int .i64 (S + P) | _ => True) (fun kx wx => Ext wr wx) (by kernel_rfl) (by kernel_rfl) (by kernel_rfl) ?g0_r1 ?gop_r1 ?gend_r1
   case g0_r1 => exact Ext.drewN _ 1
   case gop_r1 =>
    refine ⟨?o0, ?_, ?_, ?o3, ?o4, ?_, ?_, ?o7, ?o8, ?o9, ?_, ?_, ?o12, ?o13, ?_, ?_, ?o16, ?o17, ?o18, ?o19, ?o20, ?o21, trivial⟩ <;> (intro kx xs wx hk hG hD hI Qo Kx hK hQo; simp only [patchS, Nat.reduceAdd, Nat.reduceEqDiff, ↓reduceIte] at hQo ⊢)
    case o0 =>
     have i21 := hI 21 11 rfl rfl
     simp only [List.getD_cons_succ, List.getD_cons_zero] at i21
     clear hD hI
     rw [i21] at hQo ⊢
     clear i21
     go_wp2
     exact hK.out _ _ ⟨rfl, hG, fun _ _ _ _ _ _ h => h⟩
    case o3 =>
     have d1 : _ = _ := hD 1 rfl
     have d2 : _ = _ := hD 2 rfl
     clear hD hI
     generalize xs 1 = y1 at *
     generalize xs 2 = y2 at *
     subst d1 d2
     go_wp2
     exact hK.out _ _ ⟨rfl, hG, fun _ _ _ _ _ _ h => h⟩
    case o4 =>
     have d3 : _ = _ := hD 3 rfl
     clear hD hI
     generalize xs 3 = y3 at *
     subst d3
     have cx := HcU.out wx hG
     go_wp2
     exact hK.out _ _ ⟨rfl, hG, fun _ _ _ _ _ _ h => h⟩
    case o7 =>
     have d5 : _ = _ := hD 5 rfl
     have d6 : _ = _ := hD 6 rfl
     clear hD hI
     generalize xs 5 = y5 at *
     generalize xs 6 = y6 at *
     subst d5 d6
     go_wp2
     exact hK.out _ _ ⟨rfl, hG, fun _ _ _ _ _ _ h => h⟩
    case o8 =>
     have d7 : _ = _ := hD 7 rfl
     clear hD hI
     generalize xs 7 = y7 at *
     subst d7
     have cx := HcV.out wx hG
     go_wp2
     exact hK.out _ _ ⟨rfl, hG, fun _ _ _ _ _ _ h => h⟩
    case o9 =>
     have d4 : _ = _ := hD 4 rfl
     have d8 : _ = _ := hD 8 rfl
     clear hD hI
     generalize xs 4 = y4 at *
     generalize xs 8 = y8 at *
     subst d4 d8
     go_wp2
     exact hK.out _ _ ⟨rfl, hG, fun _ _ _ _ _ _ h => h⟩
    case o12 =>
     have d10 : _ = _ := hD 10 rfl
     have d11 : _ = _ := hD 11 rfl
     clear hD hI
     generalize xs 10 = y10 at *
     generalize xs 11 = y11 at *
     subst d10 d11
     go_wp2
     exact hK.out _ _ ⟨rfl, hG, fun _ _ _ _ _ _ h => h⟩
    case o13 =>
     have d12 : _ = _ := hD 12 rfl
     clear hD hI
     generalize xs 12 = y12 at *
     subst d12
     have cx := HcU.out wx hG
     go_wp2
     exact hK.out _ _ ⟨rfl, hG, fun _ _ _ _ _ _ h => h⟩
    case o16 =>
     have d14 : _ = _ := hD 14 rfl
     have d15 : _ = _ := hD 15 rfl
     clear hD hI
     generalize xs 14 = y14 at *
     generalize xs 15 = y15 at *
     subst d14 d15
     go_wp2
     exact hK.out _ _ ⟨rfl, hG, fun _ _ _ _ _ _ h => h⟩
    case o17 =>
     have d16 : _ = _ := hD 16 rfl
     clear hD hI
     generalize xs 16 = y16 at *
     subst d16
     have cx := HcV.out wx hG
     go_wp2
     exact hK.out _ _ ⟨rfl, hG, fun _ _ _ _ _ _ h => h⟩
    case o18 =>
     have d13 : _ = _ := hD 13 rfl
     have d17 : _ = _ := hD 17 rfl
     clear hD hI
     generalize xs 13 = y13 at *
     generalize xs 17 = y17 at *
     subst d13 d17
     go_wp2
     exact hK.out _ _ ⟨rfl, hG, fun _ _ _ _ _ _ h => h⟩
    case o19 =>
     have d9 : _ = _ := hD 9 rfl
     have d18 : _ = _ := hD 18 rfl
     clear hD hI
     generalize xs 9 = y9 at *
     generalize xs 18 = y18 at *
     subst d9 d18
     go_wp2
     exact hK.out _ _ ⟨by first | rw [HPw.out] | rw [HP.out], hG, fun _ _ _ _ _ _ h => h⟩
    case o20 =>
     have d0 : _ = _ := hD 0 rfl
     have d19 : _ = _ := hD 19 rfl
     clear hD hI
     generalize xs 0 = y0 at *
     generalize xs 19 = y19 at *
     subst d0 d19
     go_wp2
     exact hK.out _ _ ⟨rfl, hG, fun _ _ _ _ _ _ h => h⟩
    case o21 =>
     have d20 : _ = _ := hD 20 rfl
     clear hD hI
     generalize xs 20 = y20 at *
     subst d20
     go_wp2
     exact hK.out _ _ ⟨rfl, hG, fun _ _ _ _ _ _ h => h⟩
    all_goals
     clear hD hI
     go_wp2
     exact hK.out _ _ ⟨rfl, hG, fun _ _ _ _ _ _ h => h⟩
   intro xs wx hV hG
   have d21 : _ = _ := hV 21 (by decide)
   clear hV
   simp only [patchS, Nat.reduceAdd, Nat.reduceEqDiff, ↓reduceIte]
   generalize xs 0 = y0 at *
   generalize xs 1 = y1 at *
   generalize xs 2 = y2 at *
   generalize xs 3 = y3 at *
   generalize xs 4 = y4 at *
   generalize xs 5 = y5 at *
   generalize xs 6 = y6 at *
   generalize xs 7 = y7 at *
   generalize xs 8 = y8 at *
   generalize xs 9 = y9 at *
   generalize xs 10 = y10 at *
   generalize xs 11 = y11 at *
   generalize xs 12 = y12 at *
   generalize xs 13 = y13 at *
   generalize xs 14 = y14 at *
   generalize xs 15 = y15 at *
   generalize xs 16 = y16 at *
   generalize xs 17 = y17 at *
   generalize xs 18 = y18 at *
   generalize xs 19 = y19 at *
   generalize xs 20 = y20 at *
   generalize xs 21 = y21 at *
   replace hG : Ext wr wx := hG
   subst d21
   go_wp2
   go_roundw
   case rel => exact ⟨k + 1, by omega, by go_num, by rw [Hnx.out], Ek.trans hG⟩
   case measure => simp [intOf]; omega
  ·obtain rfl : k = 64 := by omega
   obtain ⟨S, hS⟩ : ∃ S, S = sqS t D x y 64 := ⟨_, rfl⟩
   rw [← hS] at hsr ⊢
   have HS := Lib.hid hS
   clear hS
   go_wp2
   go_ret
   exact ⟨ret_int (by rw [← HS.out]), F3.trans Ek⟩
set_option maxRecDepth 100000 in
set_option maxHeartbeats 2000000 in
theorem spec_cost_in (t ref : Pic) (W H x y : Nat) (px : List Int) (m : Mac) (q : Nat) (top : Int) (at1 a b : Option Addr) (tc c d tn n l : Nat) (w : World) (htn : tn = t.px.length) (hn : n = ref.px.length) (hl : l = px.length) (nc : n ≤ 9223372036854775807) (rt : Sl w at1 tn (t.px.map (Value.int .i64))) (r : Sl w a n (ref.px.map (Value.int .i64))) (s : Sl w b l (px.map (Value.int .i64))) (hm : m.ok) (htv : t.valid) (ho : okR ref ⟨W, H, px⟩ x y m q top) :
 Calls Tryz.prog 43 #[.agg #[.int .i64 t.w, .int .i64 t.h, .slice at1 tn tc], .agg #[.int .i64 ref.w, .int .i64 ref.h, .slice a n c], .agg #[.int .i64 W, .int .i64 H, .slice b l d], .int .i64 (x : Nat), .int .i64 (y : Nat), .agg (ic m.zs), .int .i64 q, .int .i64 top] w fun e w' => e = .returned (.int .i64 (sqS t ⟨W, H, bldS ref ⟨W, H, px⟩ x y m q top 4⟩ x y 64 + stp q * (macN m : Int))) ∧ Ext w w' := by
 have hlen := Pic.len_le ho.1.1
 simp only at hlen
 rw [← hl] at hlen
 obtain ⟨bl, hbl⟩ : ∃ bl, bl = bldS ref ⟨W, H, px⟩ x y m q top 4 := ⟨_, rfl⟩
 have hDv : Pic.valid ⟨W, H, bl⟩ := by rw [hbl]; exact bldS_valid ho.1.1 ref x y m q top 4
 have hxy : (x : Int) < 40 ∧ (y : Int) < 40 := by
  have h1 := ho.1.1.1
  have h2 := ho.1.1.2.1
  have h3 := ho.1.2.2.1
  have h4 := ho.1.2.2.2.2.2.1
  simp only [side] at h1 h2 h3 h4
  omega
 have HDn := Lib.hid (show l = bl.length by rw [hbl, bldS_len]; exact hl)
 have Hbl := Lib.hid hbl
 clear hbl
 have hrt := rate_rng hm ho.2.1 (show q < 16 by have := ho.2.2.1; omega)
 have Htn := Lib.hid htn
 have Hn := Lib.hid hn
 have HL := Lib.hid hl
 have Hm := Lib.hid hm
 have Hl := Lib.hid (Mac.zs_len hm)
 have Hok := Lib.hid ho
 have HTV := Lib.hid htv
 have HDv := Lib.hid hDv
 have hq : q < 16 := by have := ho.2.2.1; omega
 have ht0 : 0 ≤ top := ho.2.2.2.1.1
 clear hn hl hm ho htn htv hDv
 have a2 := Ext.alloc (w.alloc (.cells #[.int .i64 t.w, .int .i64 t.h, .slice at1 tn tc] 25)) (.cells #[.int .i64 ref.w, .int .i64 ref.h, .slice a n c] 25)
 have a3 := Ext.alloc ((w.alloc (.cells #[.int .i64 t.w, .int .i64 t.h, .slice at1 tn tc] 25)).alloc (.cells #[.int .i64 ref.w, .int .i64 ref.h, .slice a n c] 25)) (.cells #[.int .i64 W, .int .i64 H, .slice b l d] 25)
 have a4 := Ext.alloc (((w.alloc (.cells #[.int .i64 t.w, .int .i64 t.h, .slice at1 tn tc] 25)).alloc (.cells #[.int .i64 ref.w, .int .i64 ref.h, .slice a n c] 25)).alloc (.cells #[.int .i64 W, .int .i64 H, .slice b l d] 25)) (.cells (ic m.zs) 32)
 have p0 := a4.blk (a3.blk (a2.blk (blk_new w (.cells #[.int .i64 t.w, .int .i64 t.h, .slice at1 tn tc] 25))))
 have p1 := a4.blk (a3.blk (blk_new (w.alloc (.cells #[.int .i64 t.w, .int .i64 t.h, .slice at1 tn tc] 25)) (.cells #[.int .i64 ref.w, .int .i64 ref.h, .slice a n c] 25)))
 have p2 := a4.blk (blk_new ((w.alloc (.cells #[.int .i64 t.w, .int .i64 t.h, .slice at1 tn tc] 25)).alloc (.cells #[.int .i64 ref.w, .int .i64 ref.h, .slice a n c] 25)) (.cells #[.int .i64 W, .int .i64 H, .slice b l d] 25))
 have p3 := IB.new (((w.alloc (.cells #[.int .i64 t.w, .int .i64 t.h, .slice at1 tn tc] 25)).alloc (.cells #[.int .i64 ref.w, .int .i64 ref.h, .slice a n c] 25)).alloc (.cells #[.int .i64 W, .int .i64 H, .slice b l d] 25)) 32 m.zs
 have E1 := (((Ext.alloc w (.cells #[.int .i64 t.w, .int .i64 t.h, .slice at1 tn tc] 25)).trans a2).trans a3).trans a4
 simp only [World.size_alloc] at p1 p2 p3
 clear a2 a3 a4
 obtain ⟨B, hB⟩ : ∃ B, B = w.heap.size := ⟨_, rfl⟩
 rw [← hB] at p0 p1 p2 p3
 have hwB : w.heap.size ≤ B := by omega
 have HB := Lib.hid hB
 have hb1 := p3.lt
 go_enter Tryz.func43, Tryz.ntmps43
 go_upto_region 1 with fail
 try simp only [World.size_alloc]
 rw [← hB]
 clear hB
 generalize (((w.alloc (.cells #[.int .i64 t.w, .int .i64 t.h, .slice at1 tn tc] 25)).alloc (.cells #[.int .i64 ref.w, .int .i64 ref.h, .slice a n c] 25)).alloc (.cells #[.int .i64 W, .int .i64 H, .slice b l d] 25)).alloc (.cells (ic m.zs) 32) = w1 at *
 obtain ⟨-, i0, i1, i2, -⟩ := bx3 p2
 go_wp2_with fail
 refine (l8Copy_any W H b d l px _ (by omega) (by omega) (s.ext E1)).mono ?_
 rintro e wa ⟨a1, c1, rfl, own1, e2⟩
 have r0 := e2.blk p0
 have r1 := e2.blk p1
 have r2 := e2.blk p2
 have r3 := p3.ext e2
 have E2 := E1.trans e2
 clear p0 p1 p2 p3 E1 e2 i0 i1 i2
 have hgo : ∃ g, a1 = some ⟨g, 0, none⟩ ∧ g < wa.heap.size ∧ w1.heap.size ≤ g := by
  rcases own1.2 with ⟨-, h0⟩ | ⟨g, cc, cur, hv, hb, hb2, -⟩
  ·omega
  ·simp only [Value.slice.injEq] at hv
   exact ⟨g, hv.1, lt_of_block hb2, hb⟩
 obtain ⟨g, rfl, hg1, hg2⟩ := hgo
 have a5 := Ext.alloc wa (.cells #[.int .i64 W, .int .i64 H, .slice (some ⟨g, 0, none⟩) l c1] 25)
 have z0 := a5.blk r0
 have z1 := a5.blk r1
 have z3 := r3.ext a5
 have z4 := blk_new wa (.cells #[.int .i64 W, .int .i64 H, .slice (some ⟨g, 0, none⟩) l c1] 25)
 have own2 := owns_ext own1 a5
 have E3 := E2.trans a5
 have hO := r3.lt
 obtain ⟨O, hOe⟩ : ∃ O, O = wa.heap.size := ⟨_, rfl⟩
 rw [← hOe] at z4 hg1 hO
 have HO2 := Lib.hid hOe
 clear r0 r1 r2 r3 own1 E2 a5
 obtain ⟨-, i0, i1, i2, -⟩ := bx3 z1
 obtain ⟨-, o0, o1, o2, -⟩ := bx3 z4
 have hOlt := lt_of_block z4
 go_upto_region 2 with fail
 rw [← hOe]
 clear hOe
 generalize wa.alloc (.cells #[.int .i64 W, .int .i64 H, .slice (some ⟨g, 0, none⟩) l c1] 25) = w2 at *
 go_wp2_with (refine wpList_iload 32 _ rfl rfl z3 0 71 rfl _ Tryz.underlying32 rfl size_Macro (by rw [Hl.out]; omega) _ (by rw [sub_all _ _ Hl.out]) ?_)
 have hrz : ¬ m.kind = 2 → ∀ z, a = some z → z.block ≠ g := fun hk z hz => by
  have h9 := Pic.len_le (okR_ref Hok.out hk)
  rw [← Hn.out] at h9
  have := sl_bound r z hz (by omega)
  omega
 refine (l8Build_any ref W H x y px m q top a n c w1.heap.size g l c1 _ own2 Hok.out.1 Hm.out Hok.out.2.1 hq ht0 (fun hk => okR_ref Hok.out hk) Hn.out (r.ext E3) hrz).mono ?_
 rintro e w3 ⟨rfl, own3, g3⟩
 rw [← Hbl.out] at own3
 have u0 := blk_gr z0 g3 (by simp; omega)
 have u3 := z3.gr g3 (by simp; omega)
 have u4 := blk_gr z4 g3 (by simp; omega)
 have hs1 : B ≤ w1.heap.size := by omega
 have E4 : Ext w w3 := Ext.grown E3 g3 (fun k e => by cases e; omega)
 have SD := Sl.of_owns own3
 clear z0 z1 z3 z4 own2 own3 E3 g3 i0 i1 i2 o0 o1 o2
 have RT := rt.ext E4
 obtain ⟨s0, hs0⟩ : ∃ s0, s0 = stp q := ⟨_, rfl⟩
 obtain ⟨N0, hN0⟩ : ∃ N0, N0 = macN m := ⟨_, rfl⟩
 obtain ⟨C, hC⟩ : ∃ C, C = stp q * (macN m : Int) := ⟨_, rfl⟩
 rw [← hC] at hrt
 have HC := Lib.hid (show s0 * (N0 : Int) = C by rw [hs0, hN0, hC])
 have HW := Lib.hid (show wrap64 (s0 * (N0 : Int)) = C by rw [hs0, hN0, ← hC]; unfold wrap64; omega)
 have HS0 := Lib.hid hs0
 have HN0 := Lib.hid hN0
 have HC0 := Lib.hid hC
 have hs0r := stp_rng hq
 rw [← hs0] at hs0r
 have hN0r := macN_le Hm.out Hok.out.2.1
 rw [← hN0] at hN0r
 obtain ⟨S, hS⟩ : ∃ S, S = sqS t ⟨W, H, bl⟩ x y 64 := ⟨_, rfl⟩
 have hsr := sqS_rng HTV.out HDv.out x y 64
 rw [← hS] at hsr
 have HS := Lib.hid hS
 clear hS hs0 hN0 hC
 go_upto_region 3 with fail
 refine wp_region_inv2 (by kernel_rfl) [(16, 12), (28, 0), (29, 1), (30, 2), (31, 3), (32, 4), (33, 5), (34, 6), (35, 7), (36, 8), (37, 9), (38, 10), (39, 11)] [[], [], [], [], [0, 1, 2, 3], [], [0, 1, 2, 3, 4, 5], [], [0, 1, 2, 3, 4, 5, 6, 7], [0, 1, 2, 3, 4, 5, 6, 7, 8], [0, 1, 2, 3, 4, 5, 6, 7, 8, 9], [0, 1, 2, 3, 4, 5, 6, 7, 8, 9, 10], [0, 1, 2, 3, 4, 5, 6, 7, 8, 9, 10, 11]] (fun i own ys wx => match i with | 0 => own = .agg #[.int .i64 t.w, .int .i64 t.h, .slice at1 tn tc] | 1 => own = .agg #[.int .i64 W, .int .i64 H, .slice (some ⟨g, 0, none⟩) l c1] | 2 => own = .int .i64 (x : Nat) | 3 => own = .int .i64 (y : Nat) | 4 => own = .int .i64 S | 5 => own = .int .i64 (q : Nat) | 6 => own = .int .i64 s0 | 7 => own = .agg (ic m.zs) | 8 => ∃ (a3 : Option Addr) (c3 : Nat), own = .slice a3 N0 c3 | 9 => own = .int .i64 (N0 : Nat) | 10 => own = .int .i64 C | 11 => own = .int .i64 (S + C) | 12 => own = .int .i64 (S + C) | _ => True) (fun kx wx => Ext w3 wx) (by kernel_rfl) (by kernel_rfl) (by kernel_rfl) ?g0_r2 ?gop_r2 ?gend_r2
 case g0_r2 => exact Ext.drewN _ 1
 case gop_r2 =>
  refine ⟨?o0, ?o1, ?_, ?_, ?o4, ?_, ?o6, ?o7, ?o8, ?o9, ?o10, ?o11, ?o12, trivial⟩ <;> (intro kx xs wx hk hG hD hI Qo Kx hK hQo; simp only [patchS, Nat.reduceAdd, Nat.reduceEqDiff, ↓reduceIte] at hQo ⊢)
  case o0 =>
   clear hD hI
   obtain ⟨-, k0, k1, k2, -⟩ := bx3 (hG.blk u0)
   go_wp2
   exact hK.out _ _ ⟨rfl, hG, fun _ _ _ _ _ _ h => h⟩
  case o1 =>
   clear hD hI
   obtain ⟨-, k0, k1, k2, -⟩ := bx3 (hG.blk u4)
   go_wp2
   exact hK.out _ _ ⟨rfl, hG, fun _ _ _ _ _ _ h => h⟩
  case o4 =>
   have d0 : _ = _ := hD 0 rfl
   have d1 : _ = _ := hD 1 rfl
   have d2 : _ = _ := hD 2 rfl
   have d3 : _ = _ := hD 3 rfl
   clear hD hI
   generalize xs 0 = y0 at *
   generalize xs 1 = y1 at *
   generalize xs 2 = y2 at *
   generalize xs 3 = y3 at *
   subst d0 d1 d2 d3
   go_wp2_with fail
   refine (l13Error_in t ⟨W, H, bl⟩ x y at1 (some ⟨g, 0, none⟩) tc c1 tn l _ HTV.out HDv.out Htn.out HDn.out (RT.ext hG) (SD.ext hG) (by omega) (by omega)).mono ?_
   rintro e wz ⟨rfl, ez⟩
   rw [← HS.out]
   go_wp2
   exact hK.out _ _ ⟨rfl, hG.trans ez, fun _ _ _ _ _ _ h => h⟩
  case o6 =>
   have d5 : _ = _ := hD 5 rfl
   clear hD hI
   generalize xs 5 = y5 at *
   subst d5
   go_wp2_with fail
   refine (spec_QuantStep_in q _ hq).mono ?_
   rintro e wz ⟨rfl, ez⟩
   rw [← HS0.out]
   go_wp2
   exact hK.out _ _ ⟨rfl, hG.trans ez, fun _ _ _ _ _ _ h => h⟩
  case o7 =>
   clear hD hI
   go_wp2_with (refine wpList_iload 32 _ rfl rfl (u3.ext hG) 0 71 rfl _ Tryz.underlying32 rfl size_Macro (by rw [Hl.out]; omega) _ (by rw [sub_all _ _ Hl.out]) ?_)
   exact hK.out _ _ ⟨rfl, hG, fun _ _ _ _ _ _ h => h⟩
  case o8 =>
   have d7 : _ = _ := hD 7 rfl
   clear hD hI
   generalize xs 7 = y7 at *
   subst d7
   go_wp2_with fail
   refine (l10Macro_any m _ Hm.out Hok.out.2.1).mono ?_
   rintro e wz ⟨az, cz, rfl, -, ez⟩
   rw [← HN0.out]
   go_wp2
   exact hK.out _ _ ⟨⟨az, cz, rfl⟩, hG.trans ez, fun _ _ _ _ _ _ h => h⟩
  case o9 =>
   have d8 : ∃ (a3 : Option Addr) (c3 : Nat), (xs 8) = .slice a3 N0 c3 := hD 8 rfl
   clear hD hI
   generalize xs 8 = y8 at *
   obtain ⟨a3, c3, rfl⟩ := d8
   go_wp2
   exact hK.out _ _ ⟨rfl, hG, fun _ _ _ _ _ _ h => h⟩
  case o10 =>
   have d6 : _ = _ := hD 6 rfl
   have d9 : _ = _ := hD 9 rfl
   clear hD hI
   generalize xs 6 = y6 at *
   generalize xs 9 = y9 at *
   subst d6 d9
   go_wp2
   exact hK.out _ _ ⟨by first | rw [HW.out] | rw [HC.out], hG, fun _ _ _ _ _ _ h => h⟩
  case o11 =>
   have d4 : _ = _ := hD 4 rfl
   have d10 : _ = _ := hD 10 rfl
   clear hD hI
   generalize xs 4 = y4 at *
   generalize xs 10 = y10 at *
   subst d4 d10
   go_wp2
   exact hK.out _ _ ⟨rfl, hG, fun _ _ _ _ _ _ h => h⟩
  case o12 =>
   have d11 : _ = _ := hD 11 rfl
   clear hD hI
   generalize xs 11 = y11 at *
   subst d11
   go_wp2
   exact hK.out _ _ ⟨rfl, hG, fun _ _ _ _ _ _ h => h⟩
  all_goals
   clear hD hI
   go_wp2
   exact hK.out _ _ ⟨rfl, hG, fun _ _ _ _ _ _ h => h⟩
 intro xs wx hV hG
 have d12 : _ = _ := hV 12 (by decide)
 clear hV
 simp only [patchS, Nat.reduceAdd, Nat.reduceEqDiff, ↓reduceIte]
 generalize xs 0 = y0 at *
 generalize xs 1 = y1 at *
 generalize xs 2 = y2 at *
 generalize xs 3 = y3 at *
 generalize xs 4 = y4 at *
 generalize xs 5 = y5 at *
 generalize xs 6 = y6 at *
 generalize xs 7 = y7 at *
 generalize xs 8 = y8 at *
 generalize xs 9 = y9 at *
 generalize xs 10 = y10 at *
 generalize xs 11 = y11 at *
 generalize xs 12 = y12 at *
 replace hG : Ext w3 wx := hG
 subst d12
 go_wp2
 go_ret
 exact ⟨ret_int (by rw [← Hbl.out, ← HS.out, ← HC0.out]), E4.trans hG⟩
end Go.Proofs.YtbnhaegidfbgbaaGreatDoor
