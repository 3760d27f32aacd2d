/- Drawing: a picture like another one. | Words for the laws with pictures: what changes in a range of blocks; boxes. | Drawing: two pictures. -/
import Derived.Test.YtbnhaegidfbgbaaDoorQd4
namespace Go.Proofs.YtbnhaegidfbgbaaDoor
open Go.RowKit
set_option maxHeartbeats 1000000
/-- The result out of a box R. -/
theorem PicR.at {w wx wy : World} {b P R : Nat} {x y : Int} {a : Option Addr} {c n : Nat} {zs : List Int} (hn : n ≤ 1024) (h1 : -8 ≤ x) (h2 : x ≤ 40) (h3 : 0 ≤ y) (h4 : y ≤ 40) (s : Sl wx a n (zs.map (Value.int .i64))) (ha : ∀ y, a = some y → w.heap.size ≤ y.block ∧ y.block ≠ R) (r : RdP wx b P) (g : w.grownBy wx (some b)) (hb : b < w.heap.size) (hR : w.heap.size ≤ R)
 (e : wx.grownBy wy (some R)) : PicR w b P (.returned (.agg #[.int .i64 x, .int .i64 y, .slice a n c])) wy := by
 obtain ⟨q, hq1, hq2⟩ := r
 exact ⟨⟨x, y, zs⟩, a, c, n, rfl, s.int_len.symm, hn, h1, h2, h3, h4, s.grown e (fun u hu => by have := ha u hu; simp; omega), fun u hu => (ha u hu).1, ⟨q, hq1, hq2.gr e (fun k hk => by cases hk; omega)⟩, grown_any g e (fun k hk => by cases hk; omega)⟩
theorem own_hiU {w w' : World} {base e s n : Nat} {v : Value} {xs : List Value} {row : Option Nat} (h : w.ownsRow base e s v n xs) (g : w.grownBy w' row) (hb : ∀ q, row = some q → q < base) : w'.ownsRow base e s v n xs := by
 refine h.kept g ?_
 cases hv : v.ownBlock with
 | none => exact .inl rfl
 | some k => right; intro e; have h1 := owns_ge h k hv; have h2 := hb k e.symm; omega
theorem RdP.gr {w w' : World} {b P : Nat} {row : Option Nat} (h : RdP w b P) (g : w.grownBy w' row) (hr : ∀ k, row = some k → b < k) : RdP w' b P := by
 obtain ⟨q, hq1, hq2⟩ := h
 exact ⟨q, hq1, hq2.gr g hr⟩
/-- What holds while a picture like p is drawn: p's box, the result's box, p's samples. -/
structure NB (w : World) (b O : Nat) (p : Pic) (a : Option Addr) (n c : Nat) (wx : World) : Prop where
 gr : w.grownBy wx (some b)
 pbx : wx.heap[w.heap.size]? = some (.cells #[.int .i64 p.w, .int .i64 p.h, .slice a n c] 25 (0, 0))
 res : wx.heap[w.heap.size + 1]? = some (.cells #[.int .i64 0, .int .i64 0, .slice none 0 0] 25 (0, 0))
 sl : Sl wx a n (p.px.map (Value.int .i64))
 lo : b < w.heap.size
 hO : w.heap.size + 1 < O
 ha : ∀ y, a = some y → y.block < w.heap.size ∧ y.block ≠ b
theorem NB.grb {w wx wy : World} {b O n c : Nat} {p : Pic} {a : Option Addr} (h : NB w b O p a n c wx) (g : wx.grownBy wy (some b)) : NB w b O p a n c wy := by
 have h1 := h.lo
 have h2 := h.hO
 exact ⟨grown_trans h.gr g, blk_gr h.pbx g (by simp; omega), blk_gr h.res g (by simp; omega), h.sl.grown g (fun u hu => by have := h.ha u hu; simp; omega), h1, h2, h.ha⟩
theorem NB.up {w wx : World} {b O O' n c : Nat} {p : Pic} {a : Option Addr} (h : NB w b O p a n c wx) (hO : O ≤ O') : NB w b O' p a n c wx :=
 ⟨h.gr, h.pbx, h.res, h.sl, h.lo, by have := h.hO; omega, h.ha⟩
theorem NB.gro {w wx wy : World} {b O n c : Nat} {p : Pic} {a : Option Addr} {row : Option Nat} (h : NB w b O p a n c wx) (g : wx.grownBy wy row) (hr : ∀ k, row = some k → O ≤ k) : NB w b O p a n c wy := by
 have h1 := h.lo
 have h2 := h.hO
 exact ⟨grown_any h.gr g (fun k hk => by have := hr k hk; omega), blk_gr h.pbx g (fun e => by have := hr _ e; omega), blk_gr h.res g (fun e => by have := hr _ e; omega), h.sl.grown g (fun u hu e => by have := h.ha u hu; have := hr _ e.symm; omega), h1, h2, h.ha⟩
def NX (w : World) (b O HI : Nat) (p : Pic) (a : Option Addr) (n c W H Q : Nat) (a2 : Option Addr) (k c2 : Nat) (zs : List Int) (l18 l25 : Bool) (wx : World) : Prop :=
 NB w b O p a n c wx ∧ RdP wx b (Q + 1) ∧ (l18 = false → RdP wx b Q) ∧ (∃ z, wx.heap[O]? = some (.cells #[.int .i64 W, .int .i64 H, z] 25 (0, 0)) ∧ (l25 = false → z = .slice a2 k c2)) ∧ wx.ownsRow (O + 1) 3 1 (.slice a2 k c2) k (zs.map (Value.int .i64)) ∧ HI ≤ wx.heap.size
section
variable {w wx wy : World} {b O HI n c W H Q k c2 : Nat} {p : Pic} {a a2 : Option Addr} {zs : List Int} {l18 l25 : Bool}
theorem NX.step (h : NX w b O HI p a n c W H Q a2 k c2 zs l18 l25 wx) : NX w b O HI p a n c W H Q a2 k c2 zs l18 l25 wx := h
theorem NX.ext (h : NX w b O HI p a n c W H Q a2 k c2 zs l18 l25 wx) (e : Ext wx wy) : NX w b O HI p a n c W H Q a2 k c2 zs l18 l25 wy := by
 obtain ⟨h1, h2, h3, ⟨z, h4, h5⟩, h6, h7⟩ := h
 exact ⟨h1.grb (ext_gr e), h2.ext e, fun x => (h3 x).ext e, ⟨z, e.blk h4, h5⟩, owns_ext h6 e, Nat.le_trans h7 e.size⟩
theorem NX.pick (h : NX w b O HI p a n c W H Q a2 k c2 zs l18 l25 wx) (g : wx.grownBy wy (some b)) (r : RdP wy b (Q + 1)) : NX w b O HI p a n c W H Q a2 k c2 zs true l25 wy := by
 obtain ⟨h1, h2, h3, ⟨z, h4, h5⟩, h6, h7⟩ := h
 have q1 := h1.lo
 have q2 := h1.hO
 exact ⟨h1.grb g, r, (fun x => Bool.noConfusion x), ⟨z, blk_gr h4 g (by simp; omega), h5⟩, own_gr h6 g (by omega), Nat.le_trans h7 g.size⟩
theorem NX.app (h : NX w b O HI p a n c W H Q a2 k c2 zs l18 l25 wx) (g : wx.grownBy wy (Value.slice a2 k c2).ownBlock) (o : wy.ownsRow (O + 1) 3 1 (.slice a2 k c2) k (zs.map (Value.int .i64))) : NX w b O HI p a n c W H Q a2 k c2 zs l18 l25 wy := by
 obtain ⟨h1, h2, h3, ⟨z, h4, h5⟩, h6, h7⟩ := h
 have q1 := h1.lo
 have q2 := h1.hO
 have hge := owns_ge h6
 exact ⟨h1.gro g (fun k hk => by have := hge k hk; omega), h2.gr g (fun k hk => by have := hge k hk; omega), fun x => (h3 x).gr g (fun k hk => by have := hge k hk; omega), ⟨z, blk_gr h4 g (fun e => by have := hge _ e; omega), h5⟩, o, Nat.le_trans h7 g.size⟩
theorem NX.put {v : Value} (h : NX w b O HI p a n c W H Q a2 k c2 zs l18 l25 wx) (g : wx.grownBy wy (some O)) (hb : wy.heap[O]? = some (.cells #[.int .i64 W, .int .i64 H, v] 25 (0, 0))) : NX w b O HI p a n c W H Q a2 k c2 zs l18 true wy := by
 obtain ⟨h1, h2, h3, ⟨z, h4, h5⟩, h6, h7⟩ := h
 have q1 := h1.lo
 have q2 := h1.hO
 exact ⟨h1.gro g (fun k hk => by cases hk; omega), h2.gr g (fun k hk => by cases hk; omega), fun x => (h3 x).gr g (fun k hk => by cases hk; omega), ⟨v, hb, (fun x => Bool.noConfusion x)⟩, own_gr h6 g (by omega), Nat.le_trans h7 g.size⟩
end
set_option maxRecDepth 100000 in
set_option maxHeartbeats 3000000 in
theorem l20Next_c (b P : Nat) (p : Pic) (a : Option Addr) (c n : Nat) (w : World) (h : RdP w b P) (hp : P < 2^36) (hn : n = p.px.length) (hn2 : n ≤ 1024) (s : Sl w a n (p.px.map (Value.int .i64))) (ha : ∀ y, a = some y → y.block ≠ b) :
 Calls Tryd.prog 86 #[.pointer (some ⟨b, 0, none⟩), .agg #[.int .i64 p.w, .int .i64 p.h, .slice a n c]] w (PicR w b (P + 2200)) := by
 have hbw : b < w.heap.size := h.lt
 have e0 : Ext w ((w.alloc (.cells #[.int .i64 p.w, .int .i64 p.h, .slice a n c] 25)).alloc (.cells #[.int .i64 0, .int .i64 0, .slice none 0 0] 25)) := (Ext.alloc w (.cells #[.int .i64 p.w, .int .i64 p.h, .slice a n c] 25)).trans (Ext.alloc _ _)
 have P0 := (Ext.alloc (w.alloc (.cells #[.int .i64 p.w, .int .i64 p.h, .slice a n c] 25)) (.cells #[.int .i64 0, .int .i64 0, .slice none 0 0] 25)).blk (blk_new w (.cells #[.int .i64 p.w, .int .i64 p.h, .slice a n c] 25))
 have R0 := blk_new (w.alloc (.cells #[.int .i64 p.w, .int .i64 p.h, .slice a n c] 25)) (.cells #[.int .i64 0, .int .i64 0, .slice none 0 0] 25)
 rw [World.size_alloc] at R0
 have s0 := s.ext e0
 have r0 := h.ext e0
 have G0 : w.grownBy _ (some b) := ext_gr e0
 have HN := Lib.hid hn
 have HS := Lib.hid s
 clear hn
 go_enter Tryd.func86, Tryd.ntmps86
 go_upto_region 1 with fail
 try simp only [World.size_alloc]
 generalize (w.alloc (.cells #[.int .i64 p.w, .int .i64 p.h, .slice a n c] 25)).alloc (.cells #[.int .i64 0, .int .i64 0, .slice none 0 0] 25) = w0 at *
 obtain ⟨-, k0, k1, k2, -⟩ := bx3 P0
 clear h e0 s
 go_wp2_with fail
 refine (spec_PictureValid_any p a c n _ HN.out (by omega) s0).mono ?_
 rintro e w1 ⟨rfl, e1⟩
 have P1 := e1.blk P0
 have R1 := e1.blk R0
 have s1 := s0.ext e1
 have r1 := r0.ext e1
 have G1 := grown_ext G0 e1
 clear P0 R0 s0 r0 G0 e1 k0 k1 k2
 by_cases hv : p.valid
 ·rw [decide_eq_true hv]
  have HV := Lib.hid hv
  have hl := Pic.len_le hv
  rw [← HN.out] at hl
  have hsz : w.heap.size + 2 ≤ w1.heap.size := by have := lt_of_block R1; omega
  obtain ⟨W, hW⟩ : ∃ W : Nat, p.w = W := ⟨p.w.toNat, by have := hv.1.1; omega⟩
  obtain ⟨H, hH⟩ : ∃ H : Nat, p.h = H := ⟨p.h.toNat, by have := hv.2.1.1; omega⟩
  have hw1 := hv.1
  have hh1 := hv.2.1
  rw [hW] at hw1
  rw [hH] at hh1
  obtain ⟨hw1, hw2, -⟩ := hw1
  obtain ⟨hh1, hh2, -⟩ := hh1
  have hlo := fun y hy => sl_bound HS.out y hy (show 0 < n by omega)
  have D1 : NB w b (w.heap.size + 2) p a n c w1 := ⟨G1, P1, R1, s1, hbw, by omega, fun y hy => ⟨hlo y hy, ha y hy⟩⟩
  have HW := Lib.hid hW
  have HH := Lib.hid hH
  clear hv hW hH G1 P1 R1 s1 hlo ha
  go_wp2_with fail
  refine (pick_c b _ 7 _ r1 (by omega) (by omega) (by omega)).mono ?_
  rintro e wa ⟨dx, rfl, dxa, dxb, r2, ga⟩
  have D2 := D1.grb ga
  clear D1 r1 ga
  go_wp2_with fail
  refine (pick_c b _ 7 _ r2 (by omega) (by omega) (by omega)).mono ?_
  rintro e wb ⟨dy, rfl, dya, dyb, r3, ga⟩
  have D3 := D2.grb ga
  clear D2 r2 ga
  have e4 := Ext.alloc wb (.cells #[.int .i64 1, .int .i64 1, .int .i64 3, .int .i64 40] 3)
  have S4 := blk_new wb (.cells #[.int .i64 1, .int .i64 1, .int .i64 3, .int .i64 40] 3)
  have D4 := D3.grb (ext_gr e4)
  have hsz3 := lt_of_block D3.res
  go_wp2_with fail
  refine (pick_c b _ 4 _ (r3.ext e4) (by omega) (by omega) (by omega)).mono ?_
  rintro e wc ⟨ni, rfl, nia, nib, r5, ga⟩
  have S5 := gr_blk ga S4 (by omega)
  have D5 := D4.grb ga
  clear D4 D3 r3 e4 S4 ga
  have hc : ∃ nz : Int, wc.cell? ⟨wb.heap.size, ni.toNat, none⟩ = some (.int .i64 nz) ∧ 1 ≤ nz ∧ nz ≤ 40 := by
   obtain rfl | rfl | rfl | rfl : ni = 0 ∨ ni = 1 ∨ ni = 2 ∨ ni = 3 := by omega
   ·exact ⟨1, by simp [World.cell?, S5], by omega, by omega⟩
   ·exact ⟨1, by simp [World.cell?, S5], by omega, by omega⟩
   ·exact ⟨3, by simp [World.cell?, S5], by omega, by omega⟩
   ·exact ⟨40, by simp [World.cell?, S5], by omega, by omega⟩
  obtain ⟨nz, hc5, nza, nzb⟩ := hc
  have hsz5 := lt_of_block D5.res
  clear S5
  obtain ⟨O, hO⟩ : ∃ O, O = wc.heap.size := ⟨_, rfl⟩
  obtain ⟨-, k0, k1, k2, -⟩ := bx3 D5.pbx
  rw [HW.out] at k0
  rw [HH.out] at k1
  go_upto_region 7 with fail
  have e6 := Ext.alloc wc (.cells #[.int .i64 W, .int .i64 H, .slice none 0 0] 25)
  have B6 := blk_new wc (.cells #[.int .i64 W, .int .i64 H, .slice none 0 0] 25)
  have D6 : NB w b O p a n c (wc.alloc (.cells #[.int .i64 W, .int .i64 H, .slice none 0 0] 25)) := (D5.up (by omega)).grb (ext_gr e6)
  have r6 := r5.ext e6
  rw [← hO] at B6
  rw [← hO]
  generalize wc.alloc (.cells #[.int .i64 W, .int .i64 H, .slice none 0 0] 25) = w6 at *
  clear D5 r5 e6 k0 k1 k2 hc5
  have hbO : b < O := by omega
  have hszO : w.heap.size + 1 < O := by omega
  clear hO hsz5 hsz3 hsz
  go_wp2_with fail
  go_loopw [9] (fun y wr => ∃ (k : Nat) (v : Value) (zs : List Int), k ≤ n ∧ y = .int .i64 k ∧ zs.length = k ∧ NB w b O p a n c wr ∧ RdP wr b (P + 10 + k) ∧ wr.heap[O]? = some (.cells #[.int .i64 W, .int .i64 H, v] 25 (0, 0)) ∧ wr.ownsRow (O + 1) 3 1 v k (zs.map (Value.int .i64))) (fun y _ => n - (intOf y).toNat)
  case atStart => exact ⟨0, _, [], by omega, rfl, rfl, D6, r6.mono (by omega), B6, World.ownsRow_nil _ _ _ _⟩
  case round =>
   obtain ⟨k, v, zs, hk, rfl, hl7, D7, r7, B7, o7⟩ := hrel
   clear D6 r6 B6
   have HL := Lib.hid hl7
   clear hl7
   obtain ⟨a2, c2, rfl⟩ := owns_form o7
   obtain ⟨-, k0, k1, k2, -⟩ := bx3 D7.pbx
   rw [HW.out] at k0
   rw [HH.out] at k1
   by_cases hlt : k < n
   ·have hdk : decide (k < n) = true := by simpa using hlt
    go_wp2_with fail
    obtain ⟨HI, hHI⟩ : ∃ HI, HI = wr.heap.size := ⟨_, rfl⟩
    have hHI2 : HI ≤ wr.heap.size := by omega
    have hOH : O + 1 ≤ HI := by have := lt_of_block B7; omega
    have hvl : ∀ q, (Value.slice a2 k c2).ownBlock = some q → q < HI := fun q hq => by rw [hHI]; exact (o7.lt q hq).2
    clear hHI
    have hext : ∀ (i : Nat) (own : Value) (ys : Nat → Value) (wa wb : World), wa.grownBy wb (some b) → (match i with | 0 => own = .pointer (some ⟨O, 2, none⟩) | 1 => own = .slice a2 k c2 | 2 => own = .agg #[.int .i64 p.w, .int .i64 p.h, .slice a n c] | 3 => own = .int .i64 k | 4 => own = .pointer (some ⟨w.heap.size, 0, none⟩) | 5 => own = .int .i64 W | 6 => ∃ x : Int, own = .int .i64 x ∧ 0 ≤ x ∧ x ≤ 1023 | 7 => own = .int .i64 (dx - 3) | 8 => ∃ x : Int, own = .int .i64 x ∧ -3 ≤ x ∧ x ≤ 1026 | 9 => own = .int .i64 k | 10 => own = .pointer (some ⟨w.heap.size, 0, none⟩) | 11 => own = .int .i64 W | 12 => ∃ x : Int, own = .int .i64 x ∧ 0 ≤ x ∧ x ≤ 1023 | 13 => own = .int .i64 (dy - 3) | 14 => ∃ x : Int, own = .int .i64 x ∧ -3 ≤ x ∧ x ≤ 1026 | 15 => ∃ x : Int, own = .int .i64 x ∧ 0 ≤ x ∧ x ≤ 255 | 16 => own = .pointer (some ⟨b, 0, none⟩) | 17 => own = .int .i64 nz | 18 => ∃ x : Int, own = .int .i64 x ∧ 0 ≤ x ∧ x ≤ 40 | 19 => ∃ x : Int, own = .int .i64 x ∧ 0 ≤ x ∧ x ≤ 300 | 20 => ∃ x : Int, own = .int .i64 x ∧ 0 ≤ x ∧ x ≤ 255 | 21 => ∃ x : Int, own = .int .i64 x ∧ 0 ≤ x ∧ x ≤ 255 | 22 => ∃ (q : Nat) (z : Int), own = .slice (some ⟨q, 0, none⟩) 1 1 ∧ wa.ownsRow HI 3 1 (.slice (some ⟨q, 0, none⟩) 1 1) 1 [.int .i64 z] | 23 => ∃ (a3 : Option Addr) (c3 : Nat) (z : Int), own = .slice a3 (k + 1) c3 ∧ wa.ownsRow (O + 1) 3 1 (.slice a3 (k + 1) c3) (k + 1) ((zs ++ [z]).map (Value.int .i64)) | 24 => own = .pointer (some ⟨O, 2, none⟩) | 25 => ∃ (a3 : Option Addr) (c3 : Nat) (z : Int), wa.heap[O]? = some (.cells #[.int .i64 W, .int .i64 H, .slice a3 (k + 1) c3] 25 (0, 0)) ∧ wa.ownsRow (O + 1) 3 1 (.slice a3 (k + 1) c3) (k + 1) ((zs ++ [z]).map (Value.int .i64)) | _ => True) → (match i with | 0 => own = .pointer (some ⟨O, 2, none⟩) | 1 => own = .slice a2 k c2 | 2 => own = .agg #[.int .i64 p.w, .int .i64 p.h, .slice a n c] | 3 => own = .int .i64 k | 4 => own = .pointer (some ⟨w.heap.size, 0, none⟩) | 5 => own = .int .i64 W | 6 => ∃ x : Int, own = .int .i64 x ∧ 0 ≤ x ∧ x ≤ 1023 | 7 => own = .int .i64 (dx - 3) | 8 => ∃ x : Int, own = .int .i64 x ∧ -3 ≤ x ∧ x ≤ 1026 | 9 => own = .int .i64 k | 10 => own = .pointer (some ⟨w.heap.size, 0, none⟩) | 11 => own = .int .i64 W | 12 => ∃ x : Int, own = .int .i64 x ∧ 0 ≤ x ∧ x ≤ 1023 | 13 => own = .int .i64 (dy - 3) | 14 => ∃ x : Int, own = .int .i64 x ∧ -3 ≤ x ∧ x ≤ 1026 | 15 => ∃ x : Int, own = .int .i64 x ∧ 0 ≤ x ∧ x ≤ 255 | 16 => own = .pointer (some ⟨b, 0, none⟩) | 17 => own = .int .i64 nz | 18 => ∃ x : Int, own = .int .i64 x ∧ 0 ≤ x ∧ x ≤ 40 | 19 => ∃ x : Int, own = .int .i64 x ∧ 0 ≤ x ∧ x ≤ 300 | 20 => ∃ x : Int, own = .int .i64 x ∧ 0 ≤ x ∧ x ≤ 255 | 21 => ∃ x : Int, own = .int .i64 x ∧ 0 ≤ x ∧ x ≤ 255 | 22 => ∃ (q : Nat) (z : Int), own = .slice (some ⟨q, 0, none⟩) 1 1 ∧ wb.ownsRow HI 3 1 (.slice (some ⟨q, 0, none⟩) 1 1) 1 [.int .i64 z] | 23 => ∃ (a3 : Option Addr) (c3 : Nat) (z : Int), own = .slice a3 (k + 1) c3 ∧ wb.ownsRow (O + 1) 3 1 (.slice a3 (k + 1) c3) (k + 1) ((zs ++ [z]).map (Value.int .i64)) | 24 => own = .pointer (some ⟨O, 2, none⟩) | 25 => ∃ (a3 : Option Addr) (c3 : Nat) (z : Int), wb.heap[O]? = some (.cells #[.int .i64 W, .int .i64 H, .slice a3 (k + 1) c3] 25 (0, 0)) ∧ wb.ownsRow (O + 1) 3 1 (.slice a3 (k + 1) c3) (k + 1) ((zs ++ [z]).map (Value.int .i64)) | _ => True) := by
     intro i own ys wa wb e h
     match i, h with
     | 0, h => exact h
     | 1, h => exact h
     | 2, h => exact h
     | 3, h => exact h
     | 4, h => exact h
     | 5, h => exact h
     | 6, h => exact h
     | 7, h => exact h
     | 8, h => exact h
     | 9, h => exact h
     | 10, h => exact h
     | 11, h => exact h
     | 12, h => exact h
     | 13, h => exact h
     | 14, h => exact h
     | 15, h => exact h
     | 16, h => exact h
     | 17, h => exact h
     | 18, h => exact h
     | 19, h => exact h
     | 20, h => exact h
     | 21, h => exact h
     | 22, h => obtain ⟨q9, z9, h1, h2⟩ := h; exact ⟨q9, z9, h1, own_gr h2 e (by omega)⟩
     | 23, h => obtain ⟨a9, c9, z9, h1, h2⟩ := h; exact ⟨a9, c9, z9, h1, own_gr h2 e (by omega)⟩
     | 24, h => exact h
     | 25, h => obtain ⟨a9, c9, z9, h1, h2⟩ := h; exact ⟨a9, c9, z9, blk_gr h1 e (by simp; omega), own_gr h2 e (by omega)⟩
     | _ + 26, _ => trivial
    have Hext := Lib.hid hext
    clear hext
    refine wp_region_invL (by kernel_rfl) [(38, 0), (39, 1), (40, 2), (41, 3), (42, 4), (43, 5), (44, 6), (45, 7), (46, 8), (47, 9), (48, 10), (49, 11), (50, 12), (51, 13), (52, 14), (53, 15), (54, 16), (55, 17), (56, 18), (57, 19), (58, 20), (59, 21), (60, 22), (61, 23), (62, 24)] [[], [0], [], [], [], [4], [3, 4, 5], [], [3, 4, 5, 6, 7], [], [], [10], [9, 10, 11], [], [9, 10, 11, 12, 13], [2, 3, 4, 5, 6, 7, 8, 9, 10, 11, 12, 13, 14], [], [], [2, 3, 4, 5, 6, 7, 8, 9, 10, 11, 12, 13, 14, 15, 16, 17], [2, 3, 4, 5, 6, 7, 8, 9, 10, 11, 12, 13, 14, 15, 16, 17, 18], [2, 3, 4, 5, 6, 7, 8, 9, 10, 11, 12, 13, 14, 15, 16, 17, 18, 19], [2, 3, 4, 5, 6, 7, 8, 9, 10, 11, 12, 13, 14, 15, 16, 17, 18, 19, 20], [2, 3, 4, 5, 6, 7, 8, 9, 10, 11, 12, 13, 14, 15, 16, 17, 18, 19, 20, 21], [0, 1, 2, 3, 4, 5, 6, 7, 8, 9, 10, 11, 12, 13, 14, 15, 16, 17, 18, 19, 20, 21, 22], [0, 1, 2, 3, 4, 5, 6, 7, 8, 9, 10, 11, 12, 13, 14, 15, 16, 17, 18, 19, 20, 21, 22, 23], [0, 1, 2, 3, 4, 5, 6, 7, 8, 9, 10, 11, 12, 13, 14, 15, 16, 17, 18, 19, 20, 21, 22, 23, 24]] (fun i own ys wx => match i with | 0 => own = .pointer (some ⟨O, 2, none⟩) | 1 => own = .slice a2 k c2 | 2 => own = .agg #[.int .i64 p.w, .int .i64 p.h, .slice a n c] | 3 => own = .int .i64 k | 4 => own = .pointer (some ⟨w.heap.size, 0, none⟩) | 5 => own = .int .i64 W | 6 => ∃ x : Int, own = .int .i64 x ∧ 0 ≤ x ∧ x ≤ 1023 | 7 => own = .int .i64 (dx - 3) | 8 => ∃ x : Int, own = .int .i64 x ∧ -3 ≤ x ∧ x ≤ 1026 | 9 => own = .int .i64 k | 10 => own = .pointer (some ⟨w.heap.size, 0, none⟩) | 11 => own = .int .i64 W | 12 => ∃ x : Int, own = .int .i64 x ∧ 0 ≤ x ∧ x ≤ 1023 | 13 => own = .int .i64 (dy - 3) | 14 => ∃ x : Int, own = .int .i64 x ∧ -3 ≤ x ∧ x ≤ 1026 | 15 => ∃ x : Int, own = .int .i64 x ∧ 0 ≤ x ∧ x ≤ 255 | 16 => own = .pointer (some ⟨b, 0, none⟩) | 17 => own = .int .i64 nz | 18 => ∃ x : Int, own = .int .i64 x ∧ 0 ≤ x ∧ x ≤ 40 | 19 => ∃ x : Int, own = .int .i64 x ∧ 0 ≤ x ∧ x ≤ 300 | 20 => ∃ x : Int, own = .int .i64 x ∧ 0 ≤ x ∧ x ≤ 255 | 21 => ∃ x : Int, own = .int .i64 x ∧ 0 ≤ x ∧ x ≤ 255 | 22 => ∃ (q : Nat) (z : Int), own = .slice (some ⟨q, 0, none⟩) 1 1 ∧ wx.ownsRow HI 3 1 (.slice (some ⟨q, 0, none⟩) 1 1) 1 [.int .i64 z] | 23 => ∃ (a3 : Option Addr) (c3 : Nat) (z : Int), own = .slice a3 (k + 1) c3 ∧ wx.ownsRow (O + 1) 3 1 (.slice a3 (k + 1) c3) (k + 1) ((zs ++ [z]).map (Value.int .i64)) | 24 => own = .pointer (some ⟨O, 2, none⟩) | 25 => ∃ (a3 : Option Addr) (c3 : Nat) (z : Int), wx.heap[O]? = some (.cells #[.int .i64 W, .int .i64 H, .slice a3 (k + 1) c3] 25 (0, 0)) ∧ wx.ownsRow (O + 1) 3 1 (.slice a3 (k + 1) c3) (k + 1) ((zs ++ [z]).map (Value.int .i64)) | _ => True) (fun Lx wx => NX w b O HI p a n c W H (P + 10 + k) a2 k c2 zs (Lx 18) (Lx 25) wx) (by kernel_rfl) (by kernel_rfl) (by kernel_rfl) ?g0_r1 ?gop_r1 ?gend_r1
    case g0_r1 => exact ⟨D7.grb (ext_gr (Ext.drewN _ 1)), r7.drew.mono (by omega), fun _ => r7.drew, ⟨_, B7, fun _ => rfl⟩, o7, hHI2⟩
    case gop_r1 =>
     refine ⟨?_, ?_, ?_, ?_, ?_, ?_, ?_, ?_, ?_, ?_, ?_, ?_, ?_, ?_, ?_, ?_, ?_, ?_, ?_, ?_, ?_, ?_, ?_, ?_, ?_, ?_, trivial⟩
     ·intro Lx xs wx hG hl ha hb hD hI Qo Kx hK hQo
      have l25 : Lx 25 = false := hb 25 rfl
      clear hl ha hb hD hI
      simp only [patchS, Nat.reduceAdd, Nat.reduceEqDiff, ↓reduceIte] at hQo ⊢
      go_wp2
      exact hK.out _ _ ⟨rfl, hG.step, fun _ _ _ _ _ _ h => h⟩
     ·intro Lx xs wx hG hl ha hb hD hI Qo Kx hK hQo
      have l25 : Lx 25 = false := hb 25 rfl
      clear hl ha hb
      have d0 : (xs 0) = .pointer (some ⟨O, 2, none⟩) := hD 0 rfl
      clear hD hI
      simp only [patchS, Nat.reduceAdd, Nat.reduceEqDiff, ↓reduceIte] at hQo ⊢
      generalize xs 0 = y0 at *
      subst d0
      obtain ⟨z, g1, g2⟩ := hG.2.2.2.1
      obtain rfl := g2 l25
      obtain ⟨-, k0, k1, k2, -⟩ := bx3 g1
      go_wp2
      exact hK.out _ _ ⟨rfl, hG.step, fun _ _ _ _ _ _ h => h⟩
     ·intro Lx xs wx hG hl ha hb hD hI Qo Kx hK hQo
      have l18 : Lx 18 = false := hb 18 rfl
      have l25 : Lx 25 = false := hb 25 rfl
      clear hl ha hb hD hI
      simp only [patchS, Nat.reduceAdd, Nat.reduceEqDiff, ↓reduceIte] at hQo ⊢
      obtain ⟨-, k0, k1, k2, -⟩ := bx3 hG.1.pbx
      go_wp2
      exact hK.out _ _ ⟨rfl, hG.step, fun _ _ _ _ _ _ h => h⟩
     ·intro Lx xs wx hG hl ha hb hD hI Qo Kx hK hQo
      have l18 : Lx 18 = false := hb 18 rfl
      have l25 : Lx 25 = false := hb 25 rfl
      clear hl ha hb hD hI
      simp only [patchS, Nat.reduceAdd, Nat.reduceEqDiff, ↓reduceIte] at hQo ⊢
      go_wp2
      exact hK.out _ _ ⟨rfl, hG.step, fun _ _ _ _ _ _ h => h⟩
     ·intro Lx xs wx hG hl ha hb hD hI Qo Kx hK hQo
      have l18 : Lx 18 = false := hb 18 rfl
      have l25 : Lx 25 = false := hb 25 rfl
      clear hl ha hb hD hI
      simp only [patchS, Nat.reduceAdd, Nat.reduceEqDiff, ↓reduceIte] at hQo ⊢
      go_wp2
      exact hK.out _ _ ⟨rfl, hG.step, fun _ _ _ _ _ _ h => h⟩
     ·intro Lx xs wx hG hl ha hb hD hI Qo Kx hK hQo
      have l18 : Lx 18 = false := hb 18 rfl
      have l25 : Lx 25 = false := hb 25 rfl
      clear hl ha hb
      have d4 : (xs 4) = .pointer (some ⟨w.heap.size, 0, none⟩) := hD 4 rfl
      clear hD hI
      simp only [patchS, Nat.reduceAdd, Nat.reduceEqDiff, ↓reduceIte] at hQo ⊢
      generalize xs 4 = y4 at *
      subst d4
      obtain ⟨-, k0, k1, k2, -⟩ := bx3 hG.1.pbx
      rw [HW.out] at k0
      go_wp2
      exact hK.out _ _ ⟨rfl, hG.step, fun _ _ _ _ _ _ h => h⟩
     ·intro Lx xs wx hG hl ha hb hD hI Qo Kx hK hQo
      have l18 : Lx 18 = false := hb 18 rfl
      have l25 : Lx 25 = false := hb 25 rfl
      clear hl ha hb
      have d3 : (xs 3) = .int .i64 k := hD 3 rfl
      have d5 : (xs 5) = .int .i64 W := hD 5 rfl
      clear hD hI
      simp only [patchS, Nat.reduceAdd, Nat.reduceEqDiff, ↓reduceIte] at hQo ⊢
      generalize xs 3 = y3 at *
      generalize xs 5 = y5 at *
      subst d3 d5
      obtain ⟨hm1, hm2, hm3⟩ := mod_rng (a := (k : Int)) (b := (W : Int)) (by omega) (by omega)
      go_wp2
      exact hK.out _ _ ⟨⟨_, rfl, by omega, by omega⟩, hG.step, fun _ _ _ _ _ _ h => h⟩
     ·intro Lx xs wx hG hl ha hb hD hI Qo Kx hK hQo
      have l18 : Lx 18 = false := hb 18 rfl
      have l25 : Lx 25 = false := hb 25 rfl
      clear hl ha hb hD hI
      simp only [patchS, Nat.reduceAdd, Nat.reduceEqDiff, ↓reduceIte] at hQo ⊢
      go_wp2
      exact hK.out _ _ ⟨rfl, hG.step, fun _ _ _ _ _ _ h => h⟩
     ·intro Lx xs wx hG hl ha hb hD hI Qo Kx hK hQo
      have l18 : Lx 18 = false := hb 18 rfl
      have l25 : Lx 25 = false := hb 25 rfl
      clear hl ha hb
      have d6 : ∃ x : Int, (xs 6) = .int .i64 x ∧ 0 ≤ x ∧ x ≤ 1023 := hD 6 rfl
      have d7 : (xs 7) = .int .i64 (dx - 3) := hD 7 rfl
      clear hD hI
      simp only [patchS, Nat.reduceAdd, Nat.reduceEqDiff, ↓reduceIte] at hQo ⊢
      generalize xs 6 = y6 at *
      generalize xs 7 = y7 at *
      obtain ⟨x6, rfl, x6a, x6b⟩ := d6
      subst d7
      go_wp2
      exact hK.out _ _ ⟨⟨_, rfl, by omega, by omega⟩, hG.step, fun _ _ _ _ _ _ h => h⟩
     ·intro Lx xs wx hG hl ha hb hD hI Qo Kx hK hQo
      have l18 : Lx 18 = false := hb 18 rfl
      have l25 : Lx 25 = false := hb 25 rfl
      clear hl ha hb hD hI
      simp only [patchS, Nat.reduceAdd, Nat.reduceEqDiff, ↓reduceIte] at hQo ⊢
      go_wp2
      exact hK.out _ _ ⟨rfl, hG.step, fun _ _ _ _ _ _ h => h⟩
     ·intro Lx xs wx hG hl ha hb hD hI Qo Kx hK hQo
      have l18 : Lx 18 = false := hb 18 rfl
      have l25 : Lx 25 = false := hb 25 rfl
      clear hl ha hb hD hI
      simp only [patchS, Nat.reduceAdd, Nat.reduceEqDiff, ↓reduceIte] at hQo ⊢
      go_wp2
      exact hK.out _ _ ⟨rfl, hG.step, fun _ _ _ _ _ _ h => h⟩
     ·intro Lx xs wx hG hl ha hb hD hI Qo Kx hK hQo
      have l18 : Lx 18 = false := hb 18 rfl
      have l25 : Lx 25 = false := hb 25 rfl
      clear hl ha hb
      have d10 : (xs 10) = .pointer (some ⟨w.heap.size, 0, none⟩) := hD 10 rfl
      clear hD hI
      simp only [patchS, Nat.reduceAdd, Nat.reduceEqDiff, ↓reduceIte] at hQo ⊢
      generalize xs 10 = y10 at *
      subst d10
      obtain ⟨-, k0, k1, k2, -⟩ := bx3 hG.1.pbx
      rw [HW.out] at k0
      go_wp2
      exact hK.out _ _ ⟨rfl, hG.step, fun _ _ _ _ _ _ h => h⟩
     ·intro Lx xs wx hG hl ha hb hD hI Qo Kx hK hQo
      have l18 : Lx 18 = false := hb 18 rfl
      have l25 : Lx 25 = false := hb 25 rfl
      clear hl ha hb
      have d9 : (xs 9) = .int .i64 k := hD 9 rfl
      have d11 : (xs 11) = .int .i64 W := hD 11 rfl
      clear hD hI
      simp only [patchS, Nat.reduceAdd, Nat.reduceEqDiff, ↓reduceIte] at hQo ⊢
      generalize xs 9 = y9 at *
      generalize xs 11 = y11 at *
      subst d9 d11
      obtain ⟨hm1, hm2⟩ := div_rng (a := (k : Int)) (b := (W : Int)) (by omega) (by omega)
      go_wp2
      exact hK.out _ _ ⟨⟨_, rfl, by omega, by omega⟩, hG.step, fun _ _ _ _ _ _ h => h⟩
     ·intro Lx xs wx hG hl ha hb hD hI Qo Kx hK hQo
      have l18 : Lx 18 = false := hb 18 rfl
      have l25 : Lx 25 = false := hb 25 rfl
      clear hl ha hb hD hI
      simp only [patchS, Nat.reduceAdd, Nat.reduceEqDiff, ↓reduceIte] at hQo ⊢
      go_wp2
      exact hK.out _ _ ⟨rfl, hG.step, fun _ _ _ _ _ _ h => h⟩
     ·intro Lx xs wx hG hl ha hb hD hI Qo Kx hK hQo
      have l18 : Lx 18 = false := hb 18 rfl
      have l25 : Lx 25 = false := hb 25 rfl
      clear hl ha hb
      have d12 : ∃ x : Int, (xs 12) = .int .i64 x ∧ 0 ≤ x ∧ x ≤ 1023 := hD 12 rfl
      have d13 : (xs 13) = .int .i64 (dy - 3) := hD 13 rfl
      clear hD hI
      simp only [patchS, Nat.reduceAdd, Nat.reduceEqDiff, ↓reduceIte] at hQo ⊢
      generalize xs 12 = y12 at *
      generalize xs 13 = y13 at *
      obtain ⟨x12, rfl, x12a, x12b⟩ := d12
      subst d13
      go_wp2
      exact hK.out _ _ ⟨⟨_, rfl, by omega, by omega⟩, hG.step, fun _ _ _ _ _ _ h => h⟩
     ·intro Lx xs wx hG hl ha hb hD hI Qo Kx hK hQo
      have l18 : Lx 18 = false := hb 18 rfl
      have l25 : Lx 25 = false := hb 25 rfl
      clear hl ha hb
      have d2 : (xs 2) = .agg #[.int .i64 p.w, .int .i64 p.h, .slice a n c] := hD 2 rfl
      have d8 : ∃ x : Int, (xs 8) = .int .i64 x ∧ -3 ≤ x ∧ x ≤ 1026 := hD 8 rfl
      have d14 : ∃ x : Int, (xs 14) = .int .i64 x ∧ -3 ≤ x ∧ x ≤ 1026 := hD 14 rfl
      clear hD hI
      simp only [patchS, Nat.reduceAdd, Nat.reduceEqDiff, ↓reduceIte] at hQo ⊢
      generalize xs 2 = y2 at *
      generalize xs 8 = y8 at *
      generalize xs 14 = y14 at *
      subst d2
      obtain ⟨x8, rfl, x8a, x8b⟩ := d8
      obtain ⟨x14, rfl, x14a, x14b⟩ := d14
      go_wp2_with fail
      refine (l1At_any p x8 x14 a c n _ HV.out HN.out (hG.1.sl)).mono ?_
      rintro e wz ⟨rfl, ez⟩
      go_wp2
      have hr := pat_rng HV.out x8 x14
      exact hK.out _ _ ⟨⟨_, rfl, hr.1, hr.2⟩, hG.ext ez, fun i _ _ _ own ys h => Hext.out i own ys _ _ (ext_gr ez) h⟩
     ·intro Lx xs wx hG hl ha hb hD hI Qo Kx hK hQo
      have l18 : Lx 18 = false := hb 18 rfl
      have l25 : Lx 25 = false := hb 25 rfl
      clear hl ha hb hD hI
      simp only [patchS, Nat.reduceAdd, Nat.reduceEqDiff, ↓reduceIte] at hQo ⊢
      go_wp2
      exact hK.out _ _ ⟨rfl, hG.step, fun _ _ _ _ _ _ h => h⟩
     ·intro Lx xs wx hG hl ha hb hD hI Qo Kx hK hQo
      have l18 : Lx 18 = false := hb 18 rfl
      have l25 : Lx 25 = false := hb 25 rfl
      clear hl ha hb hD hI
      simp only [patchS, Nat.reduceAdd, Nat.reduceEqDiff, ↓reduceIte] at hQo ⊢
      go_wp2
      exact hK.out _ _ ⟨rfl, hG.step, fun _ _ _ _ _ _ h => h⟩
     ·intro Lx xs wx hG hl ha hb hD hI Qo Kx hK hQo
      have l18 : Lx 18 = false := hl
      have l25 : Lx 25 = false := hb 25 rfl
      clear hl ha hb
      have d16 : (xs 16) = .pointer (some ⟨b, 0, none⟩) := hD 16 rfl
      have d17 : (xs 17) = .int .i64 nz := hD 17 rfl
      clear hD hI
      simp only [patchS, Nat.reduceAdd, Nat.reduceEqDiff, ↓reduceIte] at hQo ⊢
      generalize xs 16 = y16 at *
      generalize xs 17 = y17 at *
      subst d16 d17
      go_wp2_with fail
      refine (pick_c b _ nz _ (hG.2.2.1 l18) (by omega) (by omega) (by omega)).mono ?_
      rintro e wz ⟨xx, rfl, xa, xb, rd, gr⟩
      go_wp2
      exact hK.out _ _ ⟨⟨xx, rfl, xa, by omega⟩, hG.pick gr rd, fun i _ _ _ own ys h => Hext.out i own ys _ _ gr h⟩
     ·intro Lx xs wx hG hl ha hb hD hI Qo Kx hK hQo
      have l18 : Lx 18 = true := ha 18 rfl
      have l25 : Lx 25 = false := hb 25 rfl
      clear hl ha hb
      have d15 : ∃ x : Int, (xs 15) = .int .i64 x ∧ 0 ≤ x ∧ x ≤ 255 := hD 15 rfl
      have d18 : ∃ x : Int, (xs 18) = .int .i64 x ∧ 0 ≤ x ∧ x ≤ 40 := hD 18 rfl
      clear hD hI
      simp only [patchS, Nat.reduceAdd, Nat.reduceEqDiff, ↓reduceIte] at hQo ⊢
      generalize xs 15 = y15 at *
      generalize xs 18 = y18 at *
      obtain ⟨x15, rfl, x15a, x15b⟩ := d15
      obtain ⟨x18, rfl, x18a, x18b⟩ := d18
      go_wp2
      exact hK.out _ _ ⟨⟨_, rfl, by omega, by omega⟩, hG.step, fun _ _ _ _ _ _ h => h⟩
     ·intro Lx xs wx hG hl ha hb hD hI Qo Kx hK hQo
      have l18 : Lx 18 = true := ha 18 rfl
      have l25 : Lx 25 = false := hb 25 rfl
      clear hl ha hb
      have d19 : ∃ x : Int, (xs 19) = .int .i64 x ∧ 0 ≤ x ∧ x ≤ 300 := hD 19 rfl
      clear hD hI
      simp only [patchS, Nat.reduceAdd, Nat.reduceEqDiff, ↓reduceIte] at hQo ⊢
      generalize xs 19 = y19 at *
      obtain ⟨x19, rfl, x19a, x19b⟩ := d19
      go_wp2
      ·exact hK.out _ _ ⟨⟨_, rfl, by omega, by omega⟩, hG, fun _ _ _ _ _ _ h => h⟩
      ·exact hK.out _ _ ⟨⟨_, rfl, by omega, by omega⟩, hG, fun _ _ _ _ _ _ h => h⟩
     ·intro Lx xs wx hG hl ha hb hD hI Qo Kx hK hQo
      have l18 : Lx 18 = true := ha 18 rfl
      have l25 : Lx 25 = false := hb 25 rfl
      clear hl ha hb
      have d20 : ∃ x : Int, (xs 20) = .int .i64 x ∧ 0 ≤ x ∧ x ≤ 255 := hD 20 rfl
      clear hD hI
      simp only [patchS, Nat.reduceAdd, Nat.reduceEqDiff, ↓reduceIte] at hQo ⊢
      generalize xs 20 = y20 at *
      obtain ⟨x20, rfl, x20a, x20b⟩ := d20
      go_wp2
      ·exact hK.out _ _ ⟨⟨_, rfl, by omega, by omega⟩, hG, fun _ _ _ _ _ _ h => h⟩
      ·exact hK.out _ _ ⟨⟨_, rfl, by omega, by omega⟩, hG, fun _ _ _ _ _ _ h => h⟩
     ·intro Lx xs wx hG hl ha hb hD hI Qo Kx hK hQo
      have l18 : Lx 18 = true := ha 18 rfl
      have l25 : Lx 25 = false := hb 25 rfl
      clear hl ha hb
      have d21 : ∃ x : Int, (xs 21) = .int .i64 x ∧ 0 ≤ x ∧ x ≤ 255 := hD 21 rfl
      clear hD hI
      simp only [patchS, Nat.reduceAdd, Nat.reduceEqDiff, ↓reduceIte] at hQo ⊢
      generalize xs 21 = y21 at *
      obtain ⟨x21, rfl, x21a, x21b⟩ := d21
      have e8 := Ext.alloc wx (.cells #[.int .i64 x21] 3)
      have o9 := World.ownsRow_lit (base := HI) (e := 3) (size := 1) wx #[.int .i64 x21] 1 hG.2.2.2.2.2 (by unfold maxLen; omega) rfl
      go_wp2
      exact hK.out _ _ ⟨⟨_, _, rfl, o9⟩, hG.ext e8, fun i _ _ _ own ys h => Hext.out i own ys _ _ (ext_gr e8) h⟩
     ·intro Lx xs wx hG hl ha hb hD hI Qo Kx hK hQo
      have l18 : Lx 18 = true := ha 18 rfl
      have l25 : Lx 25 = false := hb 25 rfl
      clear hl ha hb
      have d1 : (xs 1) = .slice a2 k c2 := hD 1 rfl
      have d22 : ∃ (q : Nat) (z : Int), (xs 22) = .slice (some ⟨q, 0, none⟩) 1 1 ∧ wx.ownsRow HI 3 1 (.slice (some ⟨q, 0, none⟩) 1 1) 1 [.int .i64 z] := hD 22 rfl
      clear hD hI
      simp only [patchS, Nat.reduceAdd, Nat.reduceEqDiff, ↓reduceIte] at hQo ⊢
      generalize xs 1 = y1 at *
      generalize xs 22 = y22 at *
      subst d1
      obtain ⟨q22, z22, rfl, o22⟩ := d22
      refine wpList_appk _ rfl hG.2.2.2.2.1 (Nat.le_trans hOH hG.2.2.2.2.2) _ _ _ rfl (.int .i64 0) 8 Tryd.underlying23 info_int rfl (by decide) rfl ⟨q22, 0, none⟩ 1 1 _ rfl rfl (o22.cells rfl) (by intro u hu; simp at hu; subst hu; rfl) (by omega) (by omega) ?_
      intro v14 w14 own14 gr14 keep14
      obtain ⟨a14, c14, rfl⟩ := owns_form own14
      have hst : ∀ (wy : World), (∀ e' own n' xs', wx.ownsRow HI e' 1 own n' xs' → wy.ownsRow HI e' 1 own n' xs') → ∀ (ii : Nat), ii < 26 → ii ≠ 23 → ([[], [0], [], [], [], [4], [3, 4, 5], [], [3, 4, 5, 6, 7], [], [], [10], [9, 10, 11], [], [9, 10, 11, 12, 13], [2, 3, 4, 5, 6, 7, 8, 9, 10, 11, 12, 13, 14], [], [], [2, 3, 4, 5, 6, 7, 8, 9, 10, 11, 12, 13, 14, 15, 16, 17], [2, 3, 4, 5, 6, 7, 8, 9, 10, 11, 12, 13, 14, 15, 16, 17, 18], [2, 3, 4, 5, 6, 7, 8, 9, 10, 11, 12, 13, 14, 15, 16, 17, 18, 19], [2, 3, 4, 5, 6, 7, 8, 9, 10, 11, 12, 13, 14, 15, 16, 17, 18, 19, 20], [2, 3, 4, 5, 6, 7, 8, 9, 10, 11, 12, 13, 14, 15, 16, 17, 18, 19, 20, 21], [0, 1, 2, 3, 4, 5, 6, 7, 8, 9, 10, 11, 12, 13, 14, 15, 16, 17, 18, 19, 20, 21, 22], [0, 1, 2, 3, 4, 5, 6, 7, 8, 9, 10, 11, 12, 13, 14, 15, 16, 17, 18, 19, 20, 21, 22, 23], [0, 1, 2, 3, 4, 5, 6, 7, 8, 9, 10, 11, 12, 13, 14, 15, 16, 17, 18, 19, 20, 21, 22, 23, 24]].getD ii []).contains 23 = false → ∀ (own : Value) (ys : Nat → Value), (match ii with | 0 => own = .pointer (some ⟨O, 2, none⟩) | 1 => own = .slice a2 k c2 | 2 => own = .agg #[.int .i64 p.w, .int .i64 p.h, .slice a n c] | 3 => own = .int .i64 k | 4 => own = .pointer (some ⟨w.heap.size, 0, none⟩) | 5 => own = .int .i64 W | 6 => ∃ x : Int, own = .int .i64 x ∧ 0 ≤ x ∧ x ≤ 1023 | 7 => own = .int .i64 (dx - 3) | 8 => ∃ x : Int, own = .int .i64 x ∧ -3 ≤ x ∧ x ≤ 1026 | 9 => own = .int .i64 k | 10 => own = .pointer (some ⟨w.heap.size, 0, none⟩) | 11 => own = .int .i64 W | 12 => ∃ x : Int, own = .int .i64 x ∧ 0 ≤ x ∧ x ≤ 1023 | 13 => own = .int .i64 (dy - 3) | 14 => ∃ x : Int, own = .int .i64 x ∧ -3 ≤ x ∧ x ≤ 1026 | 15 => ∃ x : Int, own = .int .i64 x ∧ 0 ≤ x ∧ x ≤ 255 | 16 => own = .pointer (some ⟨b, 0, none⟩) | 17 => own = .int .i64 nz | 18 => ∃ x : Int, own = .int .i64 x ∧ 0 ≤ x ∧ x ≤ 40 | 19 => ∃ x : Int, own = .int .i64 x ∧ 0 ≤ x ∧ x ≤ 300 | 20 => ∃ x : Int, own = .int .i64 x ∧ 0 ≤ x ∧ x ≤ 255 | 21 => ∃ x : Int, own = .int .i64 x ∧ 0 ≤ x ∧ x ≤ 255 | 22 => ∃ (q : Nat) (z : Int), own = .slice (some ⟨q, 0, none⟩) 1 1 ∧ wx.ownsRow HI 3 1 (.slice (some ⟨q, 0, none⟩) 1 1) 1 [.int .i64 z] | 23 => ∃ (a3 : Option Addr) (c3 : Nat) (z : Int), own = .slice a3 (k + 1) c3 ∧ wx.ownsRow (O + 1) 3 1 (.slice a3 (k + 1) c3) (k + 1) ((zs ++ [z]).map (Value.int .i64)) | 24 => own = .pointer (some ⟨O, 2, none⟩) | 25 => ∃ (a3 : Option Addr) (c3 : Nat) (z : Int), wx.heap[O]? = some (.cells #[.int .i64 W, .int .i64 H, .slice a3 (k + 1) c3] 25 (0, 0)) ∧ wx.ownsRow (O + 1) 3 1 (.slice a3 (k + 1) c3) (k + 1) ((zs ++ [z]).map (Value.int .i64)) | _ => True) → (match ii with | 0 => own = .pointer (some ⟨O, 2, none⟩) | 1 => own = .slice a2 k c2 | 2 => own = .agg #[.int .i64 p.w, .int .i64 p.h, .slice a n c] | 3 => own = .int .i64 k | 4 => own = .pointer (some ⟨w.heap.size, 0, none⟩) | 5 => own = .int .i64 W | 6 => ∃ x : Int, own = .int .i64 x ∧ 0 ≤ x ∧ x ≤ 1023 | 7 => own = .int .i64 (dx - 3) | 8 => ∃ x : Int, own = .int .i64 x ∧ -3 ≤ x ∧ x ≤ 1026 | 9 => own = .int .i64 k | 10 => own = .pointer (some ⟨w.heap.size, 0, none⟩) | 11 => own = .int .i64 W | 12 => ∃ x : Int, own = .int .i64 x ∧ 0 ≤ x ∧ x ≤ 1023 | 13 => own = .int .i64 (dy - 3) | 14 => ∃ x : Int, own = .int .i64 x ∧ -3 ≤ x ∧ x ≤ 1026 | 15 => ∃ x : Int, own = .int .i64 x ∧ 0 ≤ x ∧ x ≤ 255 | 16 => own = .pointer (some ⟨b, 0, none⟩) | 17 => own = .int .i64 nz | 18 => ∃ x : Int, own = .int .i64 x ∧ 0 ≤ x ∧ x ≤ 40 | 19 => ∃ x : Int, own = .int .i64 x ∧ 0 ≤ x ∧ x ≤ 300 | 20 => ∃ x : Int, own = .int .i64 x ∧ 0 ≤ x ∧ x ≤ 255 | 21 => ∃ x : Int, own = .int .i64 x ∧ 0 ≤ x ∧ x ≤ 255 | 22 => ∃ (q : Nat) (z : Int), own = .slice (some ⟨q, 0, none⟩) 1 1 ∧ wy.ownsRow HI 3 1 (.slice (some ⟨q, 0, none⟩) 1 1) 1 [.int .i64 z] | 23 => ∃ (a3 : Option Addr) (c3 : Nat) (z : Int), own = .slice a3 (k + 1) c3 ∧ wy.ownsRow (O + 1) 3 1 (.slice a3 (k + 1) c3) (k + 1) ((zs ++ [z]).map (Value.int .i64)) | 24 => own = .pointer (some ⟨O, 2, none⟩) | 25 => ∃ (a3 : Option Addr) (c3 : Nat) (z : Int), wy.heap[O]? = some (.cells #[.int .i64 W, .int .i64 H, .slice a3 (k + 1) c3] 25 (0, 0)) ∧ wy.ownsRow (O + 1) 3 1 (.slice a3 (k + 1) c3) (k + 1) ((zs ++ [z]).map (Value.int .i64)) | _ => True) := by
       intro wy hy ii hii hne hc own ys h
       match ii, h with
       | 0, h => exact h
       | 1, h => exact h
       | 2, h => exact h
       | 3, h => exact h
       | 4, h => exact h
       | 5, h => exact h
       | 6, h => exact h
       | 7, h => exact h
       | 8, h => exact h
       | 9, h => exact h
       | 10, h => exact h
       | 11, h => exact h
       | 12, h => exact h
       | 13, h => exact h
       | 14, h => exact h
       | 15, h => exact h
       | 16, h => exact h
       | 17, h => exact h
       | 18, h => exact h
       | 19, h => exact h
       | 20, h => exact h
       | 21, h => exact h
       | 22, h => obtain ⟨q9, z9, h1, h2⟩ := h; exact ⟨q9, z9, h1, hy _ _ _ _ h2⟩
       | 23, h => exact absurd rfl hne
       | 24, h => exact absurd hc (by decide)
       | 25, h => exact absurd hc (by decide)
       | _ + 26, _ => trivial
      exact hQo _ _ (hK.out _ _ ⟨⟨_, _, z22, rfl, by rw [List.map_append]; exact own14⟩, hG.app gr14 (keep14 _ _ _ _ (Nat.le_refl _) hG.2.2.2.2.1), hst _ (fun _ _ _ _ h => own_hiU h gr14 hvl)⟩)
     ·intro Lx xs wx hG hl ha hb hD hI Qo Kx hK hQo
      have l18 : Lx 18 = true := ha 18 rfl
      have l25 : Lx 25 = false := hb 25 rfl
      clear hl ha hb hD hI
      simp only [patchS, Nat.reduceAdd, Nat.reduceEqDiff, ↓reduceIte] at hQo ⊢
      go_wp2
      exact hK.out _ _ ⟨rfl, hG.step, fun _ _ _ _ _ _ h => h⟩
     ·intro Lx xs wx hG hl ha hb hD hI Qo Kx hK hQo
      have l18 : Lx 18 = true := ha 18 rfl
      have l25 : Lx 25 = false := hl
      clear hl ha hb
      have d23 : ∃ (a3 : Option Addr) (c3 : Nat) (z : Int), (xs 23) = .slice a3 (k + 1) c3 ∧ wx.ownsRow (O + 1) 3 1 (.slice a3 (k + 1) c3) (k + 1) ((zs ++ [z]).map (Value.int .i64)) := hD 23 rfl
      have d24 : (xs 24) = .pointer (some ⟨O, 2, none⟩) := hD 24 rfl
      clear hD hI
      simp only [patchS, Nat.reduceAdd, Nat.reduceEqDiff, ↓reduceIte] at hQo ⊢
      generalize xs 23 = y23 at *
      generalize xs 24 = y24 at *
      obtain ⟨a23, c23, z23, rfl, o23⟩ := d23
      subst d24
      obtain ⟨z, g1, g2⟩ := hG.2.2.2.1
      obtain rfl := g2 l25
      obtain ⟨-, k0, k1, k2, f0, f1, f2⟩ := bx3 g1
      go_wp2
      have hst : ∀ (wy : World), wx.grownBy wy (some O) → ∀ (ii : Nat), ii < 26 → ii ≠ 25 → ([[], [0], [], [], [], [4], [3, 4, 5], [], [3, 4, 5, 6, 7], [], [], [10], [9, 10, 11], [], [9, 10, 11, 12, 13], [2, 3, 4, 5, 6, 7, 8, 9, 10, 11, 12, 13, 14], [], [], [2, 3, 4, 5, 6, 7, 8, 9, 10, 11, 12, 13, 14, 15, 16, 17], [2, 3, 4, 5, 6, 7, 8, 9, 10, 11, 12, 13, 14, 15, 16, 17, 18], [2, 3, 4, 5, 6, 7, 8, 9, 10, 11, 12, 13, 14, 15, 16, 17, 18, 19], [2, 3, 4, 5, 6, 7, 8, 9, 10, 11, 12, 13, 14, 15, 16, 17, 18, 19, 20], [2, 3, 4, 5, 6, 7, 8, 9, 10, 11, 12, 13, 14, 15, 16, 17, 18, 19, 20, 21], [0, 1, 2, 3, 4, 5, 6, 7, 8, 9, 10, 11, 12, 13, 14, 15, 16, 17, 18, 19, 20, 21, 22], [0, 1, 2, 3, 4, 5, 6, 7, 8, 9, 10, 11, 12, 13, 14, 15, 16, 17, 18, 19, 20, 21, 22, 23], [0, 1, 2, 3, 4, 5, 6, 7, 8, 9, 10, 11, 12, 13, 14, 15, 16, 17, 18, 19, 20, 21, 22, 23, 24]].getD ii []).contains 25 = false → ∀ (own : Value) (ys : Nat → Value), (match ii with | 0 => own = .pointer (some ⟨O, 2, none⟩) | 1 => own = .slice a2 k c2 | 2 => own = .agg #[.int .i64 p.w, .int .i64 p.h, .slice a n c] | 3 => own = .int .i64 k | 4 => own = .pointer (some ⟨w.heap.size, 0, none⟩) | 5 => own = .int .i64 W | 6 => ∃ x : Int, own = .int .i64 x ∧ 0 ≤ x ∧ x ≤ 1023 | 7 => own = .int .i64 (dx - 3) | 8 => ∃ x : Int, own = .int .i64 x ∧ -3 ≤ x ∧ x ≤ 1026 | 9 => own = .int .i64 k | 10 => own = .pointer (some ⟨w.heap.size, 0, none⟩) | 11 => own = .int .i64 W | 12 => ∃ x : Int, own = .int .i64 x ∧ 0 ≤ x ∧ x ≤ 1023 | 13 => own = .int .i64 (dy - 3) | 14 => ∃ x : Int, own = .int .i64 x ∧ -3 ≤ x ∧ x ≤ 1026 | 15 => ∃ x : Int, own = .int .i64 x ∧ 0 ≤ x ∧ x ≤ 255 | 16 => own = .pointer (some ⟨b, 0, none⟩) | 17 => own = .int .i64 nz | 18 => ∃ x : Int, own = .int .i64 x ∧ 0 ≤ x ∧ x ≤ 40 | 19 => ∃ x : Int, own = .int .i64 x ∧ 0 ≤ x ∧ x ≤ 300 | 20 => ∃ x : Int, own = .int .i64 x ∧ 0 ≤ x ∧ x ≤ 255 | 21 => ∃ x : Int, own = .int .i64 x ∧ 0 ≤ x ∧ x ≤ 255 | 22 => ∃ (q : Nat) (z : Int), own = .slice (some ⟨q, 0, none⟩) 1 1 ∧ wx.ownsRow HI 3 1 (.slice (some ⟨q, 0, none⟩) 1 1) 1 [.int .i64 z] | 23 => ∃ (a3 : Option Addr) (c3 : Nat) (z : Int), own = .slice a3 (k + 1) c3 ∧ wx.ownsRow (O + 1) 3 1 (.slice a3 (k + 1) c3) (k + 1) ((zs ++ [z]).map (Value.int .i64)) | 24 => own = .pointer (some ⟨O, 2, none⟩) | 25 => ∃ (a3 : Option Addr) (c3 : Nat) (z : Int), wx.heap[O]? = some (.cells #[.int .i64 W, .int .i64 H, .slice a3 (k + 1) c3] 25 (0, 0)) ∧ wx.ownsRow (O + 1) 3 1 (.slice a3 (k + 1) c3) (k + 1) ((zs ++ [z]).map (Value.int .i64)) | _ => True) → (match ii with | 0 => own = .pointer (some ⟨O, 2, none⟩) | 1 => own = .slice a2 k c2 | 2 => own = .agg #[.int .i64 p.w, .int .i64 p.h, .slice a n c] | 3 => own = .int .i64 k | 4 => own = .pointer (some ⟨w.heap.size, 0, none⟩) | 5 => own = .int .i64 W | 6 => ∃ x : Int, own = .int .i64 x ∧ 0 ≤ x ∧ x ≤ 1023 | 7 => own = .int .i64 (dx - 3) | 8 => ∃ x : Int, own = .int .i64 x ∧ -3 ≤ x ∧ x ≤ 1026 | 9 => own = .int .i64 k | 10 => own = .pointer (some ⟨w.heap.size, 0, none⟩) | 11 => own = .int .i64 W | 12 => ∃ x : Int, own = .int .i64 x ∧ 0 ≤ x ∧ x ≤ 1023 | 13 => own = .int .i64 (dy - 3) | 14 => ∃ x : Int, own = .int .i64 x ∧ -3 ≤ x ∧ x ≤ 1026 | 15 => ∃ x : Int, own = .int .i64 x ∧ 0 ≤ x ∧ x ≤ 255 | 16 => own = .pointer (some ⟨b, 0, none⟩) | 17 => own = .int .i64 nz | 18 => ∃ x : Int, own = .int .i64 x ∧ 0 ≤ x ∧ x ≤ 40 | 19 => ∃ x : Int, own = .int .i64 x ∧ 0 ≤ x ∧ x ≤ 300 | 20 => ∃ x : Int, own = .int .i64 x ∧ 0 ≤ x ∧ x ≤ 255 | 21 => ∃ x : Int, own = .int .i64 x ∧ 0 ≤ x ∧ x ≤ 255 | 22 => ∃ (q : Nat) (z : Int), own = .slice (some ⟨q, 0, none⟩) 1 1 ∧ wy.ownsRow HI 3 1 (.slice (some ⟨q, 0, none⟩) 1 1) 1 [.int .i64 z] | 23 => ∃ (a3 : Option Addr) (c3 : Nat) (z : Int), own = .slice a3 (k + 1) c3 ∧ wy.ownsRow (O + 1) 3 1 (.slice a3 (k + 1) c3) (k + 1) ((zs ++ [z]).map (Value.int .i64)) | 24 => own = .pointer (some ⟨O, 2, none⟩) | 25 => ∃ (a3 : Option Addr) (c3 : Nat) (z : Int), wy.heap[O]? = some (.cells #[.int .i64 W, .int .i64 H, .slice a3 (k + 1) c3] 25 (0, 0)) ∧ wy.ownsRow (O + 1) 3 1 (.slice a3 (k + 1) c3) (k + 1) ((zs ++ [z]).map (Value.int .i64)) | _ => True) := by
       intro wy hy ii hii hne hc own ys h
       match ii, h with
       | 0, h => exact h
       | 1, h => exact h
       | 2, h => exact h
       | 3, h => exact h
       | 4, h => exact h
       | 5, h => exact h
       | 6, h => exact h
       | 7, h => exact h
       | 8, h => exact h
       | 9, h => exact h
       | 10, h => exact h
       | 11, h => exact h
       | 12, h => exact h
       | 13, h => exact h
       | 14, h => exact h
       | 15, h => exact h
       | 16, h => exact h
       | 17, h => exact h
       | 18, h => exact h
       | 19, h => exact h
       | 20, h => exact h
       | 21, h => exact h
       | 22, h => obtain ⟨q9, z9, h1, h2⟩ := h; exact ⟨q9, z9, h1, own_gr h2 hy (by omega)⟩
       | 23, h => obtain ⟨a9, c9, z9, h1, h2⟩ := h; exact ⟨a9, c9, z9, h1, own_gr h2 hy (by omega)⟩
       | 24, h => exact h
       | 25, h => exact absurd rfl hne
       | _ + 26, _ => trivial
      have hb := heap_setCell_same wx O 2 _ _ (.slice a23 (k + 1) c23) g1
      have gB := gr_set wx O 2 (.slice a23 (k + 1) c23)
      have hb2 : (wx.setCell ⟨O, 2, none⟩ (.slice a23 (k + 1) c23)).heap[O]? = some (.cells #[.int .i64 W, .int .i64 H, .slice a23 (k + 1) c23] 25 (0, 0)) := by simpa using hb
      exact hQo undef _ (hK.out _ _ ⟨⟨a23, c23, z23, hb2, own_gr o23 gB (by omega)⟩, hG.put gB hb2, hst _ gB⟩)
    clear Hext
    intro xs wx hV hG0
    obtain ⟨Lx, hL, hG⟩ := hG0
    have l18 : Lx 18 = true := hL 18 (by decide)
    have l25 : Lx 25 = true := hL 25 (by decide)
    clear hL
    have d0 : (xs 0) = .pointer (some ⟨O, 2, none⟩) := hV 0 (by decide)
    have d1 : (xs 1) = .slice a2 k c2 := hV 1 (by decide)
    have d2 : (xs 2) = .agg #[.int .i64 p.w, .int .i64 p.h, .slice a n c] := hV 2 (by decide)
    have d3 : (xs 3) = .int .i64 k := hV 3 (by decide)
    have d4 : (xs 4) = .pointer (some ⟨w.heap.size, 0, none⟩) := hV 4 (by decide)
    have d5 : (xs 5) = .int .i64 W := hV 5 (by decide)
    have d6 : ∃ x : Int, (xs 6) = .int .i64 x ∧ 0 ≤ x ∧ x ≤ 1023 := hV 6 (by decide)
    have d7 : (xs 7) = .int .i64 (dx - 3) := hV 7 (by decide)
    have d8 : ∃ x : Int, (xs 8) = .int .i64 x ∧ -3 ≤ x ∧ x ≤ 1026 := hV 8 (by decide)
    have d9 : (xs 9) = .int .i64 k := hV 9 (by decide)
    have d10 : (xs 10) = .pointer (some ⟨w.heap.size, 0, none⟩) := hV 10 (by decide)
    have d11 : (xs 11) = .int .i64 W := hV 11 (by decide)
    have d12 : ∃ x : Int, (xs 12) = .int .i64 x ∧ 0 ≤ x ∧ x ≤ 1023 := hV 12 (by decide)
    have d13 : (xs 13) = .int .i64 (dy - 3) := hV 13 (by decide)
    have d14 : ∃ x : Int, (xs 14) = .int .i64 x ∧ -3 ≤ x ∧ x ≤ 1026 := hV 14 (by decide)
    have d15 : ∃ x : Int, (xs 15) = .int .i64 x ∧ 0 ≤ x ∧ x ≤ 255 := hV 15 (by decide)
    have d16 : (xs 16) = .pointer (some ⟨b, 0, none⟩) := hV 16 (by decide)
    have d17 : (xs 17) = .int .i64 nz := hV 17 (by decide)
    have d18 : ∃ x : Int, (xs 18) = .int .i64 x ∧ 0 ≤ x ∧ x ≤ 40 := hV 18 (by decide)
    have d19 : ∃ x : Int, (xs 19) = .int .i64 x ∧ 0 ≤ x ∧ x ≤ 300 := hV 19 (by decide)
    have d20 : ∃ x : Int, (xs 20) = .int .i64 x ∧ 0 ≤ x ∧ x ≤ 255 := hV 20 (by decide)
    have d21 : ∃ x : Int, (xs 21) = .int .i64 x ∧ 0 ≤ x ∧ x ≤ 255 := hV 21 (by decide)
    have d22 : ∃ (q : Nat) (z : Int), (xs 22) = .slice (some ⟨q, 0, none⟩) 1 1 ∧ wx.ownsRow HI 3 1 (.slice (some ⟨q, 0, none⟩) 1 1) 1 [.int .i64 z] := hV 22 (by decide)
    have d23 : ∃ (a3 : Option Addr) (c3 : Nat) (z : Int), (xs 23) = .slice a3 (k + 1) c3 ∧ wx.ownsRow (O + 1) 3 1 (.slice a3 (k + 1) c3) (k + 1) ((zs ++ [z]).map (Value.int .i64)) := hV 23 (by decide)
    have d24 : (xs 24) = .pointer (some ⟨O, 2, none⟩) := hV 24 (by decide)
    have d25 : ∃ (a3 : Option Addr) (c3 : Nat) (z : Int), wx.heap[O]? = some (.cells #[.int .i64 W, .int .i64 H, .slice a3 (k + 1) c3] 25 (0, 0)) ∧ wx.ownsRow (O + 1) 3 1 (.slice a3 (k + 1) c3) (k + 1) ((zs ++ [z]).map (Value.int .i64)) := hV 25 (by decide)
    clear hV
    simp only [patchS, Nat.reduceAdd, Nat.reduceEqDiff, ↓reduceIte]
    generalize xs 0 = y0 at *
    generalize xs 1 = y1 at *
    generalize xs 2 = y2 at *
    generalize xs 3 = y3 at *
    generalize xs 4 = y4 at *
    generalize xs 5 = y5 at *
    generalize xs 6 = y6 at *
    generalize xs 7 = y7 at *
    generalize xs 8 = y8 at *
    generalize xs 9 = y9 at *
    generalize xs 10 = y10 at *
    generalize xs 11 = y11 at *
    generalize xs 12 = y12 at *
    generalize xs 13 = y13 at *
    generalize xs 14 = y14 at *
    generalize xs 15 = y15 at *
    generalize xs 16 = y16 at *
    generalize xs 17 = y17 at *
    generalize xs 18 = y18 at *
    generalize xs 19 = y19 at *
    generalize xs 20 = y20 at *
    generalize xs 21 = y21 at *
    generalize xs 22 = y22 at *
    generalize xs 23 = y23 at *
    generalize xs 24 = y24 at *
    generalize xs 25 = y25 at *
    replace hG : NX w b O HI p a n c W H (P + 10 + k) a2 k c2 zs (Lx 18) (Lx 25) wx := hG
    clear d0 d1 d2 d3 d4 d5 d6 d7 d8 d9 d10 d11 d12 d13 d14 d15 d16 d17 d18 d19 d20 d21 d22 d23 d24
    obtain ⟨a25, c25, z25, b25, o25⟩ := d25
    have HD := Lib.hid hG.1
    have HR := Lib.hid hG.2.1
    clear hG D7 r7 B7 o7
    have HB := Lib.hid b25
    have HO := Lib.hid o25
    clear b25 o25
    go_wp2
    go_roundw
    case rel => exact ⟨k + 1, _, zs ++ [z25], by omega, by go_num, by rw [List.length_append, HL.out]; rfl, HD.out, HR.out.mono (by omega), HB.out, HO.out⟩
    case measure => simp [intOf]; omega
   ·obtain rfl : n = k := by omega
    have hdk : decide (n < n) = false := by simp
    obtain ⟨-, q0, q1, q2, -⟩ := bx3 B7
    obtain ⟨-, j0, j1, j2, f0, f1, f2⟩ := bx3 D7.res
    have hres := blk_set3 (x' := .int .i64 W) (y' := .int .i64 H) (z' := .slice a2 n c2) D7.res
    have HD := Lib.hid D7
    have HR := Lib.hid r7
    have HO := Lib.hid o7
    clear D7 r7 o7
    go_wp2
    exact bodyPost_ret (v := .agg #[.int .i64 W, .int .i64 H, .slice a2 n c2]) (results_cell_row rfl _ _ (w.heap.size + 1) 25 #[.int .i64 W, .int .i64 H, .slice a2 n c2] (0, 0) _ rfl hres Tryd.underlying25 rfl size_Picture) rfl
     (PicR.at (by omega) (by omega) (by omega) (by omega) (by omega) (Sl.of_owns HO.out) (fun u hu => by have := owns_ge HO.out u.block (by rw [hu]; rfl); omega) (HR.out.mono (by omega)) HD.out.gr hbw (by omega) (gr_set3 _ _ _ _ _))
 ·rw [decide_eq_false hv]
  go_wp2_with fail
  refine (l20Picture_c b P 3 _ r1 (by omega) (by omega) (by omega)).mono ?_
  rintro e w2 ⟨q, a2, c2, n2, rfl, hq, hq2, qw1, qw2, qh1, qh2, s2, ha2, r2, g2⟩
  clear hq
  have R2 := gr_blk g2 R1 (by omega)
  have hsz := lt_of_block R1
  obtain ⟨-, k0, k1, k2, f0, f1, f2⟩ := bx3 R2
  have hres := blk_set3 (x' := .int .i64 q.w) (y' := .int .i64 q.h) (z' := .slice a2 n2 c2) R2
  have G2 := grown_trans G1 g2
  clear g2 R1 P1 s1 r1 G1
  go_wp2
  exact bodyPost_ret (v := .agg #[.int .i64 q.w, .int .i64 q.h, .slice a2 n2 c2]) (results_cell_row rfl _ _ (w.heap.size + 1) 25 #[.int .i64 q.w, .int .i64 q.h, .slice a2 n2 c2] (0, 0) _ rfl hres Tryd.underlying25 rfl size_Picture) rfl
   (PicR.at hq2 qw1 qw2 qh1 qh2 s2 (fun u hu => by have := ha2 u hu; omega) (r2.mono (by omega)) G2 hbw (by omega) (gr_set3 _ _ _ _ _))
end Go.Proofs.YtbnhaegidfbgbaaDoor
namespace Go.Proofs.YtbnhaegidfbgbaaDoor
open Go.RowKit
set_option maxHeartbeats 1000000
/-- Of what was there only blocks lo..hi-1 have changed. -/
def Tc (lo hi : Nat) (w w' : World) : Prop := ∃ row, w.grownBy w' row ∧ ∀ k, row = some k → lo ≤ k ∧ k < hi
section
variable {w w' W : World} {lo hi : Nat}
theorem Tc.ext (h : Tc lo hi w w') (e : Ext W w) (hl : W.heap.size ≤ lo) : Ext W w' := by
 obtain ⟨row, g, hr⟩ := h
 exact Ext.grown e g (fun k hk => by have := (hr k hk).1; omega)
theorem Tc.size (h : Tc lo hi w w') : w.heap.size ≤ w'.heap.size := by obtain ⟨row, g, -⟩ := h; exact g.size
theorem Tc.blk (h : Tc lo hi w w') {b : Nat} {o : Obj} (hb : w.heap[b]? = some o) (hn : b < lo ∨ hi ≤ b) : w'.heap[b]? = some o := by
 obtain ⟨row, g, hr⟩ := h
 exact blk_gr hb g (fun e => by have := hr b e; omega)
theorem Tc.own (h : Tc lo hi w w') {base e s n : Nat} {v : Value} {xs : List Value} (ho : w.ownsRow base e s v n xs) (hn : ∀ k, v.ownBlock = some k → k < lo ∨ hi ≤ k) : w'.ownsRow base e s v n xs := by
 obtain ⟨row, g, hr⟩ := h
 refine ho.kept g ?_
 cases hv : v.ownBlock with
 | none => exact .inl rfl
 | some k => right; intro e2; have := hr k e2.symm; have := hn k hv; omega
theorem Tc.sl (h : Tc lo hi w w') {a : Option Addr} {n : Nat} {xs : List Value} (hs : Sl w a n xs) (hn : ∀ y, a = some y → y.block < lo ∨ hi ≤ y.block) : Sl w' a n xs := by
 obtain ⟨row, g, hr⟩ := h
 exact hs.grown g (fun y hy e => by have := hr y.block e.symm; have := hn y hy; omega)
theorem Tc.ib (h : Tc lo hi w w') {b T : Nat} {zs : List Int} (hb : IB w b T zs) (hn : b < lo ∨ hi ≤ b) : IB w' b T zs := h.blk hb hn
theorem Tc.of {row : Option Nat} (g : w.grownBy w' row) (hr : ∀ k, row = some k → lo ≤ k ∧ k < hi) : Tc lo hi w w' := ⟨row, g, hr⟩
end
/-- A picture's box. -/
def PX (w : World) (b : Nat) (x y : Int) (a : Option Addr) (n c : Nat) : Prop := w.heap[b]? = some (.cells #[.int .i64 x, .int .i64 y, .slice a n c] 25 (0, 0))
theorem PX.ext {w w' : World} {b : Nat} {x y : Int} {a : Option Addr} {n c : Nat} (h : PX w b x y a n c) (e : Ext w w') : PX w' b x y a n c := e.blk h
theorem PX.cells {w : World} {b : Nat} {x y : Int} {a : Option Addr} {n c : Nat} (h : PX w b x y a n c) : w.cell? ⟨b, 0, none⟩ = some (.int .i64 x) ∧ w.cell? ⟨b, 1, none⟩ = some (.int .i64 y) ∧ w.cell? ⟨b, 2, none⟩ = some (.slice a n c) := by
 obtain ⟨-, h0, h1, h2, -⟩ := bx3 h
 exact ⟨h0, h1, h2⟩
/-- A box of three cells of type Picture. -/
def PZ (w : World) (b : Nat) : Prop := ∃ x y z : Value, w.heap[b]? = some (.cells #[x, y, z] 25 (0, 0))
theorem PZ.ext {w w' : World} {b : Nat} (h : PZ w b) (e : Ext w w') : PZ w' b := by
 obtain ⟨x, y, z, h⟩ := h; exact ⟨x, y, z, e.blk h⟩
theorem PX.z {w : World} {b : Nat} {x y : Int} {a : Option Addr} {n c : Nat} (h : PX w b x y a n c) : PZ w b := ⟨_, _, _, h⟩
theorem PZ.ne {w : World} {b base n m : Nat} {v : Value} {xs : List Value} (h : PZ w b) (own : w.ownsRow base 3 1 v m xs) (_ : n = n) : v.ownBlock ≠ some b := by
 obtain ⟨x, y, z, h⟩ := h
 rcases own_ne_blk own h (by decide) with h1 | h1
 ·rw [h1]; simp
 ·exact h1
/-- The three stores into a box. -/
def st3 (w : World) (b : Nat) (x y z : Value) : World := ((w.setCell ⟨b, 0, none⟩ x).setCell ⟨b, 1, none⟩ y).setCell ⟨b, 2, none⟩ z
end Go.Proofs.YtbnhaegidfbgbaaDoor
namespace Go.Proofs.YtbnhaegidfbgbaaDoor
open Go.RowKit
set_option maxHeartbeats 1000000
theorem results_pcc {P : Program} {fn : Func} {p0 : Tmp} {y0 : TypeId} {p1 : Tmp} {y1 : TypeId} (h : fn.results = #[.cell p0 y0, .cell p1 y1]) (tmps : Array Value) (w : World)
 (g0 : Nat) (cs0 : Array Value) (hp0 : tmps.getD p0 undef = .pointer (some ⟨g0, 0, none⟩)) (hl0 : (loadVar y0 ⟨g0, 0, none⟩).run P w = .ok (.agg cs0) w)
 (g1 : Nat) (cs1 : Array Value) (hp1 : tmps.getD p1 undef = .pointer (some ⟨g1, 0, none⟩)) (hl1 : (loadVar y1 ⟨g1, 0, none⟩).run P w = .ok (.agg cs1) w) :
 (results fn tmps).run P w = .ok (.tuple #[.agg cs0, .agg cs1]) w := by
 have hq0 : tmps[p0]?.getD undef = .pointer (some ⟨g0, 0, none⟩) := by simpa using hp0
 have hq1 : tmps[p1]?.getD undef = .pointer (some ⟨g1, 0, none⟩) := by simpa using hp1
 simp [results, h, hq0, hl0, hq1, hl1, asAddr, Sem.run_bind, Result.andThen]
/-- A drawn picture, its samples in blocks from L on, before U. -/
def PicA (L U : Nat) (wx : World) (p : Pic) (a : Option Addr) (c n : Nat) : Prop := n = p.px.length ∧ n ≤ 1024 ∧ (-8 ≤ p.w ∧ p.w ≤ 40) ∧ (0 ≤ p.h ∧ p.h ≤ 40) ∧ Sl wx a n (p.px.map (Value.int .i64)) ∧ ∀ y, a = some y → L ≤ y.block ∧ (0 < n → y.block < U)
section
variable {L U L' U' : Nat} {wx wy : World} {p : Pic} {a : Option Addr} {c n : Nat}
theorem PicA.gr {row : Option Nat} (h : PicA L U wx p a c n) (g : wx.grownBy wy row) (hr : ∀ k, row = some k → k < L ∨ U ≤ k) : PicA L U wy p a c n := by
 obtain ⟨h1, h2, h3, h4, h5, h6⟩ := h
 refine ⟨h1, h2, h3, h4, ?_, h6⟩
 by_cases h0 : n = 0
 ·subst h0
  exact ⟨h5.1, fun i hi => by omega⟩
 ·exact h5.grown g (fun y hy e => by have := h6 y hy; have := hr _ e.symm; omega)
theorem PicA.ext (h : PicA L U wx p a c n) (e : Ext wx wy) : PicA L U wy p a c n := ⟨h.1, h.2.1, h.2.2.1, h.2.2.2.1, h.2.2.2.2.1.ext e, h.2.2.2.2.2⟩
theorem PicA.mono (h : PicA L U wx p a c n) (hl : L' ≤ L) (hu : U ≤ U') : PicA L' U' wx p a c n := ⟨h.1, h.2.1, h.2.2.1, h.2.2.2.1, h.2.2.2.2.1, fun y hy => by have := h.2.2.2.2.2 y hy; omega⟩
theorem PicA.new (h1 : n = p.px.length) (h2 : n ≤ 1024) (h3 : -8 ≤ p.w) (h4 : p.w ≤ 40) (h5 : 0 ≤ p.h) (h6 : p.h ≤ 40) (s : Sl wx a n (p.px.map (Value.int .i64))) (ha : ∀ y, a = some y → L ≤ y.block) : PicA L wx.heap.size wx p a c n :=
 ⟨h1, h2, ⟨h3, h4⟩, ⟨h5, h6⟩, s, fun y hy => ⟨ha y hy, fun h0 => sl_bound s y hy h0⟩⟩
end
/-- What two drawn pictures are. -/
def PairR (w : World) (b P : Nat) (e : Ending) (w' : World) : Prop := ∃ (p q : Pic) (a a2 : Option Addr) (c n c2 n2 : Nat), e = .returned (.tuple #[.agg #[.int .i64 p.w, .int .i64 p.h, .slice a n c], .agg #[.int .i64 q.w, .int .i64 q.h, .slice a2 n2 c2]]) ∧ PicA w.heap.size w'.heap.size w' p a c n ∧ PicA w.heap.size w'.heap.size w' q a2 c2 n2 ∧ RdP w' b P ∧ w.grownBy w' (some b)
theorem PZ.gr {w w' : World} {b : Nat} {row : Option Nat} (h : PZ w b) (g : w.grownBy w' row) (hne : row ≠ some b) : PZ w' b := by
 obtain ⟨x, y, z, h1⟩ := h
 exact ⟨x, y, z, blk_gr h1 g hne⟩
theorem PBx.gr {w w' : World} {b : Nat} {p : Pic} {a : Option Addr} {n c : Nat} {row : Option Nat} (h : PBx w b p a n c) (g : w.grownBy w' row) (hne : row ≠ some b) : PBx w' b p a n c := blk_gr h g hne
/-- What holds at the end of l20Pair. -/
structure PS (w : World) (b P O : Nat) (p : Pic) (a : Option Addr) (n c Q : Nat) (q : Pic) (a2 : Option Addr) (n2 c2 U : Nat) (wx : World) : Prop where
 gr : w.grownBy wx (some b)
 rd : RdP wx b P
 bx1 : PBx wx O p a n c
 bx2 : PBx wx Q q a2 n2 c2
 r1 : PZ wx w.heap.size
 r2 : PZ wx (w.heap.size + 1)
 A : PicA (w.heap.size + 2) U wx p a c n
 B : PicA (w.heap.size + 2) U wx q a2 c2 n2
 lo : b < w.heap.size
 hO : w.heap.size + 2 ≤ O
 hQ : w.heap.size + 2 ≤ Q
 hU : U ≤ wx.heap.size
section
variable {w wx wy : World} {b P O Q n c n2 c2 U : Nat} {p q : Pic} {a a2 : Option Addr}
theorem PS.ext (h : PS w b P O p a n c Q q a2 n2 c2 U wx) (e : Ext wx wy) : PS w b P O p a n c Q q a2 n2 c2 U wy :=
 ⟨grown_ext h.gr e, h.rd.ext e, e.blk h.bx1, e.blk h.bx2, h.r1.ext e, h.r2.ext e, h.A.ext e, h.B.ext e, h.lo, h.hO, h.hQ, Nat.le_trans h.hU e.size⟩
theorem PS.put {r : Nat} (h : PS w b P O p a n c Q q a2 n2 c2 U wx) (g : wx.grownBy wy (some r)) (hr : w.heap.size ≤ r) (hr2 : r ≤ w.heap.size + 1) (h1 : PZ wy w.heap.size) (h2 : PZ wy (w.heap.size + 1)) : PS w b P O p a n c Q q a2 n2 c2 U wy := by
 have q1 := h.lo
 have q2 := h.hO
 have q3 := h.hQ
 exact ⟨grown_any h.gr g (fun k hk => by cases hk; omega), h.rd.gr g (fun k hk => by cases hk; omega), h.bx1.gr g (by simp; omega), h.bx2.gr g (by simp; omega), h1, h2, h.A.gr g (fun k hk => by cases hk; omega), h.B.gr g (fun k hk => by cases hk; omega), h.lo, h.hO, h.hQ, Nat.le_trans h.hU g.size⟩
theorem PS.res {P' : Nat} (h : PS w b P O p a n c Q q a2 n2 c2 U wx) (hP : P ≤ P') : PairR w b P' (.returned (.tuple #[.agg #[.int .i64 p.w, .int .i64 p.h, .slice a n c], .agg #[.int .i64 q.w, .int .i64 q.h, .slice a2 n2 c2]])) wx :=
 ⟨p, q, a, a2, c, n, c2, n2, rfl, h.A.mono (by omega) h.hU, h.B.mono (by omega) h.hU, h.rd.mono hP, h.gr⟩
end
set_option maxRecDepth 100000 in
theorem l20Pair_c (b P : Nat) (m : Int) (w : World) (h : RdP w b P) (hp : P < 2^35) (hm0 : 0 ≤ m) (hm : m ≤ 1000000) :
 Calls Tryd.prog 34 #[.pointer (some ⟨b, 0, none⟩), .int .i64 m] w (PairR w b (P + 8000)) := by
 have hbw : b < w.heap.size := h.lt
 have e0 : Ext w ((w.alloc (.cells #[.int .i64 0, .int .i64 0, .slice none 0 0] 25)).alloc (.cells #[.int .i64 0, .int .i64 0, .slice none 0 0] 25)) := (Ext.alloc w (.cells #[.int .i64 0, .int .i64 0, .slice none 0 0] 25)).trans (Ext.alloc _ _)
 have R0 : PZ ((w.alloc (.cells #[.int .i64 0, .int .i64 0, .slice none 0 0] 25)).alloc (.cells #[.int .i64 0, .int .i64 0, .slice none 0 0] 25)) w.heap.size := ⟨_, _, _, (Ext.alloc (w.alloc (.cells #[.int .i64 0, .int .i64 0, .slice none 0 0] 25)) (.cells #[.int .i64 0, .int .i64 0, .slice none 0 0] 25)).blk (blk_new w (.cells #[.int .i64 0, .int .i64 0, .slice none 0 0] 25))⟩
 have R1 : PZ ((w.alloc (.cells #[.int .i64 0, .int .i64 0, .slice none 0 0] 25)).alloc (.cells #[.int .i64 0, .int .i64 0, .slice none 0 0] 25)) (w.heap.size + 1) := ⟨_, _, _, by have := blk_new (w.alloc (.cells #[.int .i64 0, .int .i64 0, .slice none 0 0] 25)) (.cells #[.int .i64 0, .int .i64 0, .slice none 0 0] 25); rwa [World.size_alloc] at this⟩
 have r0 := h.ext e0
 have G0 : w.grownBy _ (some b) := ext_gr e0
 have z0 : w.heap.size + 2 ≤ ((w.alloc (.cells #[.int .i64 0, .int .i64 0, .slice none 0 0] 25)).alloc (.cells #[.int .i64 0, .int .i64 0, .slice none 0 0] 25)).heap.size := by simp
 clear h e0
 go_enter Tryd.func34, Tryd.ntmps34
 go_upto_region 1 with fail
 try simp only [World.size_alloc]
 generalize (w.alloc (.cells #[.int .i64 0, .int .i64 0, .slice none 0 0] 25)).alloc (.cells #[.int .i64 0, .int .i64 0, .slice none 0 0] 25) = w0 at *
 go_wp2_with fail
 refine (l20Picture_c b P m _ r0 (by omega) (by omega) (by omega)).mono ?_
 rintro e w1 ⟨p, a, c, n, rfl, hn, hn2, pw1, pw2, ph1, ph2, s1, ha, r1, g1⟩
 have A1 : PicA (w.heap.size + 2) w1.heap.size w1 p a c n := (PicA.new hn hn2 pw1 pw2 ph1 ph2 s1 ha).mono z0 (Nat.le_refl _)
 have G1 := grown_trans G0 g1
 have S0 := R0.gr g1 (by simp; omega)
 have S1 := R1.gr g1 (by simp; omega)
 have z1 := Nat.le_trans z0 g1.size
 obtain ⟨O, hO⟩ : ∃ O, O = w1.heap.size := ⟨_, rfl⟩
 have e2 := Ext.alloc w1 (.cells #[.int .i64 p.w, .int .i64 p.h, .slice a n c] 25)
 have B2 : PBx (w1.alloc (.cells #[.int .i64 p.w, .int .i64 p.h, .slice a n c] 25)) O p a n c := by rw [hO]; exact blk_new _ _
 have zz2 : O + 1 ≤ (w1.alloc (.cells #[.int .i64 p.w, .int .i64 p.h, .slice a n c] 25)).heap.size := by rw [hO]; simp
 have A2 := A1.ext e2
 have G2 := grown_ext G1 e2
 have S2 := S0.ext e2
 have T2 := S1.ext e2
 have r2 := r1.ext e2
 rw [← hO] at A2 z1
 have HN := Lib.hid hn
 clear r0 G0 R0 R1 s1 ha g1 A1 G1 S0 S1 e2 r1 hn
 obtain ⟨k0, k1, k2⟩ := B2.cells
 go_upto_region 2 with fail
 rw [← hO]
 generalize w1.alloc (.cells #[.int .i64 p.w, .int .i64 p.h, .slice a n c] 25) = w2 at *
 clear hO z0
 go_wp2_with fail
 refine (l20Next_c b (P + 2100) p a c n _ r2 (by omega) HN.out (by omega) A2.2.2.2.2.1 (fun y hy => by have := (A2.2.2.2.2.2 y hy).1; omega)).mono ?_
 rintro e w3 ⟨q, a2, c2, n2, rfl, hq, hq2, qw1, qw2, qh1, qh2, s3, ha3, r3, g3⟩
 have C3 : PicA (w.heap.size + 2) w3.heap.size w3 q a2 c2 n2 := (PicA.new hq hq2 qw1 qw2 qh1 qh2 s3 ha3).mono (by omega) (Nat.le_refl _)
 have A3 := A2.gr g3 (fun k hk => by cases hk; omega)
 have B3 := B2.gr g3 (by simp; omega)
 have G3 := grown_trans G2 g3
 have S3 := S2.gr g3 (by simp; omega)
 have T3 := T2.gr g3 (by simp; omega)
 have z3 := Nat.le_trans zz2 g3.size
 obtain ⟨Q, hQ⟩ : ∃ Q, Q = w3.heap.size := ⟨_, rfl⟩
 have e4 := Ext.alloc w3 (.cells #[.int .i64 q.w, .int .i64 q.h, .slice a2 n2 c2] 25)
 have hsz4 : Q + 1 ≤ (w3.alloc (.cells #[.int .i64 q.w, .int .i64 q.h, .slice a2 n2 c2] 25)).heap.size := by rw [hQ]; simp
 have C4 := C3.ext e4
 rw [← hQ] at z3 C4
 have D4 : PS w b (P + 4300) O p a n c Q q a2 n2 c2 Q (w3.alloc (.cells #[.int .i64 q.w, .int .i64 q.h, .slice a2 n2 c2] 25)) :=
  ⟨grown_ext G3 e4, (r3.ext e4).mono (by omega), e4.blk B3, by rw [hQ]; exact blk_new _ _, S3.ext e4, T3.ext e4, (A3.ext e4).mono (Nat.le_refl _) (by omega), C4, hbw, by omega, by omega, by omega⟩
 clear A2 B2 G2 S2 T2 r2 s3 ha3 g3 C3 A3 B3 G3 S3 T3 e4 C4 k0 k1 k2 hq
 go_upto_region 3 with fail
 rw [← hQ]
 generalize w3.alloc (.cells #[.int .i64 q.w, .int .i64 q.h, .slice a2 n2 c2] 25) = w4 at *
 clear hQ
 go_wp2_with fail
 refine (odd_any b _ m _ D4.rd (by omega) hm0 (by omega)).mono ?_
 rintro e w5 ⟨x5, rfl, r5, g5⟩
 have D : PS w b (P + 4301) O p a n c Q q a2 n2 c2 Q w5 := ⟨grown_trans D4.gr g5, r5, D4.bx1.gr g5 (by simp; omega), D4.bx2.gr g5 (by simp; omega), D4.r1.gr g5 (by simp; omega), D4.r2.gr g5 (by simp; omega), D4.A.gr g5 (fun k hk => by cases hk; omega), D4.B.gr g5 (fun k hk => by cases hk; omega), hbw, D4.hO, D4.hQ, Nat.le_trans D4.hU g5.size⟩
 have hsz5 := Nat.le_trans hsz4 g5.size
 clear D4 r5 g5 hsz4
 cases x5
 ·go_upto_region 5 with fail
  refine wp_region_inv2 (by kernel_rfl) [(19, 0), (20, 1)] [[], [], [0], [0, 1, 2]] (fun i own ys wx => match i with | 0 => own = .agg #[.int .i64 p.w, .int .i64 p.h, .slice a n c] | 1 => own = .agg #[.int .i64 q.w, .int .i64 q.h, .slice a2 n2 c2] | 2 => PBx wx w.heap.size p a n c | 3 => PBx wx (w.heap.size + 1) q a2 n2 c2 | _ => True) (fun kx wx => PS w b (P + 4301) O p a n c Q q a2 n2 c2 Q wx) (by kernel_rfl) (by kernel_rfl) (by kernel_rfl) ?g0_r1 ?gop_r1 ?gend_r1
  case g0_r1 => exact D.ext (Ext.drewN _ 1)
  case gop_r1 =>
   refine ⟨?_, ?_, ?_, ?_, trivial⟩
   ·intro kx xs wx hk hG hD hI Qo Kx hK hQo
    clear hD hI
    simp only [patchS, Nat.reduceAdd, Nat.reduceEqDiff, ↓reduceIte] at hQo ⊢
    obtain ⟨k0, k1, k2⟩ := hG.bx1.cells
    go_wp2
    exact hK.out _ _ ⟨rfl, hG, fun _ _ _ _ _ _ h => h⟩
   ·intro kx xs wx hk hG hD hI Qo Kx hK hQo
    clear hD hI
    simp only [patchS, Nat.reduceAdd, Nat.reduceEqDiff, ↓reduceIte] at hQo ⊢
    obtain ⟨k0, k1, k2⟩ := hG.bx2.cells
    go_wp2
    exact hK.out _ _ ⟨rfl, hG, fun _ _ _ _ _ _ h => h⟩
   ·intro kx xs wx hk hG hD hI Qo Kx hK hQo
    have d0 : (xs 0) = .agg #[.int .i64 p.w, .int .i64 p.h, .slice a n c] := hD 0 rfl
    clear hD hI
    simp only [patchS, Nat.reduceAdd, Nat.reduceEqDiff, ↓reduceIte] at hQo ⊢
    generalize xs 0 = y0 at *
    subst d0
    obtain ⟨x, y, z, hr⟩ := hG.r1
    obtain ⟨-, k0, k1, k2, f0, f1, f2⟩ := bx3 hr
    go_wp2
    have hst : ∀ (wy : World), wx.grownBy wy (some w.heap.size) → ∀ (ii : Nat), ii < 4 → ii ≠ 2 → ([[], [], [0], [0, 1, 2]].getD ii []).contains 2 = false → ∀ (own : Value) (ys : Nat → Value), (match ii with | 0 => own = .agg #[.int .i64 p.w, .int .i64 p.h, .slice a n c] | 1 => own = .agg #[.int .i64 q.w, .int .i64 q.h, .slice a2 n2 c2] | 2 => PBx wx w.heap.size p a n c | 3 => PBx wx (w.heap.size + 1) q a2 n2 c2 | _ => True) → (match ii with | 0 => own = .agg #[.int .i64 p.w, .int .i64 p.h, .slice a n c] | 1 => own = .agg #[.int .i64 q.w, .int .i64 q.h, .slice a2 n2 c2] | 2 => PBx wy w.heap.size p a n c | 3 => PBx wy (w.heap.size + 1) q a2 n2 c2 | _ => True) := by
     intro wy hy ii hii hne hc own ys h
     match ii, h with
     | 0, h => exact h
     | 1, h => exact h
     | 2, h => exact absurd rfl hne
     | 3, h => exact absurd hc (by decide)
     | _ + 4, _ => trivial
    have gB := gr_set3 wx w.heap.size (.int .i64 p.w) (.int .i64 p.h) (.slice a n c)
    have hb := blk_set3 (x' := .int .i64 p.w) (y' := .int .i64 p.h) (z' := .slice a n c) hr
    exact hQo undef _ (hK.out _ _ ⟨hb, hG.put gB (by omega) (by omega) ⟨_, _, _, hb⟩ (PZ.gr hG.r2 gB (by simp)), hst _ gB⟩)
   ·intro kx xs wx hk hG hD hI Qo Kx hK hQo
    have d1 : (xs 1) = .agg #[.int .i64 q.w, .int .i64 q.h, .slice a2 n2 c2] := hD 1 rfl
    clear hD hI
    simp only [patchS, Nat.reduceAdd, Nat.reduceEqDiff, ↓reduceIte] at hQo ⊢
    generalize xs 1 = y1 at *
    subst d1
    obtain ⟨x, y, z, hr⟩ := hG.r2
    obtain ⟨-, k0, k1, k2, f0, f1, f2⟩ := bx3 hr
    go_wp2
    have hst : ∀ (wy : World), wx.grownBy wy (some (w.heap.size + 1)) → ∀ (ii : Nat), ii < 4 → ii ≠ 3 → ([[], [], [0], [0, 1, 2]].getD ii []).contains 3 = false → ∀ (own : Value) (ys : Nat → Value), (match ii with | 0 => own = .agg #[.int .i64 p.w, .int .i64 p.h, .slice a n c] | 1 => own = .agg #[.int .i64 q.w, .int .i64 q.h, .slice a2 n2 c2] | 2 => PBx wx w.heap.size p a n c | 3 => PBx wx (w.heap.size + 1) q a2 n2 c2 | _ => True) → (match ii with | 0 => own = .agg #[.int .i64 p.w, .int .i64 p.h, .slice a n c] | 1 => own = .agg #[.int .i64 q.w, .int .i64 q.h, .slice a2 n2 c2] | 2 => PBx wy w.heap.size p a n c | 3 => PBx wy (w.heap.size + 1) q a2 n2 c2 | _ => True) := by
     intro wy hy ii hii hne hc own ys h
     match ii, h with
     | 0, h => exact h
     | 1, h => exact h
     | 2, h => exact blk_gr h hy (by simp)
     | 3, h => exact absurd rfl hne
     | _ + 4, _ => trivial
    have gB := gr_set3 wx (w.heap.size + 1) (.int .i64 q.w) (.int .i64 q.h) (.slice a2 n2 c2)
    have hb := blk_set3 (x' := .int .i64 q.w) (y' := .int .i64 q.h) (z' := .slice a2 n2 c2) hr
    exact hQo undef _ (hK.out _ _ ⟨hb, hG.put gB (by omega) (by omega) (PZ.gr hG.r1 gB (by simp)) ⟨_, _, _, hb⟩, hst _ gB⟩)
  intro xs wx hV hG
  have d0 : (xs 0) = .agg #[.int .i64 p.w, .int .i64 p.h, .slice a n c] := hV 0 (by decide)
  have d1 : (xs 1) = .agg #[.int .i64 q.w, .int .i64 q.h, .slice a2 n2 c2] := hV 1 (by decide)
  have d2 : PBx wx w.heap.size p a n c := hV 2 (by decide)
  have d3 : PBx wx (w.heap.size + 1) q a2 n2 c2 := hV 3 (by decide)
  clear hV
  simp only [patchS, Nat.reduceAdd, Nat.reduceEqDiff, ↓reduceIte]
  generalize xs 0 = y0 at *
  generalize xs 1 = y1 at *
  generalize xs 2 = y2 at *
  generalize xs 3 = y3 at *
  replace hG : PS w b (P + 4301) O p a n c Q q a2 n2 c2 Q wx := hG
  clear d0 d1
  go_wp2
  exact bodyPost_ret (results_pcc rfl _ _ (w.heap.size) #[.int .i64 p.w, .int .i64 p.h, .slice a n c] rfl (run_loadVar_row _ _ 25 _ _ _ _ d2 Tryd.underlying25 rfl size_Picture) (w.heap.size + 1) #[.int .i64 q.w, .int .i64 q.h, .slice a2 n2 c2] rfl (run_loadVar_row _ _ 25 _ _ _ _ d3 Tryd.underlying25 rfl size_Picture)) rfl (hG.res (by omega))
 ·go_wp2_with fail
  refine (l20Picture_c b _ 2 _ D.rd (by omega) (by omega) (by omega)).mono ?_
  rintro e w6 ⟨q', a3, c3, n3, rfl, hq', hq2', qw1', qw2', qh1', qh2', s6, ha6, r6, g6⟩
  have hQz := D.hQ
  have hOz := D.hO
  have C6 : PicA (Q + 1) w6.heap.size w6 q' a3 c3 n3 := (PicA.new hq' hq2' qw1' qw2' qh1' qh2' s6 ha6).mono hsz5 (Nat.le_refl _)
  have B6 := D.bx2.gr g6 (by simp; omega)
  have gB := gr_set3 w6 Q (.int .i64 q'.w) (.int .i64 q'.h) (.slice a3 n3 c3)
  have hb := blk_set3 (x' := .int .i64 q'.w) (y' := .int .i64 q'.h) (z' := .slice a3 n3 c3) B6
  have D7 : PS w b (P + 7000) O p a n c Q q' a3 n3 c3 w6.heap.size (((w6.setCell ⟨Q, 0, none⟩ (.int .i64 q'.w)).setCell ⟨Q, 1, none⟩ (.int .i64 q'.h)).setCell ⟨Q, 2, none⟩ (.slice a3 n3 c3)) := by
   refine ⟨grown_any (grown_trans D.gr g6) gB (fun k hk => by cases hk; omega), (r6.mono (by omega)).gr gB (fun k hk => by cases hk; omega), (D.bx1.gr g6 (by simp; omega)).gr gB ?_, hb, (D.r1.gr g6 (by simp; omega)).gr gB (by simp; omega), (D.r2.gr g6 (by simp; omega)).gr gB (by simp; omega), ?_, ?_, hbw, hOz, hQz, gB.size⟩
   ·simp; omega
   ·exact ((D.A.gr g6 (fun k hk => by cases hk; omega)).gr gB (fun k hk => by cases hk; omega)).mono (Nat.le_refl _) (by have := g6.size; omega)
   ·exact (C6.gr gB (fun k hk => by cases hk; omega)).mono (by omega) (Nat.le_refl _)
  obtain ⟨-, k0, k1, k2, f0, f1, f2⟩ := bx3 B6
  obtain ⟨U, hU⟩ : ∃ U, U = w6.heap.size := ⟨_, rfl⟩
  rw [← hU] at D7
  clear D gB hb C6 B6 s6 ha6 r6 g6 hq'
  go_upto_region 5 with fail
  generalize ((w6.setCell ⟨Q, 0, none⟩ (.int .i64 q'.w)).setCell ⟨Q, 1, none⟩ (.int .i64 q'.h)).setCell ⟨Q, 2, none⟩ (.slice a3 n3 c3) = w7 at *
  clear k0 k1 k2 f0 f1 f2
  refine wp_region_inv2 (by kernel_rfl) [(19, 0), (20, 1)] [[], [], [0], [0, 1, 2]] (fun i own ys wx => match i with | 0 => own = .agg #[.int .i64 p.w, .int .i64 p.h, .slice a n c] | 1 => own = .agg #[.int .i64 q'.w, .int .i64 q'.h, .slice a3 n3 c3] | 2 => PBx wx w.heap.size p a n c | 3 => PBx wx (w.heap.size + 1) q' a3 n3 c3 | _ => True) (fun kx wx => PS w b (P + 7000) O p a n c Q q' a3 n3 c3 U wx) (by kernel_rfl) (by kernel_rfl) (by kernel_rfl) ?g0_r2 ?gop_r2 ?gend_r2
  case g0_r2 => exact D7.ext (Ext.drewN _ 1)
  case gop_r2 =>
   refine ⟨?_, ?_, ?_, ?_, trivial⟩
   ·intro kx xs wx hk hG hD hI Qo Kx hK hQo
    clear hD hI
    simp only [patchS, Nat.reduceAdd, Nat.reduceEqDiff, ↓reduceIte] at hQo ⊢
    obtain ⟨k0, k1, k2⟩ := hG.bx1.cells
    go_wp2
    exact hK.out _ _ ⟨rfl, hG, fun _ _ _ _ _ _ h => h⟩
   ·intro kx xs wx hk hG hD hI Qo Kx hK hQo
    clear hD hI
    simp only [patchS, Nat.reduceAdd, Nat.reduceEqDiff, ↓reduceIte] at hQo ⊢
    obtain ⟨k0, k1, k2⟩ := hG.bx2.cells
    go_wp2
    exact hK.out _ _ ⟨rfl, hG, fun _ _ _ _ _ _ h => h⟩
   ·intro kx xs wx hk hG hD hI Qo Kx hK hQo
    have d0 : (xs 0) = .agg #[.int .i64 p.w, .int .i64 p.h, .slice a n c] := hD 0 rfl
    clear hD hI
    simp only [patchS, Nat.reduceAdd, Nat.reduceEqDiff, ↓reduceIte] at hQo ⊢
    generalize xs 0 = y0 at *
    subst d0
    obtain ⟨x, y, z, hr⟩ := hG.r1
    obtain ⟨-, k0, k1, k2, f0, f1, f2⟩ := bx3 hr
    go_wp2
    have hst : ∀ (wy : World), wx.grownBy wy (some w.heap.size) → ∀ (ii : Nat), ii < 4 → ii ≠ 2 → ([[], [], [0], [0, 1, 2]].getD ii []).contains 2 = false → ∀ (own : Value) (ys : Nat → Value), (match ii with | 0 => own = .agg #[.int .i64 p.w, .int .i64 p.h, .slice a n c] | 1 => own = .agg #[.int .i64 q'.w, .int .i64 q'.h, .slice a3 n3 c3] | 2 => PBx wx w.heap.size p a n c | 3 => PBx wx (w.heap.size + 1) q' a3 n3 c3 | _ => True) → (match ii with | 0 => own = .agg #[.int .i64 p.w, .int .i64 p.h, .slice a n c] | 1 => own = .agg #[.int .i64 q'.w, .int .i64 q'.h, .slice a3 n3 c3] | 2 => PBx wy w.heap.size p a n c | 3 => PBx wy (w.heap.size + 1) q' a3 n3 c3 | _ => True) := by
     intro wy hy ii hii hne hc own ys h
     match ii, h with
     | 0, h => exact h
     | 1, h => exact h
     | 2, h => exact absurd rfl hne
     | 3, h => exact absurd hc (by decide)
     | _ + 4, _ => trivial
    have gB := gr_set3 wx w.heap.size (.int .i64 p.w) (.int .i64 p.h) (.slice a n c)
    have hb := blk_set3 (x' := .int .i64 p.w) (y' := .int .i64 p.h) (z' := .slice a n c) hr
    exact hQo undef _ (hK.out _ _ ⟨hb, hG.put gB (by omega) (by omega) ⟨_, _, _, hb⟩ (PZ.gr hG.r2 gB (by simp)), hst _ gB⟩)
   ·intro kx xs wx hk hG hD hI Qo Kx hK hQo
    have d1 : (xs 1) = .agg #[.int .i64 q'.w, .int .i64 q'.h, .slice a3 n3 c3] := hD 1 rfl
    clear hD hI
    simp only [patchS, Nat.reduceAdd, Nat.reduceEqDiff, ↓reduceIte] at hQo ⊢
    generalize xs 1 = y1 at *
    subst d1
    obtain ⟨x, y, z, hr⟩ := hG.r2
    obtain ⟨-, k0, k1, k2, f0, f1, f2⟩ := bx3 hr
    go_wp2
    have hst : ∀ (wy : World), wx.grownBy wy (some (w.heap.size + 1)) → ∀ (ii : Nat), ii < 4 → ii ≠ 3 → ([[], [], [0], [0, 1, 2]].getD ii []).contains 3 = false → ∀ (own : Value) (ys : Nat → Value), (match ii with | 0 => own = .agg #[.int .i64 p.w, .int .i64 p.h, .slice a n c] | 1 => own = .agg #[.int .i64 q'.w, .int .i64 q'.h, .slice a3 n3 c3] | 2 => PBx wx w.heap.size p a n c | 3 => PBx wx (w.heap.size + 1) q' a3 n3 c3 | _ => True) → (match ii with | 0 => own = .agg #[.int .i64 p.w, .int .i64 p.h, .slice a n c] | 1 => own = .agg #[.int .i64 q'.w, .int .i64 q'.h, .slice a3 n3 c3] | 2 => PBx wy w.heap.size p a n c | 3 => PBx wy (w.heap.size + 1) q' a3 n3 c3 | _ => True) := by
     intro wy hy ii hii hne hc own ys h
     match ii, h with
     | 0, h => exact h
     | 1, h => exact h
     | 2, h => exact blk_gr h hy (by simp)
     | 3, h => exact absurd rfl hne
     | _ + 4, _ => trivial
    have gB := gr_set3 wx (w.heap.size + 1) (.int .i64 q'.w) (.int .i64 q'.h) (.slice a3 n3 c3)
    have hb := blk_set3 (x' := .int .i64 q'.w) (y' := .int .i64 q'.h) (z' := .slice a3 n3 c3) hr
    exact hQo undef _ (hK.out _ _ ⟨hb, hG.put gB (by omega) (by omega) (PZ.gr hG.r1 gB (by simp)) ⟨_, _, _, hb⟩, hst _ gB⟩)
  intro xs wx hV hG
  have d0 : (xs 0) = .agg #[.int .i64 p.w, .int .i64 p.h, .slice a n c] := hV 0 (by decide)
  have d1 : (xs 1) = .agg #[.int .i64 q'.w, .int .i64 q'.h, .slice a3 n3 c3] := hV 1 (by decide)
  have d2 : PBx wx w.heap.size p a n c := hV 2 (by decide)
  have d3 : PBx wx (w.heap.size + 1) q' a3 n3 c3 := hV 3 (by decide)
  clear hV
  simp only [patchS, Nat.reduceAdd, Nat.reduceEqDiff, ↓reduceIte]
  generalize xs 0 = y0 at *
  generalize xs 1 = y1 at *
  generalize xs 2 = y2 at *
  generalize xs 3 = y3 at *
  replace hG : PS w b (P + 7000) O p a n c Q q' a3 n3 c3 U wx := hG
  clear d0 d1
  go_wp2
  exact bodyPost_ret (results_pcc rfl _ _ (w.heap.size) #[.int .i64 p.w, .int .i64 p.h, .slice a n c] rfl (run_loadVar_row _ _ 25 _ _ _ _ d2 Tryd.underlying25 rfl size_Picture) (w.heap.size + 1) #[.int .i64 q'.w, .int .i64 q'.h, .slice a3 n3 c3] rfl (run_loadVar_row _ _ 25 _ _ _ _ d3 Tryd.underlying25 rfl size_Picture)) rfl (hG.res (by omega))
end Go.Proofs.YtbnhaegidfbgbaaDoor
