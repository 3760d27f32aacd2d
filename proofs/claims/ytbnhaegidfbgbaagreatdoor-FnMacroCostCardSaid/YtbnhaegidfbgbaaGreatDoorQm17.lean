/- What a macroblock costs; the program's walk. | Words of the laws of three pictures and a macroblock. | Drawing: a position in a picture. | Drawing: the arguments of IntraMacro, InterMacro and Reconstruct. -/
import Derived.Test.YtbnhaegidfbgbaaGreatDoorQm16
set_option linter.unusedVariables false
set_option linter.unusedSimpArgs false
namespace Go.Proofs.YtbnhaegidfbgbaaGreatDoor
open Go.RowKit
set_option maxHeartbeats 1000000
/-- The sum of the squares of the first k differences. -/
def sqS (t D : Pic) (x y : Int) : Nat → Int
 | 0 => 0
 | k + 1 => sqS t D x y k + (pat t (x + (k % 8 : Nat)) (y + (k / 8 : Nat)) - pat D (x + (k % 8 : Nat)) (y + (k / 8 : Nat))) * (pat t (x + (k % 8 : Nat)) (y + (k / 8 : Nat)) - pat D (x + (k % 8 : Nat)) (y + (k / 8 : Nat)))
theorem sq_rng {d : Int} (h1 : -255 ≤ d) (h2 : d ≤ 255) : 0 ≤ d * d ∧ d * d ≤ 65025 := by
 have h := Int.mul_nonneg (show 0 ≤ 255 - d by omega) (show 0 ≤ 255 + d by omega)
 rw [Int.sub_mul, Int.mul_add, Int.mul_add, Int.mul_comm d 255] at h
 have h0 : 0 ≤ d * d := by
  rcases Int.le_total 0 d with h3 | h3
  ·exact Int.mul_nonneg h3 h3
  ·have := Int.mul_nonneg (show 0 ≤ -d by omega) (show 0 ≤ -d by omega)
   rwa [Int.neg_mul_neg] at this
 exact ⟨h0, by omega⟩
theorem pd_rng {t D : Pic} (ht : t.valid) (hD : D.valid) (x y : Int) : -255 ≤ pat t x y - pat D x y ∧ pat t x y - pat D x y ≤ 255 := by
 have h1 := pat_rng ht x y
 have h2 := pat_rng hD x y
 omega
theorem sqS_rng {t D : Pic} (ht : t.valid) (hD : D.valid) (x y : Int) (k : Nat) : 0 ≤ sqS t D x y k ∧ sqS t D x y k ≤ 65025 * k := by
 induction k with
 | zero => exact ⟨Int.le_refl _, Int.le_refl _⟩
 | succ k ih =>
  rw [sqS]
  have hd := pd_rng ht hD (x + (k % 8 : Nat)) (y + (k / 8 : Nat))
  have := sq_rng hd.1 hd.2
  generalize (pat t (x + (k % 8 : Nat)) (y + (k / 8 : Nat)) - pat D (x + (k % 8 : Nat)) (y + (k / 8 : Nat))) * (pat t (x + (k % 8 : Nat)) (y + (k / 8 : Nat)) - pat D (x + (k % 8 : Nat)) (y + (k / 8 : Nat))) = z at *
  omega
theorem rate_rng {m : Mac} {q : Nat} (hm : m.ok) (hv : m.valid) (hq : q < 16) : 0 ≤ stp q * (macN m : Int) ∧ stp q * (macN m : Int) ≤ 2560000 := by
 have h1 := stp_rng hq
 have h2 := macN_le hm hv
 have h3 := Int.mul_nonneg (show 0 ≤ stp q by omega) (show (0 : Int) ≤ (macN m : Int) by omega)
 have h4 := Int.mul_le_mul h1.2 (show (macN m : Int) ≤ 5000 by omega) (by omega) (by omega)
 exact ⟨h3, by omega⟩
/-- The decoded picture of a macroblock. -/
noncomputable def recD (ref p : Pic) (x y : Int) (m : Mac) (q top : Int) : Pic := ⟨p.w, p.h, bldS ref p x.toNat y.toNat m q.toNat top 4⟩
/-- The cost. -/
noncomputable def costP (t ref p : Pic) (x y : Int) (m : Mac) (q top : Int) : Int := if alikeP t p ∧ okR ref p x y m q top then sqS t (recD ref p x y m q top) x y 64 + stp q.toNat * (macN m : Int) else -1
theorem cellP {w : World} {g n k : Nat} {xs : List Int} {z : Int} (h : Sl w (some ⟨g, 0, none⟩) n (xs.map (Value.int .i64))) (hk : k < n) (hz : nth xs k = z) : w.cell? ⟨g, k, none⟩ = some (.int .i64 z) := by
 obtain ⟨b, off, ha, hc⟩ := h.int hk
 simp only [Option.some.injEq, Addr.mk.injEq] at ha
 obtain ⟨rfl, rfl, -⟩ := ha
 rw [Nat.zero_add, hz] at hc
 exact hc
theorem impl_QuantStep_inC (q : Nat) (w : World) (hT : TabQ w) (hq : q < 16) :
 Calls Tryz.prog 13 #[.int .i64 q] w fun e w' => e = .returned (.int .i64 (stp q)) ∧ w = w' := by
 have ht := hT q hq
 have hs := stp_rng hq
 generalize stp q = s at *
 go_enter Tryz.func13, Tryz.ntmps13
 go_wp2_with fail
 refine (qualityValid_in _ _ (by omega) (by omega)).mono ?_
 rintro e w1 ⟨rfl, rfl⟩
 go_wp2
 go_ret
 exact ⟨rfl, rfl⟩
set_option maxRecDepth 100000 in
set_option maxHeartbeats 2000000 in
theorem impl_cost_in (t ref : Pic) (W H x y : Nat) (px : List Int) (m : Mac) (q : Nat) (top : Int) (at1 a b : Option Addr) (tc c d tn n l : Nat) (w : World) (hT : TabQ w) (htn : tn = t.px.length) (hn : n = ref.px.length) (hl : l = px.length) (nc : n ≤ 9223372036854775807) (rt : Sl w at1 tn (t.px.map (Value.int .i64))) (r : Sl w a n (ref.px.map (Value.int .i64))) (s : Sl w b l (px.map (Value.int .i64))) (hm : m.ok) (htv : t.valid) (ho : okR ref ⟨W, H, px⟩ x y m q top) :
 Calls Tryz.prog 40 #[.agg #[.int .i64 t.w, .int .i64 t.h, .slice at1 tn tc], .agg #[.int .i64 ref.w, .int .i64 ref.h, .slice a n c], .agg #[.int .i64 W, .int .i64 H, .slice b l d], .int .i64 (x : Nat), .int .i64 (y : Nat), .agg (ic m.zs), .int .i64 q, .int .i64 top] w fun e w' => e = .returned (.int .i64 (sqS t ⟨W, H, bldS ref ⟨W, H, px⟩ x y m q top 4⟩ x y 64 + stp q * (macN m : Int))) ∧ Ext w w' := by
 have hlen := Pic.len_le ho.1.1
 simp only at hlen
 rw [← hl] at hlen
 obtain ⟨bl, hbl⟩ : ∃ bl, bl = bldS ref ⟨W, H, px⟩ x y m q top 4 := ⟨_, rfl⟩
 have hDv : Pic.valid ⟨W, H, bl⟩ := by rw [hbl]; exact bldS_valid ho.1.1 ref x y m q top 4
 have hxy : (x : Int) < 40 ∧ (y : Int) < 40 := by
  have h1 := ho.1.1.1
  have h2 := ho.1.1.2.1
  have h3 := ho.1.2.2.1
  have h4 := ho.1.2.2.2.2.2.1
  simp only [side] at h1 h2 h3 h4
  omega
 have HDn := Lib.hid (show l = bl.length by rw [hbl, bldS_len]; exact hl)
 have Hbl := Lib.hid hbl
 clear hbl
 have hrt := rate_rng hm ho.2.1 (show q < 16 by have := ho.2.2.1; omega)
 have Htn := Lib.hid htn
 have Hn := Lib.hid hn
 have HL := Lib.hid hl
 have Hm := Lib.hid hm
 have Hl := Lib.hid (Mac.zs_len hm)
 have Hok := Lib.hid ho
 have HTV := Lib.hid htv
 have HDv := Lib.hid hDv
 have hq : q < 16 := by have := ho.2.2.1; omega
 have ht0 : 0 ≤ top := ho.2.2.2.1.1
 clear hn hl hm ho htn htv hDv
 have a2 := Ext.alloc (w.alloc (.cells #[.int .i64 t.w, .int .i64 t.h, .slice at1 tn tc] 25)) (.cells #[.int .i64 ref.w, .int .i64 ref.h, .slice a n c] 25)
 have a3 := Ext.alloc ((w.alloc (.cells #[.int .i64 t.w, .int .i64 t.h, .slice at1 tn tc] 25)).alloc (.cells #[.int .i64 ref.w, .int .i64 ref.h, .slice a n c] 25)) (.cells #[.int .i64 W, .int .i64 H, .slice b l d] 25)
 have a4 := Ext.alloc (((w.alloc (.cells #[.int .i64 t.w, .int .i64 t.h, .slice at1 tn tc] 25)).alloc (.cells #[.int .i64 ref.w, .int .i64 ref.h, .slice a n c] 25)).alloc (.cells #[.int .i64 W, .int .i64 H, .slice b l d] 25)) (.cells (ic m.zs) 32)
 have p0 := a4.blk (a3.blk (a2.blk (blk_new w (.cells #[.int .i64 t.w, .int .i64 t.h, .slice at1 tn tc] 25))))
 have p1 := a4.blk (a3.blk (blk_new (w.alloc (.cells #[.int .i64 t.w, .int .i64 t.h, .slice at1 tn tc] 25)) (.cells #[.int .i64 ref.w, .int .i64 ref.h, .slice a n c] 25)))
 have p2 := a4.blk (blk_new ((w.alloc (.cells #[.int .i64 t.w, .int .i64 t.h, .slice at1 tn tc] 25)).alloc (.cells #[.int .i64 ref.w, .int .i64 ref.h, .slice a n c] 25)) (.cells #[.int .i64 W, .int .i64 H, .slice b l d] 25))
 have p3 := IB.new (((w.alloc (.cells #[.int .i64 t.w, .int .i64 t.h, .slice at1 tn tc] 25)).alloc (.cells #[.int .i64 ref.w, .int .i64 ref.h, .slice a n c] 25)).alloc (.cells #[.int .i64 W, .int .i64 H, .slice b l d] 25)) 32 m.zs
 have E1 := (((Ext.alloc w (.cells #[.int .i64 t.w, .int .i64 t.h, .slice at1 tn tc] 25)).trans a2).trans a3).trans a4
 simp only [World.size_alloc] at p1 p2 p3
 clear a2 a3 a4
 obtain ⟨B, hB⟩ : ∃ B, B = w.heap.size := ⟨_, rfl⟩
 rw [← hB] at p0 p1 p2 p3
 have hwB : w.heap.size ≤ B := by omega
 have HB := Lib.hid hB
 have hb1 := p3.lt
 go_enter Tryz.func40, Tryz.ntmps40
 go_upto_region 1 with fail
 try simp only [World.size_alloc]
 rw [← hB]
 clear hB
 generalize (((w.alloc (.cells #[.int .i64 t.w, .int .i64 t.h, .slice at1 tn tc] 25)).alloc (.cells #[.int .i64 ref.w, .int .i64 ref.h, .slice a n c] 25)).alloc (.cells #[.int .i64 W, .int .i64 H, .slice b l d] 25)).alloc (.cells (ic m.zs) 32) = w1 at *
 obtain ⟨-, i0, i1, i2, -⟩ := bx3 p2
 go_wp2_with fail
 refine (clone_any W H b d l px _ (by omega) (s.ext E1)).mono ?_
 rintro e wa ⟨a1, c1, rfl, own1, e2⟩
 have r0 := e2.blk p0
 have r1 := e2.blk p1
 have r2 := e2.blk p2
 have r3 := p3.ext e2
 have E2 := E1.trans e2
 clear p0 p1 p2 p3 E1 e2 i0 i1 i2
 have hgo : ∃ g, a1 = some ⟨g, 0, none⟩ ∧ g < wa.heap.size ∧ w1.heap.size ≤ g := by
  rcases own1.2 with ⟨-, h0⟩ | ⟨g, cc, cur, hv, hb, hb2, -⟩
  ·omega
  ·simp only [Value.slice.injEq] at hv
   exact ⟨g, hv.1, lt_of_block hb2, hb⟩
 obtain ⟨g, rfl, hg1, hg2⟩ := hgo
 have a5 := Ext.alloc wa (.cells #[.int .i64 W, .int .i64 H, .slice (some ⟨g, 0, none⟩) l c1] 25)
 have z0 := a5.blk r0
 have z1 := a5.blk r1
 have z3 := r3.ext a5
 have z4 := blk_new wa (.cells #[.int .i64 W, .int .i64 H, .slice (some ⟨g, 0, none⟩) l c1] 25)
 have own2 := owns_ext own1 a5
 have E3 := E2.trans a5
 have hO := r3.lt
 obtain ⟨O, hOe⟩ : ∃ O, O = wa.heap.size := ⟨_, rfl⟩
 rw [← hOe] at z4 hg1 hO
 have HO2 := Lib.hid hOe
 clear r0 r1 r2 r3 own1 E2 a5
 obtain ⟨-, i0, i1, i2, -⟩ := bx3 z1
 obtain ⟨-, o0, o1, o2, -⟩ := bx3 z4
 have hOlt := lt_of_block z4
 go_upto_region 2 with fail
 rw [← hOe]
 clear hOe
 generalize wa.alloc (.cells #[.int .i64 W, .int .i64 H, .slice (some ⟨g, 0, none⟩) l c1] 25) = w2 at *
 go_wp2_with (refine wpList_iload 32 _ rfl rfl z3 0 71 rfl _ Tryz.underlying32 rfl size_Macro (by rw [Hl.out]; omega) _ (by rw [sub_all _ _ Hl.out]) ?_)
 have hrz : ¬ m.kind = 2 → ∀ z, a = some z → z.block ≠ g := fun hk z hz => by
  have h9 := Pic.len_le (okR_ref Hok.out hk)
  rw [← Hn.out] at h9
  have := sl_bound r z hz (by omega)
  omega
 have hT0 := World.block_lt_of_cell? w _ (hT 0 (by omega))
 refine (rebuild_any ref W H x y px m q top a n c w1.heap.size g l c1 _ (hT.ext E3) (by simp only at hT0; omega) own2 Hok.out.1 Hm.out Hok.out.2.1 hq (fun hk => okR_ref Hok.out hk) Hn.out (r.ext E3) hrz).mono ?_
 rintro e w3 ⟨rfl, own3, g3⟩
 rw [← Hbl.out] at own3
 have u0 := blk_gr z0 g3 (by simp; omega)
 have u3 := z3.gr g3 (by simp; omega)
 have u4 := blk_gr z4 g3 (by simp; omega)
 have hs1 : B ≤ w1.heap.size := by omega
 have E4 : Ext w w3 := Ext.grown E3 g3 (fun k e => by cases e; omega)
 have SD := Sl.of_owns own3
 clear z0 z1 z3 z4 own2 own3 E3 g3 i0 i1 i2 o0 o1 o2
 have RT := rt.ext E4
 obtain ⟨s0, hs0⟩ : ∃ s0, s0 = stp q := ⟨_, rfl⟩
 obtain ⟨N0, hN0⟩ : ∃ N0, N0 = macN m := ⟨_, rfl⟩
 obtain ⟨C, hC⟩ : ∃ C, C = stp q * (macN m : Int) := ⟨_, rfl⟩
 rw [← hC] at hrt
 have HC := Lib.hid (show s0 * (N0 : Int) = C by rw [hs0, hN0, hC])
 have HW := Lib.hid (show wrap64 (s0 * (N0 : Int)) = C by rw [hs0, hN0, ← hC]; unfold wrap64; omega)
 have HS0 := Lib.hid hs0
 have HN0 := Lib.hid hN0
 have HC0 := Lib.hid hC
 have hs0r := stp_rng hq
 rw [← hs0] at hs0r
 have hN0r := macN_le Hm.out Hok.out.2.1
 rw [← hN0] at hN0r
 have hTe := hT.ext E4
 clear hs0 hN0 hC
 go_upto_region 3 with fail
 refine wp_region_inv2 (by kernel_rfl) [(18, 6), (31, 0), (32, 1), (33, 2), (34, 3), (35, 4), (36, 5)] [[], [0], [], [0, 1, 2], [0, 1, 2, 3], [0, 1, 2, 3, 4], [0, 1, 2, 3, 4, 5]] (fun i own ys wx => match i with | 0 => own = .int .i64 (q : Nat) | 1 => own = .int .i64 s0 | 2 => own = .agg (ic m.zs) | 3 => ∃ (a3 : Option Addr) (c3 : Nat), own = .slice a3 N0 c3 | 4 => own = .int .i64 (N0 : Nat) | 5 => own = .int .i64 C | 6 => own = .int .i64 C | _ => True) (fun kx wx => Ext w3 wx) (by kernel_rfl) (by kernel_rfl) (by kernel_rfl) ?g0_r1 ?gop_r1 ?gend_r1
 case g0_r1 => exact Ext.drewN _ 1
 case gop_r1 =>
  refine ⟨?o0, ?o1, ?o2, ?o3, ?o4, ?o5, ?o6, trivial⟩ <;> (intro kx xs wx hk hG hD hI Qo Kx hK hQo; simp only [patchS, Nat.reduceAdd, Nat.reduceEqDiff, ↓reduceIte] at hQo ⊢)
  case o0 =>
   clear hD hI
   go_wp2
   exact hK.out _ _ ⟨rfl, hG, fun _ _ _ _ _ _ h => h⟩
  case o1 =>
   have d0 : _ = _ := hD 0 rfl
   clear hD hI
   generalize xs 0 = y0 at *
   subst d0
   go_wp2_with fail
   refine (impl_QuantStep_inC q _ (hTe.ext hG) hq).mono ?_
   rintro e wz ⟨rfl, rfl⟩
   rw [← HS0.out]
   go_wp2
   exact hK.out _ _ ⟨rfl, hG, fun _ _ _ _ _ _ h => h⟩
  case o2 =>
   clear hD hI
   go_wp2_with (refine wpList_iload 32 _ rfl rfl (u3.ext hG) 0 71 rfl _ Tryz.underlying32 rfl size_Macro (by rw [Hl.out]; omega) _ (by rw [sub_all _ _ Hl.out]) ?_)
   exact hK.out _ _ ⟨rfl, hG, fun _ _ _ _ _ _ h => h⟩
  case o3 =>
   have d2 : _ = _ := hD 2 rfl
   clear hD hI
   generalize xs 2 = y2 at *
   subst d2
   go_wp2_with fail
   refine (impl_MacroBins_in m _ Hm.out Hok.out.2.1).mono ?_
   rintro e wz ⟨az, cz, rfl, -, ez⟩
   rw [← HN0.out]
   go_wp2
   exact hK.out _ _ ⟨⟨az, cz, rfl⟩, hG.trans ez, fun _ _ _ _ _ _ h => h⟩
  case o4 =>
   have d3 : ∃ (a3 : Option Addr) (c3 : Nat), (xs 3) = .slice a3 N0 c3 := hD 3 rfl
   clear hD hI
   generalize xs 3 = y3 at *
   obtain ⟨a3, c3, rfl⟩ := d3
   go_wp2
   exact hK.out _ _ ⟨rfl, hG, fun _ _ _ _ _ _ h => h⟩
  case o5 =>
   have d1 : _ = _ := hD 1 rfl
   have d4 : _ = _ := hD 4 rfl
   clear hD hI
   generalize xs 1 = y1 at *
   generalize xs 4 = y4 at *
   subst d1 d4
   go_wp2
   exact hK.out _ _ ⟨by first | rw [HW.out] | rw [HC.out], hG, fun _ _ _ _ _ _ h => h⟩
  case o6 =>
   have d5 : _ = _ := hD 5 rfl
   clear hD hI
   generalize xs 5 = y5 at *
   subst d5
   go_wp2
   exact hK.out _ _ ⟨rfl, hG, fun _ _ _ _ _ _ h => h⟩
 intro xs wx hV hG
 have d6 : _ = _ := hV 6 (by decide)
 clear hV
 simp only [patchS, Nat.reduceAdd, Nat.reduceEqDiff, ↓reduceIte]
 generalize xs 0 = y0 at *
 generalize xs 1 = y1 at *
 generalize xs 2 = y2 at *
 generalize xs 3 = y3 at *
 generalize xs 4 = y4 at *
 generalize xs 5 = y5 at *
 generalize xs 6 = y6 at *
 replace hG : Ext w3 wx := hG
 subst d6
 have E5 := E4.trans hG
 have x0 := hG.blk u0
 have x4 := hG.blk u4
 have SD5 := SD.ext hG
 have RT5 := RT.ext hG
 clear hG u0 u3 u4 SD RT hTe E4
 generalize wx = w5 at *
 go_wp2_with fail
 go_loopw [18, 37] (fun v i wr => ∃ k : Nat, k ≤ 64 ∧ i = .int .i64 k ∧ v = .int .i64 (C + sqS t ⟨W, H, bl⟩ x y k) ∧ Ext w5 wr) (fun _ i _ => 64 - (intOf i).toNat)
 case atStart => exact ⟨0, by omega, rfl, by simp [sqS], Below.refl _ _⟩
 case round =>
  obtain ⟨k, hk, rfl, rfl, Ek⟩ := hrel
  have hsr := sqS_rng HTV.out HDv.out x y k
  by_cases hlt : k < 64
  ·have hd : decide ((k : Int) < 64) = true := by simp; omega
   obtain ⟨ii, hi⟩ : ∃ ii, ii = k % 8 := ⟨_, rfl⟩
   obtain ⟨jj, hj⟩ : ∃ jj, jj = k / 8 := ⟨_, rfl⟩
   have hpd := pd_rng HTV.out HDv.out ((x : Int) + (ii : Nat)) ((y : Int) + (jj : Nat))
   have hsq := sq_rng hpd.1 hpd.2
   have Hnx := Lib.hid (show sqS t ⟨W, H, bl⟩ x y (k + 1) = _ by rw [sqS, ← hi, ← hj])
   obtain ⟨pt, hpt⟩ : ∃ z, z = pat t ((x : Int) + (ii : Nat)) ((y : Int) + (jj : Nat)) := ⟨_, rfl⟩
   obtain ⟨pd, hpD⟩ : ∃ z, z = pat ⟨W, H, bl⟩ ((x : Int) + (ii : Nat)) ((y : Int) + (jj : Nat)) := ⟨_, rfl⟩
   have hp1 := pat_rng HTV.out ((x : Int) + (ii : Nat)) ((y : Int) + (jj : Nat))
   have hp2 := pat_rng HDv.out ((x : Int) + (ii : Nat)) ((y : Int) + (jj : Nat))
   rw [← hpt] at hp1
   rw [← hpD] at hp2
   rw [← hpt, ← hpD] at hpd hsq Hnx
   have HPT := Lib.hid hpt
   have HPD := Lib.hid hpD
   have Hi := Lib.hid (show (k : Int) % 8 = (ii : Int) by omega)
   have Hj := Lib.hid (show (k : Int) / 8 = (jj : Int) by omega)
   have hib : ii < 8 := by omega
   have hjb : jj < 8 := by omega
   have Hwq := Lib.hid (show wrap64 ((pt - pd) * (pt - pd)) = (pt - pd) * (pt - pd) by generalize (pt - pd) * (pt - pd) = z at hsq ⊢; unfold wrap64; omega)
   clear hi hj hpt hpD
   have X0 := Lib.hid (Ek.blk x0)
   have X4 := Lib.hid (Ek.blk x4)
   go_upto_region 7 with fail
   refine wp_region_inv2 (by kernel_rfl) [(20, 21), (40, 0), (41, 1), (42, 2), (43, 3), (44, 4), (45, 5), (46, 6), (47, 7), (48, 8), (49, 9), (50, 10), (51, 11), (52, 12), (53, 13), (54, 14), (55, 15), (56, 16), (57, 17), (58, 18), (59, 19), (60, 20)] [[], [], [], [2], [1, 2, 3], [], [], [6], [5, 6, 7], [0, 1, 2, 3, 4, 5, 6, 7, 8], [], [], [], [12], [11, 12, 13], [], [], [16], [15, 16, 17], [0, 1, 2, 3, 4, 5, 6, 7, 8, 9, 10, 11, 12, 13, 14, 15, 16, 17, 18], [0, 1, 2, 3, 4, 5, 6, 7, 8, 9, 10, 11, 12, 13, 14, 15, 16, 17, 18, 19], [0, 1, 2, 3, 4, 5, 6, 7, 8, 9, 10, 11, 12, 13, 14, 15, 16, 17, 18, 19, 20]] (fun i own ys wx => match i with | 0 => own = .agg #[.int .i64 t.w, .int .i64 t.h, .slice at1 tn tc] | 1 => own = .int .i64 (x : Nat) | 2 => own = .int .i64 (k : Nat) | 3 => own = .int .i64 ((k : Int) % 8) | 4 => own = .int .i64 ((x : Int) + (ii : Nat)) | 5 => own = .int .i64 (y : Nat) | 6 => own = .int .i64 (k : Nat) | 7 => own = .int .i64 ((k : Int) / 8) | 8 => own = .int .i64 ((y : Int) + (jj : Nat)) | 9 => own = .int .i64 pt | 10 => own = .agg #[.int .i64 W, .int .i64 H, .slice (some ⟨g, 0, none⟩) l c1] | 11 => own = .int .i64 (x : Nat) | 12 => own = .int .i64 (k : Nat) | 13 => own = .int .i64 ((k : Int) % 8) | 14 => own = .int .i64 ((x : Int) + (ii : Nat)) | 15 => own = .int .i64 (y : Nat) | 16 => own = .int .i64 (k : Nat) | 17 => own = .int .i64 ((k : Int) / 8) | 18 => own = .int .i64 ((y : Int) + (jj : Nat)) | 19 => own = .int .i64 pd | 20 => own = .int .i64 (pt - pd) | 21 => own = .int .i64 (pt - pd) | _ => True) (fun kx wx => Ext wr wx) (by kernel_rfl) (by kernel_rfl) (by kernel_rfl) ?g0_r2 ?gop_r2 ?gend_r2
   case g0_r2 => exact Ext.drewN _ 1
   case gop_r2 =>
    refine ⟨?o0, ?_, ?_, ?o3, ?o4, ?_, ?_, ?o7, ?o8, ?o9, ?o10, ?_, ?_, ?o13, ?o14, ?_, ?_, ?o17, ?o18, ?o19, ?o20, ?o21, trivial⟩ <;> (intro kx xs wx hk hG hD hI Qo Kx hK hQo; simp only [patchS, Nat.reduceAdd, Nat.reduceEqDiff, ↓reduceIte] at hQo ⊢)
    case o0 =>
     clear hD hI
     obtain ⟨-, k0, k1, k2, -⟩ := bx3 (hG.blk X0.out)
     go_wp2
     exact hK.out _ _ ⟨rfl, hG, fun _ _ _ _ _ _ h => h⟩
    case o3 =>
     have d2 : _ = _ := hD 2 rfl
     clear hD hI
     generalize xs 2 = y2 at *
     subst d2
     go_wp2
     exact hK.out _ _ ⟨rfl, hG, fun _ _ _ _ _ _ h => h⟩
    case o4 =>
     have d1 : _ = _ := hD 1 rfl
     have d3 : _ = _ := hD 3 rfl
     clear hD hI
     generalize xs 1 = y1 at *
     generalize xs 3 = y3 at *
     subst d1 d3
     go_wp2
     exact hK.out _ _ ⟨by rw [← Hi.out], hG, fun _ _ _ _ _ _ h => h⟩
    case o7 =>
     have d6 : _ = _ := hD 6 rfl
     clear hD hI
     generalize xs 6 = y6 at *
     subst d6
     go_wp2
     exact hK.out _ _ ⟨rfl, hG, fun _ _ _ _ _ _ h => h⟩
    case o8 =>
     have d5 : _ = _ := hD 5 rfl
     have d7 : _ = _ := hD 7 rfl
     clear hD hI
     generalize xs 5 = y5 at *
     generalize xs 7 = y7 at *
     subst d5 d7
     go_wp2
     exact hK.out _ _ ⟨by rw [← Hj.out], hG, fun _ _ _ _ _ _ h => h⟩
    case o9 =>
     have d0 : _ = _ := hD 0 rfl
     have d4 : _ = _ := hD 4 rfl
     have d8 : _ = _ := hD 8 rfl
     clear hD hI
     generalize xs 0 = y0 at *
     generalize xs 4 = y4 at *
     generalize xs 8 = y8 at *
     subst d0 d4 d8
     go_wp2_with fail
     refine (at_any t ((x : Int) + (ii : Nat)) ((y : Int) + (jj : Nat)) at1 tc tn _ HTV.out Htn.out (RT5.ext (Ek.trans hG))).mono ?_
     rintro e wz ⟨rfl, ez⟩
     rw [← HPT.out]
     go_wp2
     exact hK.out _ _ ⟨rfl, hG.trans ez, fun _ _ _ _ _ _ h => h⟩
    case o10 =>
     clear hD hI
     obtain ⟨-, k0, k1, k2, -⟩ := bx3 (hG.blk X4.out)
     go_wp2
     exact hK.out _ _ ⟨rfl, hG, fun _ _ _ _ _ _ h => h⟩
    case o13 =>
     have d12 : _ = _ := hD 12 rfl
     clear hD hI
     generalize xs 12 = y12 at *
     subst d12
     go_wp2
     exact hK.out _ _ ⟨rfl, hG, fun _ _ _ _ _ _ h => h⟩
    case o14 =>
     have d11 : _ = _ := hD 11 rfl
     have d13 : _ = _ := hD 13 rfl
     clear hD hI
     generalize xs 11 = y11 at *
     generalize xs 13 = y13 at *
     subst d11 d13
     go_wp2
     exact hK.out _ _ ⟨by rw [← Hi.out], hG, fun _ _ _ _ _ _ h => h⟩
    case o17 =>
     have d16 : _ = _ := hD 16 rfl
     clear hD hI
     generalize xs 16 = y16 at *
     subst d16
     go_wp2
     exact hK.out _ _ ⟨rfl, hG, fun _ _ _ _ _ _ h => h⟩
    case o18 =>
     have d15 : _ = _ := hD 15 rfl
     have d17 : _ = _ := hD 17 rfl
     clear hD hI
     generalize xs 15 = y15 at *
     generalize xs 17 = y17 at *
     subst d15 d17
     go_wp2
     exact hK.out _ _ ⟨by rw [← Hj.out], hG, fun _ _ _ _ _ _ h => h⟩
    case o19 =>
     have d10 : _ = _ := hD 10 rfl
     have d14 : _ = _ := hD 14 rfl
     have d18 : _ = _ := hD 18 rfl
     clear hD hI
     generalize xs 10 = y10 at *
     generalize xs 14 = y14 at *
     generalize xs 18 = y18 at *
     subst d10 d14 d18
     go_wp2_with fail
     refine (at_any ⟨W, H, bl⟩ ((x : Int) + (ii : Nat)) ((y : Int) + (jj : Nat)) (some ⟨g, 0, none⟩) c1 l _ HDv.out HDn.out (SD5.ext (Ek.trans hG))).mono ?_
     rintro e wz ⟨rfl, ez⟩
     rw [← HPD.out]
     go_wp2
     exact hK.out _ _ ⟨rfl, hG.trans ez, fun _ _ _ _ _ _ h => h⟩
    case o20 =>
     have d9 : _ = _ := hD 9 rfl
     have d19 : _ = _ := hD 19 rfl
     clear hD hI
     generalize xs 9 = y9 at *
     generalize xs 19 = y19 at *
     subst d9 d19
     go_wp2
     exact hK.out _ _ ⟨rfl, hG, fun _ _ _ _ _ _ h => h⟩
    case o21 =>
     have d20 : _ = _ := hD 20 rfl
     clear hD hI
     generalize xs 20 = y20 at *
     subst d20
     go_wp2
     exact hK.out _ _ ⟨rfl, hG, fun _ _ _ _ _ _ h => h⟩
    all_goals
     clear hD hI
     go_wp2
     exact hK.out _ _ ⟨rfl, hG, fun _ _ _ _ _ _ h => h⟩
   intro xs wx hV hG
   have d21 : _ = _ := hV 21 (by decide)
   clear hV
   simp only [patchS, Nat.reduceAdd, Nat.reduceEqDiff, ↓reduceIte]
   generalize xs 0 = y0 at *
   generalize xs 1 = y1 at *
   generalize xs 2 = y2 at *
   generalize xs 3 = y3 at *
   generalize xs 4 = y4 at *
   generalize xs 5 = y5 at *
   generalize xs 6 = y6 at *
   generalize xs 7 = y7 at *
   generalize xs 8 = y8 at *
   generalize xs 9 = y9 at *
   generalize xs 10 = y10 at *
   generalize xs 11 = y11 at *
   generalize xs 12 = y12 at *
   generalize xs 13 = y13 at *
   generalize xs 14 = y14 at *
   generalize xs 15 = y15 at *
   generalize xs 16 = y16 at *
   generalize xs 17 = y17 at *
   generalize xs 18 = y18 at *
   generalize xs 19 = y19 at *
   generalize xs 20 = y20 at *
   generalize xs 21 = y21 at *
   replace hG : Ext wr wx := hG
   subst d21
   obtain ⟨dv, hdv⟩ : ∃ dv, dv = pt - pd := ⟨_, rfl⟩
   rw [← hdv] at hpd hsq Hnx Hwq ⊢
   have HDV := Lib.hid hdv
   clear hdv
   obtain ⟨S, hS⟩ : ∃ S, S = sqS t ⟨W, H, bl⟩ x y k := ⟨_, rfl⟩
   rw [← hS] at hsr Hnx ⊢
   clear hS
   go_wp2
   go_roundw
   case rel => exact ⟨k + 1, by omega, by go_num, by rw [Hnx.out]; congr 1; generalize dv * dv = z at *; first | omega | (unfold wrap64; omega), Ek.trans hG⟩
   case measure => simp [intOf]; omega
  ·obtain rfl : k = 64 := by omega
   obtain ⟨S, hS⟩ : ∃ S, S = sqS t ⟨W, H, bl⟩ x y 64 := ⟨_, rfl⟩
   rw [← hS] at hsr ⊢
   have HS := Lib.hid hS
   clear hS
   go_wp2
   go_ret
   exact ⟨ret_int (by rw [← Hbl.out, ← HS.out, ← HC0.out]; omega), E5.trans Ek⟩
end Go.Proofs.YtbnhaegidfbgbaaGreatDoor
namespace Go.Proofs.YtbnhaegidfbgbaaGreatDoor
open Go.RowKit
set_option maxHeartbeats 1000000
theorem byte_rangeV {L : List Int} (h : ∀ z ∈ L, (Lit.int .u8 z).wf = true) : ∀ z ∈ L, 0 ≤ z ∧ z ≤ 255 := by
 intro z hz
 have := h z hz
 simp [Lit.wf, IntKind.min, IntKind.max, IntKind.signed, IntKind.bits] at this
 exact ⟨by omega, by omega⟩
theorem sl_kept {w w' : World} {a : Option Addr} {n r : Nat} {xs : List Value} (h : Sl w a n xs) (g : w.grownBy w' (some r)) (hb : ∀ y, a = some y → 0 < n → y.block < r) : Sl w' a n xs := by
 by_cases h0 : n = 0
 ·subst h0
  exact ⟨h.1, fun i hi => by omega⟩
 ·exact h.grown g (fun y hy e => by have := hb y hy (by omega); simp at e; omega)
theorem PBx.e {w w' : World} {b : Nat} {p : Pic} {a : Option Addr} {n c : Nat} (h : PBx w b p a n c) (e : Ext w w') : PBx w' b p a n c := e.blk h
/-- What lies in the law's boxes: three pictures. -/
structure L3 (w : World) (O : Nat) (t : Pic) (a : Option Addr) (n c : Nat) (r : Pic) (a2 : Option Addr) (n2 c2 : Nat) (p : Pic) (a3 : Option Addr) (n3 c3 : Nat) (wx : World) : Prop where
 ex : Ext w wx
 b1 : PBx wx O t a n c
 b2 : PBx wx (O + 1) r a2 n2 c2
 b3 : PBx wx (O + 1 + 1) p a3 n3 c3
 s1 : Sl wx a n (t.px.map (Value.int .i64))
 s2 : Sl wx a2 n2 (r.px.map (Value.int .i64))
 s3 : Sl wx a3 n3 (p.px.map (Value.int .i64))
theorem L3.e {w wx wy : World} {O n c n2 c2 n3 c3 : Nat} {t r p : Pic} {a a2 a3 : Option Addr} (h : L3 w O t a n c r a2 n2 c2 p a3 n3 c3 wx) (e : Ext wx wy) : L3 w O t a n c r a2 n2 c2 p a3 n3 c3 wy :=
 ⟨h.ex.trans e, e.blk h.b1, e.blk h.b2, e.blk h.b3, h.s1.ext e, h.s2.ext e, h.s3.ext e⟩
theorem L3.g {w wx wy : World} {O n c n2 c2 n3 c3 u : Nat} {t r p : Pic} {a a2 a3 : Option Addr} (h : L3 w O t a n c r a2 n2 c2 p a3 n3 c3 wx) (g : wx.grownBy wy (some u)) (hw : w.heap.size ≤ u) (hu : O + 1 + 1 < u) (h1 : ∀ y, a = some y → 0 < n → y.block < u) (h2 : ∀ y, a2 = some y → 0 < n2 → y.block < u) (h3 : ∀ y, a3 = some y → 0 < n3 → y.block < u) : L3 w O t a n c r a2 n2 c2 p a3 n3 c3 wy :=
 ⟨Ext.grown h.ex g (fun k hk => by cases hk; exact hw), blk_gr h.b1 g (by simp; omega), blk_gr h.b2 g (by simp; omega), blk_gr h.b3 g (by simp; omega), sl_kept h.s1 g h1, sl_kept h.s2 g h2, sl_kept h.s3 g h3⟩
/-- The world behind the law's three boxes. -/
theorem L3.new {w w1 : World} {n c n2 c2 n3 c3 : Nat} {t r p : Pic} {a a2 a3 : Option Addr} (E : Ext w w1) (s1 : Sl w1 a n (t.px.map (Value.int .i64))) (s2 : Sl w1 a2 n2 (r.px.map (Value.int .i64))) (s3 : Sl w1 a3 n3 (p.px.map (Value.int .i64))) :
 L3 w w1.heap.size t a n c r a2 n2 c2 p a3 n3 c3 (((w1.alloc (.cells #[.int .i64 t.w, .int .i64 t.h, .slice a n c] 25)).alloc (.cells #[.int .i64 r.w, .int .i64 r.h, .slice a2 n2 c2] 25)).alloc (.cells #[.int .i64 p.w, .int .i64 p.h, .slice a3 n3 c3] 25)) := by
 have x1 := Ext.alloc w1 (.cells #[.int .i64 t.w, .int .i64 t.h, .slice a n c] 25)
 have x2 := Ext.alloc (w1.alloc (.cells #[.int .i64 t.w, .int .i64 t.h, .slice a n c] 25)) (.cells #[.int .i64 r.w, .int .i64 r.h, .slice a2 n2 c2] 25)
 have x3 := Ext.alloc ((w1.alloc (.cells #[.int .i64 t.w, .int .i64 t.h, .slice a n c] 25)).alloc (.cells #[.int .i64 r.w, .int .i64 r.h, .slice a2 n2 c2] 25)) (.cells #[.int .i64 p.w, .int .i64 p.h, .slice a3 n3 c3] 25)
 have y1 := blk_new w1 (.cells #[.int .i64 t.w, .int .i64 t.h, .slice a n c] 25)
 have y2 := blk_new (w1.alloc (.cells #[.int .i64 t.w, .int .i64 t.h, .slice a n c] 25)) (.cells #[.int .i64 r.w, .int .i64 r.h, .slice a2 n2 c2] 25)
 have y3 := blk_new ((w1.alloc (.cells #[.int .i64 t.w, .int .i64 t.h, .slice a n c] 25)).alloc (.cells #[.int .i64 r.w, .int .i64 r.h, .slice a2 n2 c2] 25)) (.cells #[.int .i64 p.w, .int .i64 p.h, .slice a3 n3 c3] 25)
 simp only [World.size_alloc] at y2 y3
 exact ⟨((E.trans x1).trans x2).trans x3, x3.blk (x2.blk y1), x3.blk y2, y3, ((s1.ext x1).ext x2).ext x3, ((s2.ext x1).ext x2).ext x3, ((s3.ext x1).ext x2).ext x3⟩
theorem sqS_comm (t D : Pic) (x y : Int) (k : Nat) : sqS t D x y k = sqS D t x y k := by
 induction k with
 | zero => rfl
 | succ k ih =>
  unfold sqS
  rw [ih]
  generalize pat t (x + (k % 8 : Nat)) (y + (k / 8 : Nat)) = u
  generalize pat D (x + (k % 8 : Nat)) (y + (k / 8 : Nat)) = v
  rw [show u - v = -(v - u) by omega, Int.neg_mul_neg]
theorem recD_valid {p : Pic} (h : p.valid) (r : Pic) (x y : Int) (m : Mac) (q top : Int) : (recD r p x y m q top).valid := by
 unfold recD
 exact bldS_valid h r x.toNat y.toNat m q.toNat top 4
theorem recD_len (r p : Pic) (x y : Int) (m : Mac) (q top : Int) : (recD r p x y m q top).px.length = p.px.length := by
 simp only [recD, bldS_len]
theorem recP_D {r p : Pic} {x y : Int} {m : Mac} {q top : Int} (h : okR r p x y m q top) : recP r p x y m q top = recD r p x y m q top := by
 unfold recD
 exact recP_yes h
theorem recD_w (r p : Pic) (x y : Int) (m : Mac) (q top : Int) : (recD r p x y m q top).w = p.w := by unfold recD; rfl
theorem recD_h (r p : Pic) (x y : Int) (m : Mac) (q top : Int) : (recD r p x y m q top).h = p.h := by unfold recD; rfl
theorem ne_self_false (z : Int) : (z != z) = false := by simp
end Go.Proofs.YtbnhaegidfbgbaaGreatDoor
namespace Go.Proofs.YtbnhaegidfbgbaaGreatDoor
open Go.RowKit
set_option maxHeartbeats 1000000
theorem tdiv8 {W : Int} (h : -8 ≤ W ∧ W ≤ 40) : -1 ≤ W.tdiv 8 ∧ W.tdiv 8 ≤ 5 := by
 by_cases h0 : 0 ≤ W
 ·rw [Int.tdiv_eq_ediv_of_nonneg h0]; omega
 ·obtain rfl | rfl | rfl | rfl | rfl | rfl | rfl | rfl : W = -1 ∨ W = -2 ∨ W = -3 ∨ W = -4 ∨ W = -5 ∨ W = -6 ∨ W = -7 ∨ W = -8 := by omega
  all_goals decide
set_option maxRecDepth 100000 in
theorem l20At_c (b P : Nat) (W H : Int) (a : Option Addr) (c n : Nat) (m : Int) (w : World) (h : RdP w b P) (hp : P < 2^36) (hm0 : 0 ≤ m) (hm : m ≤ 1000000) (hW : -8 ≤ W ∧ W ≤ 40) (hH : 0 ≤ H ∧ H ≤ 40) :
 Calls Tryz.prog 33 #[.pointer (some ⟨b, 0, none⟩), .agg #[.int .i64 W, .int .i64 H, .slice a n c], .int .i64 m] w fun e w' => ∃ x y : Int, e = .returned (.tuple #[.int .i64 x, .int .i64 y]) ∧ 0 ≤ y ∧ y ≤ 32 ∧ RdP w' b (P + 50) ∧ w.grownBy w' (some b) := by
 have hbw : b < w.heap.size := h.lt
 have e0 := Ext.alloc w (.cells #[.int .i64 W, .int .i64 H, .slice a n c] 25)
 have R0 := blk_new w (.cells #[.int .i64 W, .int .i64 H, .slice a n c] 25)
 have r0 := h.ext e0
 have g0 : w.grownBy _ (some b) := ext_gr e0
 have hu1 := tdiv8 hW
 obtain ⟨u, hu⟩ : ∃ u, u = max 1 (W.tdiv 8) := ⟨_, rfl⟩
 have hu2 : 1 ≤ u ∧ u ≤ 5 := by omega
 have Hu := Lib.hid hu
 obtain ⟨v, hv⟩ : ∃ v, v = max 1 (min 4 (H / 8)) := ⟨_, rfl⟩
 have hv2 : 1 ≤ v ∧ v ≤ 4 := by omega
 have Hv := Lib.hid hv
 clear e0 h hu hv
 go_enter Tryz.func33, Tryz.ntmps33
 go_upto_region 1 with fail
 generalize w.alloc (.cells #[.int .i64 W, .int .i64 H, .slice a n c] 25) = w0 at *
 have hext : ∀ (i : Nat) (own : Value) (ys : Nat → Value) (wa wb : World), wa.grownBy wb (some b) → (match i with | 0 => own = .pointer (some ⟨b, 0, none⟩) | 1 => own = .pointer (some ⟨w.heap.size, 0, none⟩) | 2 => own = .int .i64 W | 3 => own = .int .i64 (W.tdiv 8) | 4 => own = .int .i64 u | 5 => ∃ x : Int, own = .int .i64 x ∧ 0 ≤ x ∧ x < u | 6 => ∃ x : Int, own = .int .i64 x ∧ 0 ≤ x ∧ x ≤ 32 | 7 => ∃ x : Int, own = .int .i64 x ∧ 0 ≤ x ∧ x ≤ 32 | _ => True) → (match i with | 0 => own = .pointer (some ⟨b, 0, none⟩) | 1 => own = .pointer (some ⟨w.heap.size, 0, none⟩) | 2 => own = .int .i64 W | 3 => own = .int .i64 (W.tdiv 8) | 4 => own = .int .i64 u | 5 => ∃ x : Int, own = .int .i64 x ∧ 0 ≤ x ∧ x < u | 6 => ∃ x : Int, own = .int .i64 x ∧ 0 ≤ x ∧ x ≤ 32 | 7 => ∃ x : Int, own = .int .i64 x ∧ 0 ≤ x ∧ x ≤ 32 | _ => True) := by
  intro i own ys wa wb e h
  match i, h with
  | 0, h | 1, h | 2, h | 3, h | 4, h | 5, h | 6, h | 7, h => exact h
  | _ + 8, _ => trivial
 have Hext := Lib.hid hext
 clear hext
 refine wp_region_seq [(8, 7), (10, 0), (11, 1), (12, 2), (13, 3), (14, 4), (15, 5), (16, 6)] [[], [0], [0, 1], [0, 1, 2], [0, 1, 2, 3], [0, 1, 2, 3, 4], [0, 1, 2, 3, 4, 5], [0, 1, 2, 3, 4, 5, 6]] (fun i own ys wx => match i with | 0 => own = .pointer (some ⟨b, 0, none⟩) | 1 => own = .pointer (some ⟨w.heap.size, 0, none⟩) | 2 => own = .int .i64 W | 3 => own = .int .i64 (W.tdiv 8) | 4 => own = .int .i64 u | 5 => ∃ x : Int, own = .int .i64 x ∧ 0 ≤ x ∧ x < u | 6 => ∃ x : Int, own = .int .i64 x ∧ 0 ≤ x ∧ x ≤ 32 | 7 => ∃ x : Int, own = .int .i64 x ∧ 0 ≤ x ∧ x ≤ 32 | _ => True) (fun kx wx => DG w0 b P 1 kx wx) (by kernel_rfl) (by kernel_rfl) ?g0_r1 ?gop_r1 ?gend_r1
 case g0_r1 => exact DG.zero' r0
 case gop_r1 =>
  refine ⟨?_, ?_, ?o2, ?o3, ?o4, ?o5, ?o6, ?o7, trivial⟩ <;> (intro kx xs wx hk hG hD hI Qo Kx hK hQo; simp only [patchS, Nat.reduceAdd, Nat.reduceEqDiff, ↓reduceIte] at hQo ⊢)
  case o2 =>
   have d1 : _ = _ := hD 1 rfl
   clear hD hI
   generalize xs 1 = y1 at *
   subst d1
   have Rx := gr_blk hG.1 R0 (by omega)
   obtain ⟨-, q0, q1, q2, -⟩ := bx3 Rx
   go_wp2
   exact hK.out _ _ ⟨rfl, hG.step, fun _ _ _ _ _ _ h => h⟩
  case o3 =>
   have d2 : _ = _ := hD 2 rfl
   clear hD hI
   generalize xs 2 = y2 at *
   subst d2
   go_wp2
   exact hK.out _ _ ⟨rfl, hG.step, fun _ _ _ _ _ _ h => h⟩
  case o4 =>
   have d3 : _ = _ := hD 3 rfl
   clear hD hI
   generalize xs 3 = y3 at *
   subst d3
   go_wp2
   all_goals exact hK.out _ _ ⟨by have := Hu.out; congr 1 <;> omega, hG.step, fun _ _ _ _ _ _ h => h⟩
  case o5 =>
   have d0 : _ = _ := hD 0 rfl
   have d4 : _ = _ := hD 4 rfl
   clear hD hI
   generalize xs 0 = y0 at *
   generalize xs 4 = y4 at *
   subst d0 d4
   go_wp2_with fail
   refine (pick_c _ _ _ _ hG.2 (DG.small hk (by decide) (by decide) (by omega)) (by omega) (by omega)).mono ?_
   rintro e w4 ⟨xx, rfl, xa, xb, rd, gr⟩
   go_wp2
   exact hK.out _ _ ⟨⟨xx, rfl, xa, by omega⟩, hG.more gr rd (by decide), fun i _ _ _ own ys h => Hext.out i own ys _ _ gr h⟩
  case o6 =>
   have d5 : ∃ x : Int, (xs 5) = .int .i64 x ∧ 0 ≤ x ∧ x < u := hD 5 rfl
   clear hD hI
   generalize xs 5 = y5 at *
   obtain ⟨x5, rfl, x5a, x5b⟩ := d5
   go_wp2
   exact hK.out _ _ ⟨⟨_, rfl, by omega, by omega⟩, hG.step, fun _ _ _ _ _ _ h => h⟩
  case o7 =>
   have d6 : ∃ x : Int, (xs 6) = .int .i64 x ∧ 0 ≤ x ∧ x ≤ 32 := hD 6 rfl
   clear hD hI
   generalize xs 6 = y6 at *
   obtain ⟨x6, rfl, x6a, x6b⟩ := d6
   go_wp2
   exact hK.out _ _ ⟨⟨_, rfl, by omega, by omega⟩, hG.step, fun _ _ _ _ _ _ h => h⟩
  all_goals
   clear hD hI
   go_wp2
   exact hK.out _ _ ⟨rfl, hG.step, fun _ _ _ _ _ _ h => h⟩
 clear Hext
 intro xs wx hV hG
 have d7 : ∃ x : Int, (xs 7) = .int .i64 x ∧ 0 ≤ x ∧ x ≤ 32 := hV 7 (by decide)
 clear hV
 simp only [patchS, Nat.reduceAdd, Nat.reduceEqDiff, ↓reduceIte]
 generalize xs 0 = y0 at *
 generalize xs 1 = y1 at *
 generalize xs 2 = y2 at *
 generalize xs 3 = y3 at *
 generalize xs 4 = y4 at *
 generalize xs 5 = y5 at *
 generalize xs 6 = y6 at *
 generalize xs 7 = y7 at *
 replace hG : DG w0 b P 1 8 wx := hG
 obtain ⟨x7, rfl, x7a, x7b⟩ := d7
 have R1 := gr_blk hG.1 R0 (by omega)
 have G1 := grown_trans g0 hG.1
 have r1 := hG.2.mono (P' := P + 10) (by omega)
 clear R0 g0 r0 hG
 generalize wx = w1 at *
 go_upto_region 2 with fail
 have hext : ∀ (i : Nat) (own : Value) (ys : Nat → Value) (wa wb : World), wa.grownBy wb (some b) → (match i with | 0 => own = .pointer (some ⟨b, 0, none⟩) | 1 => own = .pointer (some ⟨w.heap.size, 1, none⟩) | 2 => own = .int .i64 H | 3 => own = .int .i64 (H / 8) | 4 => own = .int .i64 (min 4 (H / 8)) | 5 => own = .int .i64 v | 6 => ∃ x : Int, own = .int .i64 x ∧ 0 ≤ x ∧ x < v | 7 => ∃ x : Int, own = .int .i64 x ∧ 0 ≤ x ∧ x ≤ 32 | 8 => ∃ x : Int, own = .int .i64 x ∧ 0 ≤ x ∧ x ≤ 32 | _ => True) → (match i with | 0 => own = .pointer (some ⟨b, 0, none⟩) | 1 => own = .pointer (some ⟨w.heap.size, 1, none⟩) | 2 => own = .int .i64 H | 3 => own = .int .i64 (H / 8) | 4 => own = .int .i64 (min 4 (H / 8)) | 5 => own = .int .i64 v | 6 => ∃ x : Int, own = .int .i64 x ∧ 0 ≤ x ∧ x < v | 7 => ∃ x : Int, own = .int .i64 x ∧ 0 ≤ x ∧ x ≤ 32 | 8 => ∃ x : Int, own = .int .i64 x ∧ 0 ≤ x ∧ x ≤ 32 | _ => True) := by
  intro i own ys wa wb e h
  match i, h with
  | 0, h | 1, h | 2, h | 3, h | 4, h | 5, h | 6, h | 7, h | 8, h => exact h
  | _ + 9, _ => trivial
 have Hext := Lib.hid hext
 clear hext
 refine wp_region_seq [(9, 8), (17, 0), (18, 1), (19, 2), (20, 3), (21, 4), (22, 5), (23, 6), (24, 7)] [[], [0], [0, 1], [0, 1, 2], [0, 1, 2, 3], [0, 1, 2, 3, 4], [0, 1, 2, 3, 4, 5], [0, 1, 2, 3, 4, 5, 6], [0, 1, 2, 3, 4, 5, 6, 7]] (fun i own ys wx => match i with | 0 => own = .pointer (some ⟨b, 0, none⟩) | 1 => own = .pointer (some ⟨w.heap.size, 1, none⟩) | 2 => own = .int .i64 H | 3 => own = .int .i64 (H / 8) | 4 => own = .int .i64 (min 4 (H / 8)) | 5 => own = .int .i64 v | 6 => ∃ x : Int, own = .int .i64 x ∧ 0 ≤ x ∧ x < v | 7 => ∃ x : Int, own = .int .i64 x ∧ 0 ≤ x ∧ x ≤ 32 | 8 => ∃ x : Int, own = .int .i64 x ∧ 0 ≤ x ∧ x ≤ 32 | _ => True) (fun kx wx => DG w1 b (P+10) 1 kx wx) (by kernel_rfl) (by kernel_rfl) ?g0_r2 ?gop_r2 ?gend_r2
 case g0_r2 => exact DG.zero' r1
 case gop_r2 =>
  refine ⟨?_, ?_, ?o2, ?o3, ?o4, ?o5, ?o6, ?o7, ?o8, trivial⟩ <;> (intro kx xs wx hk hG hD hI Qo Kx hK hQo; simp only [patchS, Nat.reduceAdd, Nat.reduceEqDiff, ↓reduceIte] at hQo ⊢)
  case o2 =>
   have d1 : _ = _ := hD 1 rfl
   clear hD hI
   generalize xs 1 = y1 at *
   subst d1
   have Rx := gr_blk hG.1 R1 (by omega)
   obtain ⟨-, q0, q1, q2, -⟩ := bx3 Rx
   go_wp2
   exact hK.out _ _ ⟨rfl, hG.step, fun _ _ _ _ _ _ h => h⟩
  case o3 =>
   have d2 : _ = _ := hD 2 rfl
   clear hD hI
   generalize xs 2 = y2 at *
   subst d2
   go_wp2
   exact hK.out _ _ ⟨rfl, hG.step, fun _ _ _ _ _ _ h => h⟩
  case o4 =>
   have d3 : _ = _ := hD 3 rfl
   clear hD hI
   generalize xs 3 = y3 at *
   subst d3
   go_wp2
   all_goals exact hK.out _ _ ⟨by congr 1 <;> omega, hG.step, fun _ _ _ _ _ _ h => h⟩
  case o5 =>
   have d4 : _ = _ := hD 4 rfl
   clear hD hI
   generalize xs 4 = y4 at *
   subst d4
   go_wp2
   all_goals exact hK.out _ _ ⟨by have := Hv.out; congr 1 <;> omega, hG.step, fun _ _ _ _ _ _ h => h⟩
  case o6 =>
   have d0 : _ = _ := hD 0 rfl
   have d5 : _ = _ := hD 5 rfl
   clear hD hI
   generalize xs 0 = y0 at *
   generalize xs 5 = y5 at *
   subst d0 d5
   go_wp2_with fail
   refine (pick_c _ _ _ _ hG.2 (DG.small hk (by decide) (by decide) (by omega)) (by omega) (by omega)).mono ?_
   rintro e w4 ⟨xx, rfl, xa, xb, rd, gr⟩
   go_wp2
   exact hK.out _ _ ⟨⟨xx, rfl, xa, by omega⟩, hG.more gr rd (by decide), fun i _ _ _ own ys h => Hext.out i own ys _ _ gr h⟩
  case o7 =>
   have d6 : ∃ x : Int, (xs 6) = .int .i64 x ∧ 0 ≤ x ∧ x < v := hD 6 rfl
   clear hD hI
   generalize xs 6 = y6 at *
   obtain ⟨x6, rfl, x6a, x6b⟩ := d6
   go_wp2
   exact hK.out _ _ ⟨⟨_, rfl, by omega, by omega⟩, hG.step, fun _ _ _ _ _ _ h => h⟩
  case o8 =>
   have d7 : ∃ x : Int, (xs 7) = .int .i64 x ∧ 0 ≤ x ∧ x ≤ 32 := hD 7 rfl
   clear hD hI
   generalize xs 7 = y7 at *
   obtain ⟨x7, rfl, x7a, x7b⟩ := d7
   go_wp2
   exact hK.out _ _ ⟨⟨_, rfl, by omega, by omega⟩, hG.step, fun _ _ _ _ _ _ h => h⟩
  all_goals
   clear hD hI
   go_wp2
   exact hK.out _ _ ⟨rfl, hG.step, fun _ _ _ _ _ _ h => h⟩
 clear Hext
 intro xs wx hV hG
 have d8 : ∃ x : Int, (xs 8) = .int .i64 x ∧ 0 ≤ x ∧ x ≤ 32 := hV 8 (by decide)
 clear hV
 simp only [patchS, Nat.reduceAdd, Nat.reduceEqDiff, ↓reduceIte]
 generalize xs 0 = y0 at *
 generalize xs 1 = y1 at *
 generalize xs 2 = y2 at *
 generalize xs 3 = y3 at *
 generalize xs 4 = y4 at *
 generalize xs 5 = y5 at *
 generalize xs 6 = y6 at *
 generalize xs 7 = y7 at *
 generalize xs 8 = y8 at *
 replace hG : DG w1 b (P+10) 1 9 wx := hG
 obtain ⟨x8, rfl, x8a, x8b⟩ := d8
 have R2 := gr_blk hG.1 R1 (by omega)
 have G2 := grown_trans G1 hG.1
 have r2 := hG.2.mono (P' := P + 20) (by omega)
 clear R1 G1 r1 hG
 generalize wx = w2 at *
 go_wp2_with fail
 refine (odd_any b _ m _ r2 (by omega) hm0 (by omega)).mono ?_
 rintro e w3 ⟨x3, rfl, r3, g3⟩
 have R3 := gr_blk g3 R2 (by omega)
 have G3 := grown_trans G2 g3
 clear R2 r2 g3 G2
 cases x3
 ·go_wp2
  go_ret2
  exact ⟨_, _, rfl, by omega, by omega, r3.mono (by omega), G3⟩
 ·go_wp2_with fail
  have hext : ∀ (i : Nat) (own : Value) (ys : Nat → Value) (wa wb : World), wa.grownBy wb (some b) → (match i with | 0 => own = .int .i64 (x7) | 1 => ∃ x : Int, own = .int .i64 x ∧ 1 ≤ x ∧ x ≤ 33 | 2 => own = .pointer (some ⟨w.heap.size, 0, none⟩) | 3 => ∃ x : Int, own = .int .i64 x ∧ -8 ≤ x ∧ x ≤ 40 | 4 => SlR wa (b + 1) own 3 (-8) (40) | 5 => own = .pointer (some ⟨b, 0, none⟩) | 6 => ∃ x : Int, own = .int .i64 x ∧ 0 ≤ x ∧ x < 3 | 7 => PtR wa (b + 1) own (-8) (40) | 8 => ∃ x : Int, own = .int .i64 x ∧ -8 ≤ x ∧ x ≤ 40 | 9 => own = .int .i64 (x8) | 10 => ∃ x : Int, own = .int .i64 x ∧ -8 ≤ x ∧ x ≤ 40 | 11 => own = .int .i64 (x8) | _ => True) → (match i with | 0 => own = .int .i64 (x7) | 1 => ∃ x : Int, own = .int .i64 x ∧ 1 ≤ x ∧ x ≤ 33 | 2 => own = .pointer (some ⟨w.heap.size, 0, none⟩) | 3 => ∃ x : Int, own = .int .i64 x ∧ -8 ≤ x ∧ x ≤ 40 | 4 => SlR wb (b + 1) own 3 (-8) (40) | 5 => own = .pointer (some ⟨b, 0, none⟩) | 6 => ∃ x : Int, own = .int .i64 x ∧ 0 ≤ x ∧ x < 3 | 7 => PtR wb (b + 1) own (-8) (40) | 8 => ∃ x : Int, own = .int .i64 x ∧ -8 ≤ x ∧ x ≤ 40 | 9 => own = .int .i64 (x8) | 10 => ∃ x : Int, own = .int .i64 x ∧ -8 ≤ x ∧ x ≤ 40 | 11 => own = .int .i64 (x8) | _ => True) := by
   intro i own ys wa wb e h
   match i, h with
   | 0, h | 1, h | 2, h | 3, h | 5, h | 6, h | 8, h | 9, h | 10, h | 11, h => exact h
   | 4, h | 7, h => exact h.grown e (by omega)
   | _ + 12, _ => trivial
  have Hext := Lib.hid hext
  clear hext
  refine wp_region_inv2 (by kernel_rfl) [(6, 10), (7, 11), (28, 0), (29, 1), (30, 2), (31, 3), (32, 4), (33, 5), (34, 6), (35, 7), (36, 8), (37, 9)] [[], [0], [], [2], [0, 1, 2, 3], [], [5], [0, 1, 2, 3, 4, 5, 6], [0, 1, 2, 3, 4, 5, 6, 7], [], [0, 1, 2, 3, 4, 5, 6, 7, 8], [0, 1, 2, 3, 4, 5, 6, 7, 8, 9, 10]] (fun i own ys wx => match i with | 0 => own = .int .i64 (x7) | 1 => ∃ x : Int, own = .int .i64 x ∧ 1 ≤ x ∧ x ≤ 33 | 2 => own = .pointer (some ⟨w.heap.size, 0, none⟩) | 3 => ∃ x : Int, own = .int .i64 x ∧ -8 ≤ x ∧ x ≤ 40 | 4 => SlR wx (b + 1) own 3 (-8) (40) | 5 => own = .pointer (some ⟨b, 0, none⟩) | 6 => ∃ x : Int, own = .int .i64 x ∧ 0 ≤ x ∧ x < 3 | 7 => PtR wx (b + 1) own (-8) (40) | 8 => ∃ x : Int, own = .int .i64 x ∧ -8 ≤ x ∧ x ≤ 40 | 9 => own = .int .i64 (x8) | 10 => ∃ x : Int, own = .int .i64 x ∧ -8 ≤ x ∧ x ≤ 40 | 11 => own = .int .i64 (x8) | _ => True) (fun kx wx => DG w3 b (P+20+1) 1 kx wx) (by kernel_rfl) (by kernel_rfl) (by kernel_rfl) ?g0_r3 ?gop_r3 ?gend_r3
  case g0_r3 => exact DG.zero r3
  case gop_r3 =>
   refine ⟨?_, ?o1, ?_, ?o3, ?o4, ?_, ?o6, ?o7, ?o8, ?_, ?o10, ?o11, trivial⟩ <;> (intro kx xs wx hk hG hD hI Qo Kx hK hQo; simp only [patchS, Nat.reduceAdd, Nat.reduceEqDiff, ↓reduceIte] at hQo ⊢)
   case o1 =>
    have d0 : _ = _ := hD 0 rfl
    clear hD hI
    generalize xs 0 = y0 at *
    subst d0
    go_wp2
    exact hK.out _ _ ⟨⟨_, rfl, by omega, by omega⟩, hG.step, fun _ _ _ _ _ _ h => h⟩
   case o3 =>
    have d2 : _ = _ := hD 2 rfl
    clear hD hI
    generalize xs 2 = y2 at *
    subst d2
    have Rx := gr_blk hG.1 R3 (by omega)
    obtain ⟨-, q0, q1, q2, -⟩ := bx3 Rx
    go_wp2
    exact hK.out _ _ ⟨⟨W, rfl, by omega, by omega⟩, hG.step, fun _ _ _ _ _ _ h => h⟩
   case o4 =>
    have d1 : ∃ x : Int, (xs 1) = .int .i64 x ∧ 1 ≤ x ∧ x ≤ 33 := hD 1 rfl
    have d3 : ∃ x : Int, (xs 3) = .int .i64 x ∧ -8 ≤ x ∧ x ≤ 40 := hD 3 rfl
    clear hD hI
    generalize xs 1 = y1 at *
    generalize xs 3 = y3 at *
    obtain ⟨x1, rfl, x1a, x1b⟩ := d1
    obtain ⟨x3, rfl, x3a, x3b⟩ := d3
    have e5 := Ext.alloc wx (.cells #[.int .i64 x1, .int .i64 (-8), .int .i64 x3] 3)
    go_wp2
    exact hK.out _ _ ⟨⟨_, [x1, (-8), x3], rfl, by have := hG.2.lt; omega, Sl_new _ _ _, by simp <;> omega⟩, hG.ext e5, fun i _ _ _ own ys h => Hext.out i own ys _ _ (ext_gr e5) h⟩
   case o6 =>
    have d5 : _ = _ := hD 5 rfl
    clear hD hI
    generalize xs 5 = y5 at *
    subst d5
    go_wp2_with fail
    refine (pick_c _ _ _ _ hG.2 (DG.small hk (by decide) (by decide) (by omega)) (by omega) (by omega)).mono ?_
    rintro e w4 ⟨xx, rfl, xa, xb, rd, gr⟩
    go_wp2
    exact hK.out _ _ ⟨⟨xx, rfl, xa, by omega⟩, hG.more gr rd (by decide), fun i _ _ _ own ys h => Hext.out i own ys _ _ gr h⟩
   case o7 =>
    have d4 : SlR wx (b + 1) (xs 4) 3 (-8) (40) := hD 4 rfl
    have d6 : ∃ x : Int, (xs 6) = .int .i64 x ∧ 0 ≤ x ∧ x < 3 := hD 6 rfl
    clear hD hI
    generalize xs 4 = y4 at *
    generalize xs 6 = y6 at *
    obtain ⟨g4, l4, rfl, n4, s4, r4⟩ := d4
    obtain ⟨x6, rfl, x6a, x6b⟩ := d6
    go_wp2
    exact hK.out _ _ ⟨SlR.at n4 s4 r4 (by omega), hG.step, fun _ _ _ _ _ _ h => h⟩
   case o8 =>
    have d7 : PtR wx (b + 1) (xs 7) (-8) (40) := hD 7 rfl
    clear hD hI
    generalize xs 7 = y7 at *
    obtain ⟨g7, j7, y7, rfl, n7, c7, y7a, y7b⟩ := d7
    go_wp2
    exact hK.out _ _ ⟨⟨_, rfl, by omega, by omega⟩, hG.step, fun _ _ _ _ _ _ h => h⟩
   case o10 =>
    have d8 : ∃ x : Int, (xs 8) = .int .i64 x ∧ -8 ≤ x ∧ x ≤ 40 := hD 8 rfl
    clear hD hI
    generalize xs 8 = y8 at *
    obtain ⟨x8, rfl, x8a, x8b⟩ := d8
    go_wp2
    exact hK.out _ _ ⟨⟨_, rfl, by omega, by omega⟩, hG.step, fun _ _ _ _ _ _ h => h⟩
   case o11 =>
    have d9 : _ = _ := hD 9 rfl
    clear hD hI
    generalize xs 9 = y9 at *
    subst d9
    go_wp2
    exact hK.out _ _ ⟨rfl, hG.step, fun _ _ _ _ _ _ h => h⟩
   all_goals
    clear hD hI
    go_wp2
    exact hK.out _ _ ⟨rfl, hG.step, fun _ _ _ _ _ _ h => h⟩
  clear Hext
  intro xs wx hV hG
  have d10 : ∃ x : Int, (xs 10) = .int .i64 x ∧ -8 ≤ x ∧ x ≤ 40 := hV 10 (by decide)
  have d11 : _ = _ := hV 11 (by decide)
  clear hV
  simp only [patchS, Nat.reduceAdd, Nat.reduceEqDiff, ↓reduceIte]
  generalize xs 0 = y0 at *
  generalize xs 1 = y1 at *
  generalize xs 2 = y2 at *
  generalize xs 3 = y3 at *
  generalize xs 4 = y4 at *
  generalize xs 5 = y5 at *
  generalize xs 6 = y6 at *
  generalize xs 7 = y7 at *
  generalize xs 8 = y8 at *
  generalize xs 9 = y9 at *
  generalize xs 10 = y10 at *
  generalize xs 11 = y11 at *
  replace hG : DG w3 b (P+20+1) 1 12 wx := hG
  obtain ⟨x10, rfl, x10a, x10b⟩ := d10
  subst d11
  go_wp2
  go_ret2
  exact ⟨_, _, rfl, by omega, by omega, hG.2.mono (by omega), grown_trans G3 hG.1⟩
end Go.Proofs.YtbnhaegidfbgbaaGreatDoor
namespace Go.Proofs.YtbnhaegidfbgbaaGreatDoor
open Go.RowKit
set_option maxHeartbeats 1000000
/-- A box that holds some picture. -/
def PB0 (w : World) (b : Nat) : Prop := ∃ (x y : Int) (a : Option Addr) (n c : Nat), w.heap[b]? = some (.cells #[.int .i64 x, .int .i64 y, .slice a n c] 25 (0, 0))
theorem PB0.gr {w w' : World} {b : Nat} {row : Option Nat} (h : PB0 w b) (g : w.grownBy w' row) (hne : row ≠ some b) : PB0 w' b := by
 obtain ⟨x, y, a, n, c, h1⟩ := h
 exact ⟨x, y, a, n, c, blk_gr h1 g hne⟩
theorem PB0.ext {w w' : World} {b : Nat} (h : PB0 w b) (e : Ext w w') : PB0 w' b := by
 obtain ⟨x, y, a, n, c, h1⟩ := h
 exact ⟨x, y, a, n, c, e.blk h1⟩
/-- A box that holds some vector. -/
def VB (w : World) (b : Nat) : Prop := ∃ x y : Int, w.heap[b]? = some (.cells #[.int .i64 x, .int .i64 y] 27 (0, 0))
theorem VB.gr {w w' : World} {b : Nat} {row : Option Nat} (h : VB w b) (g : w.grownBy w' row) (hne : row ≠ some b) : VB w' b := by
 obtain ⟨x, y, h1⟩ := h
 exact ⟨x, y, blk_gr h1 g hne⟩
theorem VB.ext {w w' : World} {b : Nat} (h : VB w b) (e : Ext w w') : VB w' b := by
 obtain ⟨x, y, h1⟩ := h
 exact ⟨x, y, e.blk h1⟩
/-- A box that holds some macroblock. -/
def MB (w : World) (b : Nat) : Prop := ∃ zs : List Int, IB w b 32 zs ∧ zs.length = 71
theorem MB.gr {w w' : World} {b : Nat} {row : Option Nat} (h : MB w b) (g : w.grownBy w' row) (hne : row ≠ some b) : MB w' b := by
 obtain ⟨x, h1, h2⟩ := h
 exact ⟨x, h1.gr g hne, h2⟩
theorem MB.ext {w w' : World} {b : Nat} (h : MB w b) (e : Ext w w') : MB w' b := by
 obtain ⟨x, h1, h2⟩ := h
 exact ⟨x, h1.ext e, h2⟩
/-- What holds while the arguments are drawn. -/
structure DS (w : World) (b P C k O : Nat) (p : Pic) (a : Option Addr) (n c Q : Nat) (q : Pic) (a2 : Option Addr) (n2 c2 : Nat) (wx : World) : Prop where
 dg : DG w b P C k wx
 bx1 : PBx wx O p a n c
 bx2 : PBx wx Q q a2 n2 c2
 res1 : PB0 wx w.heap.size
 res2 : PB0 wx (w.heap.size + 1)
 sl1 : Sl wx a n (p.px.map (Value.int .i64))
 sl2 : Sl wx a2 n2 (q.px.map (Value.int .i64))
 hb : w.heap.size + 2 ≤ b
 hO : b < O
 hQ : O < Q
 ha : ∀ y, a = some y → b < y.block
 ha2 : ∀ y, a2 = some y → b < y.block
section
variable {w wx wy : World} {b P C k O n c Q n2 c2 : Nat} {p q : Pic} {a a2 : Option Addr}
theorem DS.step (h : DS w b P C k O p a n c Q q a2 n2 c2 wx) : DS w b P C (k + 1) O p a n c Q q a2 n2 c2 wx := ⟨h.dg.step, h.bx1, h.bx2, h.res1, h.res2, h.sl1, h.sl2, h.hb, h.hO, h.hQ, h.ha, h.ha2⟩
theorem DS.grb {P' k' : Nat} (h : DS w b P C k O p a n c Q q a2 n2 c2 wx) (e : wx.grownBy wy (some b)) (d : DG w b P' C k' wy) : DS w b P' C k' O p a n c Q q a2 n2 c2 wy := by
 have h1 := h.hb
 have h2 := h.hO
 have h3 := h.hQ
 exact ⟨d, h.bx1.gr e (by simp; omega), h.bx2.gr e (by simp; omega), h.res1.gr e (by simp; omega), h.res2.gr e (by simp; omega), h.sl1.grown e (fun u hu => by have := h.ha u hu; simp; omega), h.sl2.grown e (fun u hu => by have := h.ha2 u hu; simp; omega), h1, h2, h3, h.ha, h.ha2⟩
theorem DS.more {c' : Nat} (h : DS w b P C k O p a n c Q q a2 n2 c2 wx) (e : wx.grownBy wy (some b)) (r : RdP wy b (P + k * C + c')) (hc : c' ≤ C) : DS w b P C (k + 1) O p a n c Q q a2 n2 c2 wy := h.grb e (h.dg.more e r hc)
theorem DS.ext (h : DS w b P C k O p a n c Q q a2 n2 c2 wx) (e : Ext wx wy) : DS w b P C (k + 1) O p a n c Q q a2 n2 c2 wy := h.grb (ext_gr e) (h.dg.ext e)
theorem DS.low {r : Nat} (h : DS w b P C k O p a n c Q q a2 n2 c2 wx) (g : wx.grownBy wy (some r)) (hr : w.heap.size ≤ r) (hr2 : r < b) (rd : RdP wy b (P + k * C)) (h1 : PB0 wy w.heap.size) (h2 : PB0 wy (w.heap.size + 1)) : DS w b P C (k + 1) O p a n c Q q a2 n2 c2 wy := by
 have q1 := h.hb
 have q2 := h.hO
 have q3 := h.hQ
 exact ⟨⟨grown_any h.dg.1 g (fun k hk => by cases hk; omega), rd.mono (by rw [Nat.succ_mul]; omega)⟩, h.bx1.gr g (by simp; omega), h.bx2.gr g (by simp; omega), h1, h2, h.sl1.grown g (fun u hu => by have := h.ha u hu; simp; omega), h.sl2.grown g (fun u hu => by have := h.ha2 u hu; simp; omega), q1, q2, q3, h.ha, h.ha2⟩
theorem DS.put1 {x y x' y' : Int} {a' a3 : Option Addr} {n' c' n3 c3 : Nat} (h : DS w b P C k O p a n c Q q a2 n2 c2 wx) (g : wx.grownBy (((wx.setCell ⟨w.heap.size, 0, none⟩ (.int .i64 x')).setCell ⟨w.heap.size, 1, none⟩ (.int .i64 y')).setCell ⟨w.heap.size, 2, none⟩ (.slice a3 n3 c3)) (some w.heap.size)) (hr : wx.heap[w.heap.size]? = some (.cells #[.int .i64 x, .int .i64 y, .slice a' n' c'] 25 (0, 0))) :
 DS w b P C (k + 1) O p a n c Q q a2 n2 c2 (((wx.setCell ⟨w.heap.size, 0, none⟩ (.int .i64 x')).setCell ⟨w.heap.size, 1, none⟩ (.int .i64 y')).setCell ⟨w.heap.size, 2, none⟩ (.slice a3 n3 c3)) := by
 have q1 := h.hb
 exact h.low g (by omega) (by omega) (h.dg.2.setP3 hr (by omega)) ⟨_, _, _, _, _, blk_set3 hr⟩ (h.res2.gr g (by simp))
theorem DS.put2 {x y x' y' : Int} {a' a3 : Option Addr} {n' c' n3 c3 : Nat} (h : DS w b P C k O p a n c Q q a2 n2 c2 wx) (g : wx.grownBy (((wx.setCell ⟨w.heap.size + 1, 0, none⟩ (.int .i64 x')).setCell ⟨w.heap.size + 1, 1, none⟩ (.int .i64 y')).setCell ⟨w.heap.size + 1, 2, none⟩ (.slice a3 n3 c3)) (some (w.heap.size + 1))) (hr : wx.heap[w.heap.size + 1]? = some (.cells #[.int .i64 x, .int .i64 y, .slice a' n' c'] 25 (0, 0))) :
 DS w b P C (k + 1) O p a n c Q q a2 n2 c2 (((wx.setCell ⟨w.heap.size + 1, 0, none⟩ (.int .i64 x')).setCell ⟨w.heap.size + 1, 1, none⟩ (.int .i64 y')).setCell ⟨w.heap.size + 1, 2, none⟩ (.slice a3 n3 c3)) := by
 have q1 := h.hb
 exact h.low g (by omega) (by omega) (h.dg.2.setP3 hr (by omega)) (h.res1.gr g (by simp)) ⟨_, _, _, _, _, blk_set3 hr⟩
theorem DS.lift (h : DS w b P C k O p a n c Q q a2 n2 c2 wx) : Ext w wx := Ext.grown (Below.refl _ _) h.dg.1 (fun k hk => by have := h.hb; simp at hk; omega)
end
def DS3 (B : World → Nat → Prop) (w : World) (b P C k O : Nat) (p : Pic) (a : Option Addr) (n c Q : Nat) (q : Pic) (a2 : Option Addr) (n2 c2 : Nat) (wx : World) : Prop := DS w b P C k O p a n c Q q a2 n2 c2 wx ∧ B wx (w.heap.size + 2) ∧ w.heap.size + 3 ≤ b ∧ ∀ (wa wb : World) (r x : Nat), B wa x → wa.grownBy wb (some r) → r ≠ x → B wb x
section
variable {B : World → Nat → Prop} {w wx wy : World} {b P C k O n c Q n2 c2 : Nat} {p q : Pic} {a a2 : Option Addr}
theorem DS3.step (h : DS3 B w b P C k O p a n c Q q a2 n2 c2 wx) : DS3 B w b P C (k + 1) O p a n c Q q a2 n2 c2 wx := ⟨h.1.step, h.2⟩
theorem DS3.more {c' : Nat} (h : DS3 B w b P C k O p a n c Q q a2 n2 c2 wx) (e : wx.grownBy wy (some b)) (r : RdP wy b (P + k * C + c')) (hc : c' ≤ C) : DS3 B w b P C (k + 1) O p a n c Q q a2 n2 c2 wy := ⟨h.1.more e r hc, h.2.2.2 _ _ _ _ h.2.1 e (by have := h.2.2.1; omega), h.2.2⟩
theorem DS3.ext (h : DS3 B w b P C k O p a n c Q q a2 n2 c2 wx) (e : Ext wx wy) : DS3 B w b P C (k + 1) O p a n c Q q a2 n2 c2 wy := ⟨h.1.ext e, h.2.2.2 _ _ _ _ h.2.1 (ext_gr e : wx.grownBy wy (some b)) (by have := h.2.2.1; omega), h.2.2⟩
end
end Go.Proofs.YtbnhaegidfbgbaaGreatDoor
