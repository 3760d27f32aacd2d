/- What a macroblock costs; the program's walk. | What a macroblock costs: the reference's walk. -/
import Derived.Test.YtbnhaegidfbgbaaGreatDoorQn13
set_option linter.unusedVariables false
set_option linter.unusedSimpArgs false
namespace Go.Proofs.YtbnhaegidfbgbaaGreatDoor
open Go.RowKit
set_option maxHeartbeats 1000000
/-- The sum of the squares of the first k differences. -/
def sqS (t D : Pic) (x y : Int) : Nat → Int
 | 0 => 0
 | k + 1 => sqS t D x y k + (pat t (x + (k % 8 : Nat)) (y + (k / 8 : Nat)) - pat D (x + (k % 8 : Nat)) (y + (k / 8 : Nat))) * (pat t (x + (k % 8 : Nat)) (y + (k / 8 : Nat)) - pat D (x + (k % 8 : Nat)) (y + (k / 8 : Nat)))
theorem sq_rng {d : Int} (h1 : -255 ≤ d) (h2 : d ≤ 255) : 0 ≤ d * d ∧ d * d ≤ 65025 := by
 have h := Int.mul_nonneg (show 0 ≤ 255 - d by omega) (show 0 ≤ 255 + d by omega)
 rw [Int.sub_mul, Int.mul_add, Int.mul_add, Int.mul_comm d 255] at h
 have h0 : 0 ≤ d * d := by
  rcases Int.le_total 0 d with h3 | h3
  ·exact Int.mul_nonneg h3 h3
  ·have := Int.mul_nonneg (show 0 ≤ -d by omega) (show 0 ≤ -d by omega)
   rwa [Int.neg_mul_neg] at this
 exact ⟨h0, by omega⟩
theorem pd_rng {t D : Pic} (ht : t.valid) (hD : D.valid) (x y : Int) : -255 ≤ pat t x y - pat D x y ∧ pat t x y - pat D x y ≤ 255 := by
 have h1 := pat_rng ht x y
 have h2 := pat_rng hD x y
 omega
theorem sqS_rng {t D : Pic} (ht : t.valid) (hD : D.valid) (x y : Int) (k : Nat) : 0 ≤ sqS t D x y k ∧ sqS t D x y k ≤ 65025 * k := by
 induction k with
 | zero => exact ⟨Int.le_refl _, Int.le_refl _⟩
 | succ k ih =>
  rw [sqS]
  have hd := pd_rng ht hD (x + (k % 8 : Nat)) (y + (k / 8 : Nat))
  have := sq_rng hd.1 hd.2
  generalize (pat t (x + (k % 8 : Nat)) (y + (k / 8 : Nat)) - pat D (x + (k % 8 : Nat)) (y + (k / 8 : Nat))) * (pat t (x + (k % 8 : Nat)) (y + (k / 8 : Nat)) - pat D (x + (k % 8 : Nat)) (y + (k / 8 : Nat))) = z at *
  omega
theorem rate_rng {m : Mac} {q : Nat} (hm : m.ok) (hv : m.valid) (hq : q < 16) : 0 ≤ stp q * (macN m : Int) ∧ stp q * (macN m : Int) ≤ 2560000 := by
 have h1 := stp_rng hq
 have h2 := macN_le hm hv
 have h3 := Int.mul_nonneg (show 0 ≤ stp q by omega) (show (0 : Int) ≤ (macN m : Int) by omega)
 have h4 := Int.mul_le_mul h1.2 (show (macN m : Int) ≤ 5000 by omega) (by omega) (by omega)
 exact ⟨h3, by omega⟩
/-- The decoded picture of a macroblock. -/
noncomputable def recD (ref p : Pic) (x y : Int) (m : Mac) (q top : Int) : Pic := ⟨p.w, p.h, bldS ref p x.toNat y.toNat m q.toNat top 4⟩
/-- The cost. -/
noncomputable def costP (t ref p : Pic) (x y : Int) (m : Mac) (q top : Int) : Int := if alikeP t p ∧ okR ref p x y m q top then sqS t (recD ref p x y m q top) x y 64 + stp q.toNat * (macN m : Int) else -1
theorem cellP {w : World} {g n k : Nat} {xs : List Int} {z : Int} (h : Sl w (some ⟨g, 0, none⟩) n (xs.map (Value.int .i64))) (hk : k < n) (hz : nth xs k = z) : w.cell? ⟨g, k, none⟩ = some (.int .i64 z) := by
 obtain ⟨b, off, ha, hc⟩ := h.int hk
 simp only [Option.some.injEq, Addr.mk.injEq] at ha
 obtain ⟨rfl, rfl, -⟩ := ha
 rw [Nat.zero_add, hz] at hc
 exact hc
theorem impl_QuantStep_inC (q : Nat) (w : World) (hT : TabQ w) (hq : q < 16) :
 Calls Tryz.prog 13 #[.int .i64 q] w fun e w' => e = .returned (.int .i64 (stp q)) ∧ w = w' := by
 have ht := hT q hq
 have hs := stp_rng hq
 generalize stp q = s at *
 go_enter Tryz.func13, Tryz.ntmps13
 go_wp2_with fail
 refine (qualityValid_in _ _ (by omega) (by omega)).mono ?_
 rintro e w1 ⟨rfl, rfl⟩
 go_wp2
 go_ret
 exact ⟨rfl, rfl⟩
set_option maxRecDepth 100000 in
set_option maxHeartbeats 2000000 in
theorem impl_cost_in (t ref : Pic) (W H x y : Nat) (px : List Int) (m : Mac) (q : Nat) (top : Int) (at1 a b : Option Addr) (tc c d tn n l : Nat) (w : World) (hT : TabQ w) (htn : tn = t.px.length) (hn : n = ref.px.length) (hl : l = px.length) (nc : n ≤ 9223372036854775807) (rt : Sl w at1 tn (t.px.map (Value.int .i64))) (r : Sl w a n (ref.px.map (Value.int .i64))) (s : Sl w b l (px.map (Value.int .i64))) (hm : m.ok) (htv : t.valid) (ho : okR ref ⟨W, H, px⟩ x y m q top) :
 Calls Tryz.prog 40 #[.agg #[.int .i64 t.w, .int .i64 t.h, .slice at1 tn tc], .agg #[.int .i64 ref.w, .int .i64 ref.h, .slice a n c], .agg #[.int .i64 W, .int .i64 H, .slice b l d], .int .i64 (x : Nat), .int .i64 (y : Nat), .agg (ic m.zs), .int .i64 q, .int .i64 top] w fun e w' => e = .returned (.int .i64 (sqS t ⟨W, H, bldS ref ⟨W, H, px⟩ x y m q top 4⟩ x y 64 + stp q * (macN m : Int))) ∧ Ext w w' := by
 have hlen := Pic.len_le ho.1.1
 simp only at hlen
 rw [← hl] at hlen
 obtain ⟨bl, hbl⟩ : ∃ bl, bl = bldS ref ⟨W, H, px⟩ x y m q top 4 := ⟨_, rfl⟩
 have hDv : Pic.valid ⟨W, H, bl⟩ := by rw [hbl]; exact bldS_valid ho.1.1 ref x y m q top 4
 have hxy : (x : Int) < 40 ∧ (y : Int) < 40 := by
  have h1 := ho.1.1.1
  have h2 := ho.1.1.2.1
  have h3 := ho.1.2.2.1
  have h4 := ho.1.2.2.2.2.2.1
  simp only [side] at h1 h2 h3 h4
  omega
 have HDn := Lib.hid (show l = bl.length by rw [hbl, bldS_len]; exact hl)
 have Hbl := Lib.hid hbl
 clear hbl
 have hrt := rate_rng hm ho.2.1 (show q < 16 by have := ho.2.2.1; omega)
 have Htn := Lib.hid htn
 have Hn := Lib.hid hn
 have HL := Lib.hid hl
 have Hm := Lib.hid hm
 have Hl := Lib.hid (Mac.zs_len hm)
 have Hok := Lib.hid ho
 have HTV := Lib.hid htv
 have HDv := Lib.hid hDv
 have hq : q < 16 := by have := ho.2.2.1; omega
 have ht0 : 0 ≤ top := ho.2.2.2.1.1
 clear hn hl hm ho htn htv hDv
 have a2 := Ext.alloc (w.alloc (.cells #[.int .i64 t.w, .int .i64 t.h, .slice at1 tn tc] 25)) (.cells #[.int .i64 ref.w, .int .i64 ref.h, .slice a n c] 25)
 have a3 := Ext.alloc ((w.alloc (.cells #[.int .i64 t.w, .int .i64 t.h, .slice at1 tn tc] 25)).alloc (.cells #[.int .i64 ref.w, .int .i64 ref.h, .slice a n c] 25)) (.cells #[.int .i64 W, .int .i64 H, .slice b l d] 25)
 have a4 := Ext.alloc (((w.alloc (.cells #[.int .i64 t.w, .int .i64 t.h, .slice at1 tn tc] 25)).alloc (.cells #[.int .i64 ref.w, .int .i64 ref.h, .slice a n c] 25)).alloc (.cells #[.int .i64 W, .int .i64 H, .slice b l d] 25)) (.cells (ic m.zs) 32)
 have p0 := a4.blk (a3.blk (a2.blk (blk_new w (.cells #[.int .i64 t.w, .int .i64 t.h, .slice at1 tn tc] 25))))
 have p1 := a4.blk (a3.blk (blk_new (w.alloc (.cells #[.int .i64 t.w, .int .i64 t.h, .slice at1 tn tc] 25)) (.cells #[.int .i64 ref.w, .int .i64 ref.h, .slice a n c] 25)))
 have p2 := a4.blk (blk_new ((w.alloc (.cells #[.int .i64 t.w, .int .i64 t.h, .slice at1 tn tc] 25)).alloc (.cells #[.int .i64 ref.w, .int .i64 ref.h, .slice a n c] 25)) (.cells #[.int .i64 W, .int .i64 H, .slice b l d] 25))
 have p3 := IB.new (((w.alloc (.cells #[.int .i64 t.w, .int .i64 t.h, .slice at1 tn tc] 25)).alloc (.cells #[.int .i64 ref.w, .int .i64 ref.h, .slice a n c] 25)).alloc (.cells #[.int .i64 W, .int .i64 H, .slice b l d] 25)) 32 m.zs
 have E1 := (((Ext.alloc w (.cells #[.int .i64 t.w, .int .i64 t.h, .slice at1 tn tc] 25)).trans a2).trans a3).trans a4
 simp only [World.size_alloc] at p1 p2 p3
 clear a2 a3 a4
 obtain ⟨B, hB⟩ : ∃ B, B = w.heap.size := ⟨_, rfl⟩
 rw [← hB] at p0 p1 p2 p3
 have hwB : w.heap.size ≤ B := by omega
 have HB := Lib.hid hB
 have hb1 := p3.lt
 go_enter Tryz.func40, Tryz.ntmps40
 go_upto_region 1 with fail
 try simp only [World.size_alloc]
 rw [← hB]
 clear hB
 generalize (((w.alloc (.cells #[.int .i64 t.w, .int .i64 t.h, .slice at1 tn tc] 25)).alloc (.cells #[.int .i64 ref.w, .int .i64 ref.h, .slice a n c] 25)).alloc (.cells #[.int .i64 W, .int .i64 H, .slice b l d] 25)).alloc (.cells (ic m.zs) 32) = w1 at *
 obtain ⟨-, i0, i1, i2, -⟩ := bx3 p2
 go_wp2_with fail
 refine (clone_any W H b d l px _ (by omega) (s.ext E1)).mono ?_
 rintro e wa ⟨a1, c1, rfl, own1, e2⟩
 have r0 := e2.blk p0
 have r1 := e2.blk p1
 have r2 := e2.blk p2
 have r3 := p3.ext e2
 have E2 := E1.trans e2
 clear p0 p1 p2 p3 E1 e2 i0 i1 i2
 have hgo : ∃ g, a1 = some ⟨g, 0, none⟩ ∧ g < wa.heap.size ∧ w1.heap.size ≤ g := by
  rcases own1.2 with ⟨-, h0⟩ | ⟨g, cc, cur, hv, hb, hb2, -⟩
  ·omega
  ·simp only [Value.slice.injEq] at hv
   exact ⟨g, hv.1, lt_of_block hb2, hb⟩
 obtain ⟨g, rfl, hg1, hg2⟩ := hgo
 have a5 := Ext.alloc wa (.cells #[.int .i64 W, .int .i64 H, .slice (some ⟨g, 0, none⟩) l c1] 25)
 have z0 := a5.blk r0
 have z1 := a5.blk r1
 have z3 := r3.ext a5
 have z4 := blk_new wa (.cells #[.int .i64 W, .int .i64 H, .slice (some ⟨g, 0, none⟩) l c1] 25)
 have own2 := owns_ext own1 a5
 have E3 := E2.trans a5
 have hO := r3.lt
 obtain ⟨O, hOe⟩ : ∃ O, O = wa.heap.size := ⟨_, rfl⟩
 rw [← hOe] at z4 hg1 hO
 have HO2 := Lib.hid hOe
 clear r0 r1 r2 r3 own1 E2 a5
 obtain ⟨-, i0, i1, i2, -⟩ := bx3 z1
 obtain ⟨-, o0, o1, o2, -⟩ := bx3 z4
 have hOlt := lt_of_block z4
 go_upto_region 2 with fail
 rw [← hOe]
 clear hOe
 generalize wa.alloc (.cells #[.int .i64 W, .int .i64 H, .slice (some ⟨g, 0, none⟩) l c1] 25) = w2 at *
 go_wp2_with (refine wpList_iload 32 _ rfl rfl z3 0 71 rfl _ Tryz.underlying32 rfl size_Macro (by rw [Hl.out]; omega) _ (by rw [sub_all _ _ Hl.out]) ?_)
 have hrz : ¬ m.kind = 2 → ∀ z, a = some z → z.block ≠ g := fun hk z hz => by
  have h9 := Pic.len_le (okR_ref Hok.out hk)
  rw [← Hn.out] at h9
  have := sl_bound r z hz (by omega)
  omega
 have hT0 := World.block_lt_of_cell? w _ (hT 0 (by omega))
 refine (rebuild_any ref W H x y px m q top a n c w1.heap.size g l c1 _ (hT.ext E3) (by simp only at hT0; omega) own2 Hok.out.1 Hm.out Hok.out.2.1 hq (fun hk => okR_ref Hok.out hk) Hn.out (r.ext E3) hrz).mono ?_
 rintro e w3 ⟨rfl, own3, g3⟩
 rw [← Hbl.out] at own3
 have u0 := blk_gr z0 g3 (by simp; omega)
 have u3 := z3.gr g3 (by simp; omega)
 have u4 := blk_gr z4 g3 (by simp; omega)
 have hs1 : B ≤ w1.heap.size := by omega
 have E4 : Ext w w3 := Ext.grown E3 g3 (fun k e => by cases e; omega)
 have SD := Sl.of_owns own3
 clear z0 z1 z3 z4 own2 own3 E3 g3 i0 i1 i2 o0 o1 o2
 have RT := rt.ext E4
 obtain ⟨s0, hs0⟩ : ∃ s0, s0 = stp q := ⟨_, rfl⟩
 obtain ⟨N0, hN0⟩ : ∃ N0, N0 = macN m := ⟨_, rfl⟩
 obtain ⟨C, hC⟩ : ∃ C, C = stp q * (macN m : Int) := ⟨_, rfl⟩
 rw [← hC] at hrt
 have HC := Lib.hid (show s0 * (N0 : Int) = C by rw [hs0, hN0, hC])
 have HW := Lib.hid (show wrap64 (s0 * (N0 : Int)) = C by rw [hs0, hN0, ← hC]; unfold wrap64; omega)
 have HS0 := Lib.hid hs0
 have HN0 := Lib.hid hN0
 have HC0 := Lib.hid hC
 have hs0r := stp_rng hq
 rw [← hs0] at hs0r
 have hN0r := macN_le Hm.out Hok.out.2.1
 rw [← hN0] at hN0r
 have hTe := hT.ext E4
 clear hs0 hN0 hC
 go_upto_region 3 with fail
 refine wp_region_inv2 (by kernel_rfl) [(18, 6), (31, 0), (32, 1), (33, 2), (34, 3), (35, 4), (36, 5)] [[], [0], [], [0, 1, 2], [0, 1, 2, 3], [0, 1, 2, 3, 4], [0, 1, 2, 3, 4, 5]] (fun i own ys wx => match i with | 0 => own = .int .i64 (q : Nat) | 1 => own = .int .i64 s0 | 2 => own = .agg (ic m.zs) | 3 => ∃ (a3 : Option Addr) (c3 : Nat), own = .slice a3 N0 c3 | 4 => own = .int .i64 (N0 : Nat) | 5 => own = .int .i64 C | 6 => own = .int .i64 C | _ => True) (fun kx wx => Ext w3 wx) (by kernel_rfl) (by kernel_rfl) (by kernel_rfl) ?g0_r1 ?gop_r1 ?gend_r1
 case g0_r1 => exact Ext.drewN _ 1
 case gop_r1 =>
  refine ⟨?o0, ?o1, ?o2, ?o3, ?o4, ?o5, ?o6, trivial⟩ <;> (intro kx xs wx hk hG hD hI Qo Kx hK hQo; simp only [patchS, Nat.reduceAdd, Nat.reduceEqDiff, ↓reduceIte] at hQo ⊢)
  case o0 =>
   clear hD hI
   go_wp2
   exact hK.out _ _ ⟨rfl, hG, fun _ _ _ _ _ _ h => h⟩
  case o1 =>
   have d0 : _ = _ := hD 0 rfl
   clear hD hI
   generalize xs 0 = y0 at *
   subst d0
   go_wp2_with fail
   refine (impl_QuantStep_inC q _ (hTe.ext hG) hq).mono ?_
   rintro e wz ⟨rfl, rfl⟩
   rw [← HS0.out]
   go_wp2
   exact hK.out _ _ ⟨rfl, hG, fun _ _ _ _ _ _ h => h⟩
  case o2 =>
   clear hD hI
   go_wp2_with (refine wpList_iload 32 _ rfl rfl (u3.ext hG) 0 71 rfl _ Tryz.underlying32 rfl size_Macro (by rw [Hl.out]; omega) _ (by rw [sub_all _ _ Hl.out]) ?_)
   exact hK.out _ _ ⟨rfl, hG, fun _ _ _ _ _ _ h => h⟩
  case o3 =>
   have d2 : _ = _ := hD 2 rfl
   clear hD hI
   generalize xs 2 = y2 at *
   subst d2
   go_wp2_with fail
   refine (impl_MacroBins_in m _ Hm.out Hok.out.2.1).mono ?_
   rintro e wz ⟨az, cz, rfl, -, ez⟩
   rw [← HN0.out]
   go_wp2
   exact hK.out _ _ ⟨⟨az, cz, rfl⟩, hG.trans ez, fun _ _ _ _ _ _ h => h⟩
  case o4 =>
   have d3 : ∃ (a3 : Option Addr) (c3 : Nat), (xs 3) = .slice a3 N0 c3 := hD 3 rfl
   clear hD hI
   generalize xs 3 = y3 at *
   obtain ⟨a3, c3, rfl⟩ := d3
   go_wp2
   exact hK.out _ _ ⟨rfl, hG, fun _ _ _ _ _ _ h => h⟩
  case o5 =>
   have d1 : _ = _ := hD 1 rfl
   have d4 : _ = _ := hD 4 rfl
   clear hD hI
   generalize xs 1 = y1 at *
   generalize xs 4 = y4 at *
   subst d1 d4
   go_wp2
   exact hK.out _ _ ⟨by first | rw [HW.out] | rw [HC.out], hG, fun _ _ _ _ _ _ h => h⟩
  case o6 =>
   have d5 : _ = _ := hD 5 rfl
   clear hD hI
   generalize xs 5 = y5 at *
   subst d5
   go_wp2
   exact hK.out _ _ ⟨rfl, hG, fun _ _ _ _ _ _ h => h⟩
 intro xs wx hV hG
 have d6 : _ = _ := hV 6 (by decide)
 clear hV
 simp only [patchS, Nat.reduceAdd, Nat.reduceEqDiff, ↓reduceIte]
 generalize xs 0 = y0 at *
 generalize xs 1 = y1 at *
 generalize xs 2 = y2 at *
 generalize xs 3 = y3 at *
 generalize xs 4 = y4 at *
 generalize xs 5 = y5 at *
 generalize xs 6 = y6 at *
 replace hG : Ext w3 wx := hG
 subst d6
 have E5 := E4.trans hG
 have x0 := hG.blk u0
 have x4 := hG.blk u4
 have SD5 := SD.ext hG
 have RT5 := RT.ext hG
 clear hG u0 u3 u4 SD RT hTe E4
 generalize wx = w5 at *
 go_wp2_with fail
 go_loopw [18, 37] (fun v i wr => ∃ k : Nat, k ≤ 64 ∧ i = .int .i64 k ∧ v = .int .i64 (C + sqS t ⟨W, H, bl⟩ x y k) ∧ Ext w5 wr) (fun _ i _ => 64 - (intOf i).toNat)
 case atStart => exact ⟨0, by omega, rfl, by simp [sqS], Below.refl _ _⟩
 case round =>
  obtain ⟨k, hk, rfl, rfl, Ek⟩ := hrel
  have hsr := sqS_rng HTV.out HDv.out x y k
  by_cases hlt : k < 64
  ·have hd : decide ((k : Int) < 64) = true := by simp; omega
   obtain ⟨ii, hi⟩ : ∃ ii, ii = k % 8 := ⟨_, rfl⟩
   obtain ⟨jj, hj⟩ : ∃ jj, jj = k / 8 := ⟨_, rfl⟩
   have hpd := pd_rng HTV.out HDv.out ((x : Int) + (ii : Nat)) ((y : Int) + (jj : Nat))
   have hsq := sq_rng hpd.1 hpd.2
   have Hnx := Lib.hid (show sqS t ⟨W, H, bl⟩ x y (k + 1) = _ by rw [sqS, ← hi, ← hj])
   obtain ⟨pt, hpt⟩ : ∃ z, z = pat t ((x : Int) + (ii : Nat)) ((y : Int) + (jj : Nat)) := ⟨_, rfl⟩
   obtain ⟨pd, hpD⟩ : ∃ z, z = pat ⟨W, H, bl⟩ ((x : Int) + (ii : Nat)) ((y : Int) + (jj : Nat)) := ⟨_, rfl⟩
   have hp1 := pat_rng HTV.out ((x : Int) + (ii : Nat)) ((y : Int) + (jj : Nat))
   have hp2 := pat_rng HDv.out ((x : Int) + (ii : Nat)) ((y : Int) + (jj : Nat))
   rw [← hpt] at hp1
   rw [← hpD] at hp2
   rw [← hpt, ← hpD] at hpd hsq Hnx
   have HPT := Lib.hid hpt
   have HPD := Lib.hid hpD
   have Hi := Lib.hid (show (k : Int) % 8 = (ii : Int) by omega)
   have Hj := Lib.hid (show (k : Int) / 8 = (jj : Int) by omega)
   have hib : ii < 8 := by omega
   have hjb : jj < 8 := by omega
   have Hwq := Lib.hid (show wrap64 ((pt - pd) * (pt - pd)) = (pt - pd) * (pt - pd) by generalize (pt - pd) * (pt - pd) = z at hsq ⊢; unfold wrap64; omega)
   clear hi hj hpt hpD
   have X0 := Lib.hid (Ek.blk x0)
   have X4 := Lib.hid (Ek.blk x4)
   go_upto_region 7 with fail
   refine wp_region_inv2 (by kernel_rfl) [(20, 21), (40, 0), (41, 1), (42, 2), (43, 3), (44, 4), (45, 5), (46, 6), (47, 7), (48, 8), (49, 9), (50, 10), (51, 11), (52, 12), (53, 13), (54, 14), (55, 15), (56, 16), (57, 17), (58, 18), (59, 19), (60, 20)] [[], [], [], [2], [1, 2, 3], [], [], [6], [5, 6, 7], [0, 1, 2, 3, 4, 5, 6, 7, 8], [], [], [], [12], [11, 12, 13], [], [], [16], [15, 16, 17], [0, 1, 2, 3, 4, 5, 6, 7, 8, 9, 10, 11, 12, 13, 14, 15, 16, 17, 18], [0, 1, 2, 3, 4, 5, 6, 7, 8, 9, 10, 11, 12, 13, 14, 15, 16, 17, 18, 19], [0, 1, 2, 3, 4, 5, 6, 7, 8, 9, 10, 11, 12, 13, 14, 15, 16, 17, 18, 19, 20]] (fun i own ys wx => match i with | 0 => own = .agg #[.int .i64 t.w, .int .i64 t.h, .slice at1 tn tc] | 1 => own = .int .i64 (x : Nat) | 2 => own = .int .i64 (k : Nat) | 3 => own = .int .i64 ((k : Int) % 8) | 4 => own = .int .i64 ((x : Int) + (ii : Nat)) | 5 => own = .int .i64 (y : Nat) | 6 => own = .int .i64 (k : Nat) | 7 => own = .int .i64 ((k : Int) / 8) | 8 => own = .int .i64 ((y : Int) + (jj : Nat)) | 9 => own = .int .i64 pt | 10 => own = .agg #[.int .i64 W, .int .i64 H, .slice (some ⟨g, 0, none⟩) l c1] | 11 => own = .int .i64 (x : Nat) | 12 => own = .int .i64 (k : Nat) | 13 => own = .int .i64 ((k : Int) % 8) | 14 => own = .int .i64 ((x : Int) + (ii : Nat)) | 15 => own = .int .i64 (y : Nat) | 16 => own = .int .i64 (k : Nat) | 17 => own = .int .i64 ((k : Int) / 8) | 18 => own = .int .i64 ((y : Int) + (jj : Nat)) | 19 => own = .int .i64 pd | 20 => own = .int .i64 (pt - pd) | 21 => own = .int .i64 (pt - pd) | _ => True) (fun kx wx => Ext wr wx) (by kernel_rfl) (by kernel_rfl) (by kernel_rfl) ?g0_r2 ?gop_r2 ?gend_r2
   case g0_r2 => exact Ext.drewN _ 1
   case gop_r2 =>
    refine ⟨?o0, ?_, ?_, ?o3, ?o4, ?_, ?_, ?o7, ?o8, ?o9, ?o10, ?_, ?_, ?o13, ?o14, ?_, ?_, ?o17, ?o18, ?o19, ?o20, ?o21, trivial⟩ <;> (intro kx xs wx hk hG hD hI Qo Kx hK hQo; simp only [patchS, Nat.reduceAdd, Nat.reduceEqDiff, ↓reduceIte] at hQo ⊢)
    case o0 =>
     clear hD hI
     obtain ⟨-, k0, k1, k2, -⟩ := bx3 (hG.blk X0.out)
     go_wp2
     exact hK.out _ _ ⟨rfl, hG, fun _ _ _ _ _ _ h => h⟩
    case o3 =>
     have d2 : _ = _ := hD 2 rfl
     clear hD hI
     generalize xs 2 = y2 at *
     subst d2
     go_wp2
     exact hK.out _ _ ⟨rfl, hG, fun _ _ _ _ _ _ h => h⟩
    case o4 =>
     have d1 : _ = _ := hD 1 rfl
     have d3 : _ = _ := hD 3 rfl
     clear hD hI
     generalize xs 1 = y1 at *
     generalize xs 3 = y3 at *
     subst d1 d3
     go_wp2
     exact hK.out _ _ ⟨by rw [← Hi.out], hG, fun _ _ _ _ _ _ h => h⟩
    case o7 =>
     have d6 : _ = _ := hD 6 rfl
     clear hD hI
     generalize xs 6 = y6 at *
     subst d6
     go_wp2
     exact hK.out _ _ ⟨rfl, hG, fun _ _ _ _ _ _ h => h⟩
    case o8 =>
     have d5 : _ = _ := hD 5 rfl
     have d7 : _ = _ := hD 7 rfl
     clear hD hI
     generalize xs 5 = y5 at *
     generalize xs 7 = y7 at *
     subst d5 d7
     go_wp2
     exact hK.out _ _ ⟨by rw [← Hj.out], hG, fun _ _ _ _ _ _ h => h⟩
    case o9 =>
     have d0 : _ = _ := hD 0 rfl
     have d4 : _ = _ := hD 4 rfl
     have d8 : _ = _ := hD 8 rfl
     clear hD hI
     generalize xs 0 = y0 at *
     generalize xs 4 = y4 at *
     generalize xs 8 = y8 at *
     subst d0 d4 d8
     go_wp2_with fail
     refine (at_any t ((x : Int) + (ii : Nat)) ((y : Int) + (jj : Nat)) at1 tc tn _ HTV.out Htn.out (RT5.ext (Ek.trans hG))).mono ?_
     rintro e wz ⟨rfl, ez⟩
     rw [← HPT.out]
     go_wp2
     exact hK.out _ _ ⟨rfl, hG.trans ez, fun _ _ _ _ _ _ h => h⟩
    case o10 =>
     clear hD hI
     obtain ⟨-, k0, k1, k2, -⟩ := bx3 (hG.blk X4.out)
     go_wp2
     exact hK.out _ _ ⟨rfl, hG, fun _ _ _ _ _ _ h => h⟩
    case o13 =>
     have d12 : _ = _ := hD 12 rfl
     clear hD hI
     generalize xs 12 = y12 at *
     subst d12
     go_wp2
     exact hK.out _ _ ⟨rfl, hG, fun _ _ _ _ _ _ h => h⟩
    case o14 =>
     have d11 : _ = _ := hD 11 rfl
     have d13 : _ = _ := hD 13 rfl
     clear hD hI
     generalize xs 11 = y11 at *
     generalize xs 13 = y13 at *
     subst d11 d13
     go_wp2
     exact hK.out _ _ ⟨by rw [← Hi.out], hG, fun _ _ _ _ _ _ h => h⟩
    case o17 =>
     have d16 : _ = _ := hD 16 rfl
     clear hD hI
     generalize xs 16 = y16 at *
     subst d16
     go_wp2
     exact hK.out _ _ ⟨rfl, hG, fun _ _ _ _ _ _ h => h⟩
    case o18 =>
     have d15 : _ = _ := hD 15 rfl
     have d17 : _ = _ := hD 17 rfl
     clear hD hI
     generalize xs 15 = y15 at *
     generalize xs 17 = y17 at *
     subst d15 d17
     go_wp2
     exact hK.out _ _ ⟨by rw [← Hj.out], hG, fun _ _ _ _ _ _ h => h⟩
    case o19 =>
     have d10 : _ = _ := hD 10 rfl
     have d14 : _ = _ := hD 14 rfl
     have d18 : _ = _ := hD 18 rfl
     clear hD hI
     generalize xs 10 = y10 at *
     generalize xs 14 = y14 at *
     generalize xs 18 = y18 at *
     subst d10 d14 d18
     go_wp2_with fail
     refine (at_any ⟨W, H, bl⟩ ((x : Int) + (ii : Nat)) ((y : Int) + (jj : Nat)) (some ⟨g, 0, none⟩) c1 l _ HDv.out HDn.out (SD5.ext (Ek.trans hG))).mono ?_
     rintro e wz ⟨rfl, ez⟩
     rw [← HPD.out]
     go_wp2
     exact hK.out _ _ ⟨rfl, hG.trans ez, fun _ _ _ _ _ _ h => h⟩
    case o20 =>
     have d9 : _ = _ := hD 9 rfl
     have d19 : _ = _ := hD 19 rfl
     clear hD hI
     generalize xs 9 = y9 at *
     generalize xs 19 = y19 at *
     subst d9 d19
     go_wp2
     exact hK.out _ _ ⟨rfl, hG, fun _ _ _ _ _ _ h => h⟩
    case o21 =>
     have d20 : _ = _ := hD 20 rfl
     clear hD hI
     generalize xs 20 = y20 at *
     subst d20
     go_wp2
     exact hK.out _ _ ⟨rfl, hG, fun _ _ _ _ _ _ h => h⟩
    all_goals
     clear hD hI
     go_wp2
     exact hK.out _ _ ⟨rfl, hG, fun _ _ _ _ _ _ h => h⟩
   intro xs wx hV hG
   have d21 : _ = _ := hV 21 (by decide)
   clear hV
   simp only [patchS, Nat.reduceAdd, Nat.reduceEqDiff, ↓reduceIte]
   generalize xs 0 = y0 at *
   generalize xs 1 = y1 at *
   generalize xs 2 = y2 at *
   generalize xs 3 = y3 at *
   generalize xs 4 = y4 at *
   generalize xs 5 = y5 at *
   generalize xs 6 = y6 at *
   generalize xs 7 = y7 at *
   generalize xs 8 = y8 at *
   generalize xs 9 = y9 at *
   generalize xs 10 = y10 at *
   generalize xs 11 = y11 at *
   generalize xs 12 = y12 at *
   generalize xs 13 = y13 at *
   generalize xs 14 = y14 at *
   generalize xs 15 = y15 at *
   generalize xs 16 = y16 at *
   generalize xs 17 = y17 at *
   generalize xs 18 = y18 at *
   generalize xs 19 = y19 at *
   generalize xs 20 = y20 at *
   generalize xs 21 = y21 at *
   replace hG : Ext wr wx := hG
   subst d21
   obtain ⟨dv, hdv⟩ : ∃ dv, dv = pt - pd := ⟨_, rfl⟩
   rw [← hdv] at hpd hsq Hnx Hwq ⊢
   have HDV := Lib.hid hdv
   clear hdv
   obtain ⟨S, hS⟩ : ∃ S, S = sqS t ⟨W, H, bl⟩ x y k := ⟨_, rfl⟩
   rw [← hS] at hsr Hnx ⊢
   clear hS
   go_wp2
   go_roundw
   case rel => exact ⟨k + 1, by omega, by go_num, by rw [Hnx.out]; congr 1; generalize dv * dv = z at *; first | omega | (unfold wrap64; omega), Ek.trans hG⟩
   case measure => simp [intOf]; omega
  ·obtain rfl : k = 64 := by omega
   obtain ⟨S, hS⟩ : ∃ S, S = sqS t ⟨W, H, bl⟩ x y 64 := ⟨_, rfl⟩
   rw [← hS] at hsr ⊢
   have HS := Lib.hid hS
   clear hS
   go_wp2
   go_ret
   exact ⟨ret_int (by rw [← Hbl.out, ← HS.out, ← HC0.out]; omega), E5.trans Ek⟩
end Go.Proofs.YtbnhaegidfbgbaaGreatDoor
namespace Go.Proofs.YtbnhaegidfbgbaaGreatDoor
open Go.RowKit
set_option maxHeartbeats 1000000
theorem nth_blk0 (p : Pic) (x y : Int) {k : Nat} (h : k < 64) : nth (blkL p x y 0 0) k = pat p (x + (k % 8 : Nat)) (y + (k / 8 : Nat)) := by
 rw [nth_blkL p x y 0 0 h, Int.add_zero, Int.add_zero, hlf_two]
set_option maxRecDepth 100000 in
set_option maxHeartbeats 2000000 in
theorem l13Error_in (t D : Pic) (x y : Nat) (a b : Option Addr) (c d n l : Nat) (w : World) (htv : t.valid) (hDv : D.valid) (hn : n = t.px.length) (hl : l = D.px.length) (s : Sl w a n (t.px.map (Value.int .i64))) (u : Sl w b l (D.px.map (Value.int .i64))) (hx : x ≤ 100) (hy : y ≤ 100) :
 Calls Tryz.prog 97 #[.agg #[.int .i64 t.w, .int .i64 t.h, .slice a n c], .agg #[.int .i64 D.w, .int .i64 D.h, .slice b l d], .int .i64 (x : Nat), .int .i64 (y : Nat)] w fun e w' => e = .returned (.int .i64 (sqS t D x y 64)) ∧ Ext w w' := by
 have HN := Lib.hid hn
 have HL := Lib.hid hl
 clear hn hl
 have Y0 := (Ext.alloc (w.alloc (.cells #[.int .i64 t.w, .int .i64 t.h, .slice a n c] 25)) (.cells #[.int .i64 D.w, .int .i64 D.h, .slice b l d] 25)).blk (blk_new w (.cells #[.int .i64 t.w, .int .i64 t.h, .slice a n c] 25))
 have Y1 := blk_new (w.alloc (.cells #[.int .i64 t.w, .int .i64 t.h, .slice a n c] 25)) (.cells #[.int .i64 D.w, .int .i64 D.h, .slice b l d] 25)
 have F1 := (Ext.alloc w (.cells #[.int .i64 t.w, .int .i64 t.h, .slice a n c] 25)).trans (Ext.alloc _ (.cells #[.int .i64 D.w, .int .i64 D.h, .slice b l d] 25))
 simp only [World.size_alloc] at Y1
 obtain ⟨B, hB⟩ : ∃ B, B = w.heap.size := ⟨_, rfl⟩
 rw [← hB] at Y0 Y1
 have HB := Lib.hid hB
 go_enter Tryz.func97, Tryz.ntmps97
 go_upto_region 1 with fail
 try simp only [World.size_alloc]
 rw [← hB]
 clear hB
 generalize (w.alloc (.cells #[.int .i64 t.w, .int .i64 t.h, .slice a n c] 25)).alloc (.cells #[.int .i64 D.w, .int .i64 D.h, .slice b l d] 25) = w1 at *
 obtain ⟨-, k1, k2, k3, -⟩ := bx3 Y0
 go_wp2_with fail
 refine (l7Block_any t x y 0 0 a c n _ htv HN.out (s.ext F1) (by omega) (by omega) (by omega) (by omega) (by omega) (by omega) (by omega) (by omega)).mono ?_
 rintro e w4 ⟨a4, c4, rfl, o4, e4⟩
 obtain ⟨g4, rfl⟩ := own_ptr o4 (by omega)
 have S4 := Sl.of_owns o4
 have G1 := e4.blk Y1
 have F2 := F1.trans e4
 clear Y0 Y1 F1 e4 o4 k1 k2 k3
 obtain ⟨-, k1, k2, k3, -⟩ := bx3 G1
 go_wp2_with fail
 refine (l7Block_any D x y 0 0 b d l _ hDv HL.out (u.ext F2) (by omega) (by omega) (by omega) (by omega) (by omega) (by omega) (by omega) (by omega)).mono ?_
 rintro e w6 ⟨a6, c6, rfl, o6, e6⟩
 obtain ⟨g6, rfl⟩ := own_ptr o6 (by omega)
 have S6 := Sl.of_owns o6
 have S5 := S4.ext e6
 have F3 := F2.trans e6
 clear G1 F2 e6 o6 S4 k1 k2 k3
 go_wp2_with fail
 go_loopw [11, 12] (fun v i wr => ∃ k : Nat, k ≤ 64 ∧ i = .int .i64 k ∧ v = .int .i64 (sqS t D x y k) ∧ Ext w6 wr) (fun _ i _ => 64 - (intOf i).toNat)
 case atStart => exact ⟨0, by omega, rfl, by simp [sqS], Below.refl _ _⟩
 case round =>
  obtain ⟨k, hk, rfl, rfl, Ek⟩ := hrel
  have hsr := sqS_rng htv hDv x y k
  by_cases hlt : k < 64
  ·have hd : decide ((k : Int) < 64) = true := by simp; omega
   have hpd := pd_rng htv hDv ((x : Int) + (k % 8 : Nat)) ((y : Int) + (k / 8 : Nat))
   have hsq := sq_rng hpd.1 hpd.2
   have Hnx := Lib.hid (show sqS t D x y (k + 1) = _ by rw [sqS])
   obtain ⟨u, hu⟩ : ∃ u, u = pat t ((x : Int) + (k % 8 : Nat)) ((y : Int) + (k / 8 : Nat)) := ⟨_, rfl⟩
   obtain ⟨v, hv⟩ : ∃ v, v = pat D ((x : Int) + (k % 8 : Nat)) ((y : Int) + (k / 8 : Nat)) := ⟨_, rfl⟩
   have hp1 := pat_rng htv ((x : Int) + (k % 8 : Nat)) ((y : Int) + (k / 8 : Nat))
   have hp2 := pat_rng hDv ((x : Int) + (k % 8 : Nat)) ((y : Int) + (k / 8 : Nat))
   rw [← hu] at hp1
   rw [← hv] at hp2
   rw [← hu, ← hv] at hpd hsq Hnx
   obtain ⟨S, hS⟩ : ∃ S, S = sqS t D x y k := ⟨_, rfl⟩
   rw [← hS] at hsr Hnx
   rw [← hS]
   have HcU := Lib.hid (fun (wx : World) (h : Ext wr wx) => cellP (S5.ext (Ek.trans h)) hlt ((nth_blk0 t x y hlt).trans hu.symm))
   have HcV := Lib.hid (fun (wx : World) (h : Ext wr wx) => cellP (S6.ext (Ek.trans h)) hlt ((nth_blk0 D x y hlt).trans hv.symm))
   obtain ⟨P, hP⟩ : ∃ P, P = (u - v) * (u - v) := ⟨_, rfl⟩
   rw [← hP] at hsq Hnx
   have HP := Lib.hid (show (u - v) * (u - v) = P from hP.symm)
   have HPw := Lib.hid (show wrap64 ((u - v) * (u - v)) = P by rw [← hP]; unfold wrap64; omega)
   clear hu hv hS hP
   go_upto_region 7 with fail
   refine wp_region_inv2 (by kernel_rfl) [(11, 21), (29, 0), (30, 1), (31, 2), (32, 3), (33, 4), (34, 5), (35, 6), (36, 7), (37, 8), (38, 9), (39, 10), (40, 11), (41, 12), (42, 13), (43, 14), (44, 15), (45, 16), (46, 17), (47, 18), (48, 19), (49, 20)] [[], [], [], [1, 2], [1, 2, 3], [], [], [5, 6], [5, 6, 7], [1, 2, 3, 4, 5, 6, 7, 8], [], [], [10, 11], [10, 11, 12], [], [], [14, 15], [14, 15, 16], [10, 11, 12, 13, 14, 15, 16, 17], [1, 2, 3, 4, 5, 6, 7, 8, 9, 10, 11, 12, 13, 14, 15, 16, 17, 18], [0, 1, 2, 3, 4, 5, 6, 7, 8, 9, 10, 11, 12, 13, 14, 15, 16, 17, 18, 19], [0, 1, 2, 3, 4, 5, 6, 7, 8, 9, 10, 11, 12, 13, 14, 15, 16, 17, 18, 19, 20]] (fun i own ys wx => match i with | 0 => own = .int .i64 S | 1 => own = .slice (some ⟨g4, 0, none⟩) 64 c4 | 2 => own = .int .i64 (k : Nat) | 3 => own = .pointer (some ⟨g4, k, none⟩) | 4 => own = .int .i64 u | 5 => own = .slice (some ⟨g6, 0, none⟩) 64 c6 | 6 => own = .int .i64 (k : Nat) | 7 => own = .pointer (some ⟨g6, k, none⟩) | 8 => own = .int .i64 v | 9 => own = .int .i64 (u - v) | 10 => own = .slice (some ⟨g4, 0, none⟩) 64 c4 | 11 => own = .int .i64 (k : Nat) | 12 => own = .pointer (some ⟨g4, k, none⟩) | 13 => own = .int .i64 u | 14 => own = .slice (some ⟨g6, 0, none⟩) 64 c6 | 15 => own = .int .i64 (k : Nat) | 16 => own = .pointer (some ⟨g6, k, none⟩) | 17 => own = .int .i64 v | 18 => own = .int .i64 (u - v) | 19 => own = .int .i64 P | 20 => own = .int .i64 (S + P) | 21 => own = .int .i64 (S + P) | _ => True) (fun kx wx => Ext wr wx) (by kernel_rfl) (by kernel_rfl) (by kernel_rfl) ?g0_r1 ?gop_r1 ?gend_r1
   case g0_r1 => exact Ext.drewN _ 1
   case gop_r1 =>
    refine ⟨?o0, ?_, ?_, ?o3, ?o4, ?_, ?_, ?o7, ?o8, ?o9, ?_, ?_, ?o12, ?o13, ?_, ?_, ?o16, ?o17, ?o18, ?o19, ?o20, ?o21, trivial⟩ <;> (intro kx xs wx hk hG hD hI Qo Kx hK hQo; simp only [patchS, Nat.reduceAdd, Nat.reduceEqDiff, ↓reduceIte] at hQo ⊢)
    case o0 =>
     have i21 := hI 21 11 rfl rfl
     simp only [List.getD_cons_succ, List.getD_cons_zero] at i21
     clear hD hI
     rw [i21] at hQo ⊢
     clear i21
     go_wp2
     exact hK.out _ _ ⟨rfl, hG, fun _ _ _ _ _ _ h => h⟩
    case o3 =>
     have d1 : _ = _ := hD 1 rfl
     have d2 : _ = _ := hD 2 rfl
     clear hD hI
     generalize xs 1 = y1 at *
     generalize xs 2 = y2 at *
     subst d1 d2
     go_wp2
     exact hK.out _ _ ⟨rfl, hG, fun _ _ _ _ _ _ h => h⟩
    case o4 =>
     have d3 : _ = _ := hD 3 rfl
     clear hD hI
     generalize xs 3 = y3 at *
     subst d3
     have cx := HcU.out wx hG
     go_wp2
     exact hK.out _ _ ⟨rfl, hG, fun _ _ _ _ _ _ h => h⟩
    case o7 =>
     have d5 : _ = _ := hD 5 rfl
     have d6 : _ = _ := hD 6 rfl
     clear hD hI
     generalize xs 5 = y5 at *
     generalize xs 6 = y6 at *
     subst d5 d6
     go_wp2
     exact hK.out _ _ ⟨rfl, hG, fun _ _ _ _ _ _ h => h⟩
    case o8 =>
     have d7 : _ = _ := hD 7 rfl
     clear hD hI
     generalize xs 7 = y7 at *
     subst d7
     have cx := HcV.out wx hG
     go_wp2
     exact hK.out _ _ ⟨rfl, hG, fun _ _ _ _ _ _ h => h⟩
    case o9 =>
     have d4 : _ = _ := hD 4 rfl
     have d8 : _ = _ := hD 8 rfl
     clear hD hI
     generalize xs 4 = y4 at *
     generalize xs 8 = y8 at *
     subst d4 d8
     go_wp2
     exact hK.out _ _ ⟨rfl, hG, fun _ _ _ _ _ _ h => h⟩
    case o12 =>
     have d10 : _ = _ := hD 10 rfl
     have d11 : _ = _ := hD 11 rfl
     clear hD hI
     generalize xs 10 = y10 at *
     generalize xs 11 = y11 at *
     subst d10 d11
     go_wp2
     exact hK.out _ _ ⟨rfl, hG, fun _ _ _ _ _ _ h => h⟩
    case o13 =>
     have d12 : _ = _ := hD 12 rfl
     clear hD hI
     generalize xs 12 = y12 at *
     subst d12
     have cx := HcU.out wx hG
     go_wp2
     exact hK.out _ _ ⟨rfl, hG, fun _ _ _ _ _ _ h => h⟩
    case o16 =>
     have d14 : _ = _ := hD 14 rfl
     have d15 : _ = _ := hD 15 rfl
     clear hD hI
     generalize xs 14 = y14 at *
     generalize xs 15 = y15 at *
     subst d14 d15
     go_wp2
     exact hK.out _ _ ⟨rfl, hG, fun _ _ _ _ _ _ h => h⟩
    case o17 =>
     have d16 : _ = _ := hD 16 rfl
     clear hD hI
     generalize xs 16 = y16 at *
     subst d16
     have cx := HcV.out wx hG
     go_wp2
     exact hK.out _ _ ⟨rfl, hG, fun _ _ _ _ _ _ h => h⟩
    case o18 =>
     have d13 : _ = _ := hD 13 rfl
     have d17 : _ = _ := hD 17 rfl
     clear hD hI
     generalize xs 13 = y13 at *
     generalize xs 17 = y17 at *
     subst d13 d17
     go_wp2
     exact hK.out _ _ ⟨rfl, hG, fun _ _ _ _ _ _ h => h⟩
    case o19 =>
     have d9 : _ = _ := hD 9 rfl
     have d18 : _ = _ := hD 18 rfl
     clear hD hI
     generalize xs 9 = y9 at *
     generalize xs 18 = y18 at *
     subst d9 d18
     go_wp2
     exact hK.out _ _ ⟨by first | rw [HPw.out] | rw [HP.out], hG, fun _ _ _ _ _ _ h => h⟩
    case o20 =>
     have d0 : _ = _ := hD 0 rfl
     have d19 : _ = _ := hD 19 rfl
     clear hD hI
     generalize xs 0 = y0 at *
     generalize xs 19 = y19 at *
     subst d0 d19
     go_wp2
     exact hK.out _ _ ⟨rfl, hG, fun _ _ _ _ _ _ h => h⟩
    case o21 =>
     have d20 : _ = _ := hD 20 rfl
     clear hD hI
     generalize xs 20 = y20 at *
     subst d20
     go_wp2
     exact hK.out _ _ ⟨rfl, hG, fun _ _ _ _ _ _ h => h⟩
    all_goals
     clear hD hI
     go_wp2
     exact hK.out _ _ ⟨rfl, hG, fun _ _ _ _ _ _ h => h⟩
   intro xs wx hV hG
   have d21 : _ = _ := hV 21 (by decide)
   clear hV
   simp only [patchS, Nat.reduceAdd, Nat.reduceEqDiff, ↓reduceIte]
   generalize xs 0 = y0 at *
   generalize xs 1 = y1 at *
   generalize xs 2 = y2 at *
   generalize xs 3 = y3 at *
   generalize xs 4 = y4 at *
   generalize xs 5 = y5 at *
   generalize xs 6 = y6 at *
   generalize xs 7 = y7 at *
   generalize xs 8 = y8 at *
   generalize xs 9 = y9 at *
   generalize xs 10 = y10 at *
   generalize xs 11 = y11 at *
   generalize xs 12 = y12 at *
   generalize xs 13 = y13 at *
   generalize xs 14 = y14 at *
   generalize xs 15 = y15 at *
   generalize xs 16 = y16 at *
   generalize xs 17 = y17 at *
   generalize xs 18 = y18 at *
   generalize xs 19 = y19 at *
   generalize xs 20 = y20 at *
   generalize xs 21 = y21 at *
   replace hG : Ext wr wx := hG
   subst d21
   go_wp2
   go_roundw
   case rel => exact ⟨k + 1, by omega, by go_num, by rw [Hnx.out], Ek.trans hG⟩
   case measure => simp [intOf]; omega
  ·obtain rfl : k = 64 := by omega
   obtain ⟨S, hS⟩ : ∃ S, S = sqS t D x y 64 := ⟨_, rfl⟩
   rw [← hS] at hsr ⊢
   have HS := Lib.hid hS
   clear hS
   go_wp2
   go_ret
   exact ⟨ret_int (by rw [← HS.out]), F3.trans Ek⟩
set_option maxRecDepth 100000 in
set_option maxHeartbeats 2000000 in
theorem spec_cost_in (t ref : Pic) (W H x y : Nat) (px : List Int) (m : Mac) (q : Nat) (top : Int) (at1 a b : Option Addr) (tc c d tn n l : Nat) (w : World) (htn : tn = t.px.length) (hn : n = ref.px.length) (hl : l = px.length) (nc : n ≤ 9223372036854775807) (rt : Sl w at1 tn (t.px.map (Value.int .i64))) (r : Sl w a n (ref.px.map (Value.int .i64))) (s : Sl w b l (px.map (Value.int .i64))) (hm : m.ok) (htv : t.valid) (ho : okR ref ⟨W, H, px⟩ x y m q top) :
 Calls Tryz.prog 43 #[.agg #[.int .i64 t.w, .int .i64 t.h, .slice at1 tn tc], .agg #[.int .i64 ref.w, .int .i64 ref.h, .slice a n c], .agg #[.int .i64 W, .int .i64 H, .slice b l d], .int .i64 (x : Nat), .int .i64 (y : Nat), .agg (ic m.zs), .int .i64 q, .int .i64 top] w fun e w' => e = .returned (.int .i64 (sqS t ⟨W, H, bldS ref ⟨W, H, px⟩ x y m q top 4⟩ x y 64 + stp q * (macN m : Int))) ∧ Ext w w' := by
 have hlen := Pic.len_le ho.1.1
 simp only at hlen
 rw [← hl] at hlen
 obtain ⟨bl, hbl⟩ : ∃ bl, bl = bldS ref ⟨W, H, px⟩ x y m q top 4 := ⟨_, rfl⟩
 have hDv : Pic.valid ⟨W, H, bl⟩ := by rw [hbl]; exact bldS_valid ho.1.1 ref x y m q top 4
 have hxy : (x : Int) < 40 ∧ (y : Int) < 40 := by
  have h1 := ho.1.1.1
  have h2 := ho.1.1.2.1
  have h3 := ho.1.2.2.1
  have h4 := ho.1.2.2.2.2.2.1
  simp only [side] at h1 h2 h3 h4
  omega
 have HDn := Lib.hid (show l = bl.length by rw [hbl, bldS_len]; exact hl)
 have Hbl := Lib.hid hbl
 clear hbl
 have hrt := rate_rng hm ho.2.1 (show q < 16 by have := ho.2.2.1; omega)
 have Htn := Lib.hid htn
 have Hn := Lib.hid hn
 have HL := Lib.hid hl
 have Hm := Lib.hid hm
 have Hl := Lib.hid (Mac.zs_len hm)
 have Hok := Lib.hid ho
 have HTV := Lib.hid htv
 have HDv := Lib.hid hDv
 have hq : q < 16 := by have := ho.2.2.1; omega
 have ht0 : 0 ≤ top := ho.2.2.2.1.1
 clear hn hl hm ho htn htv hDv
 have a2 := Ext.alloc (w.alloc (.cells #[.int .i64 t.w, .int .i64 t.h, .slice at1 tn tc] 25)) (.cells #[.int .i64 ref.w, .int .i64 ref.h, .slice a n c] 25)
 have a3 := Ext.alloc ((w.alloc (.cells #[.int .i64 t.w, .int .i64 t.h, .slice at1 tn tc] 25)).alloc (.cells #[.int .i64 ref.w, .int .i64 ref.h, .slice a n c] 25)) (.cells #[.int .i64 W, .int .i64 H, .slice b l d] 25)
 have a4 := Ext.alloc (((w.alloc (.cells #[.int .i64 t.w, .int .i64 t.h, .slice at1 tn tc] 25)).alloc (.cells #[.int .i64 ref.w, .int .i64 ref.h, .slice a n c] 25)).alloc (.cells #[.int .i64 W, .int .i64 H, .slice b l d] 25)) (.cells (ic m.zs) 32)
 have p0 := a4.blk (a3.blk (a2.blk (blk_new w (.cells #[.int .i64 t.w, .int .i64 t.h, .slice at1 tn tc] 25))))
 have p1 := a4.blk (a3.blk (blk_new (w.alloc (.cells #[.int .i64 t.w, .int .i64 t.h, .slice at1 tn tc] 25)) (.cells #[.int .i64 ref.w, .int .i64 ref.h, .slice a n c] 25)))
 have p2 := a4.blk (blk_new ((w.alloc (.cells #[.int .i64 t.w, .int .i64 t.h, .slice at1 tn tc] 25)).alloc (.cells #[.int .i64 ref.w, .int .i64 ref.h, .slice a n c] 25)) (.cells #[.int .i64 W, .int .i64 H, .slice b l d] 25))
 have p3 := IB.new (((w.alloc (.cells #[.int .i64 t.w, .int .i64 t.h, .slice at1 tn tc] 25)).alloc (.cells #[.int .i64 ref.w, .int .i64 ref.h, .slice a n c] 25)).alloc (.cells #[.int .i64 W, .int .i64 H, .slice b l d] 25)) 32 m.zs
 have E1 := (((Ext.alloc w (.cells #[.int .i64 t.w, .int .i64 t.h, .slice at1 tn tc] 25)).trans a2).trans a3).trans a4
 simp only [World.size_alloc] at p1 p2 p3
 clear a2 a3 a4
 obtain ⟨B, hB⟩ : ∃ B, B = w.heap.size := ⟨_, rfl⟩
 rw [← hB] at p0 p1 p2 p3
 have hwB : w.heap.size ≤ B := by omega
 have HB := Lib.hid hB
 have hb1 := p3.lt
 go_enter Tryz.func43, Tryz.ntmps43
 go_upto_region 1 with fail
 try simp only [World.size_alloc]
 rw [← hB]
 clear hB
 generalize (((w.alloc (.cells #[.int .i64 t.w, .int .i64 t.h, .slice at1 tn tc] 25)).alloc (.cells #[.int .i64 ref.w, .int .i64 ref.h, .slice a n c] 25)).alloc (.cells #[.int .i64 W, .int .i64 H, .slice b l d] 25)).alloc (.cells (ic m.zs) 32) = w1 at *
 obtain ⟨-, i0, i1, i2, -⟩ := bx3 p2
 go_wp2_with fail
 refine (l8Copy_any W H b d l px _ (by omega) (by omega) (s.ext E1)).mono ?_
 rintro e wa ⟨a1, c1, rfl, own1, e2⟩
 have r0 := e2.blk p0
 have r1 := e2.blk p1
 have r2 := e2.blk p2
 have r3 := p3.ext e2
 have E2 := E1.trans e2
 clear p0 p1 p2 p3 E1 e2 i0 i1 i2
 have hgo : ∃ g, a1 = some ⟨g, 0, none⟩ ∧ g < wa.heap.size ∧ w1.heap.size ≤ g := by
  rcases own1.2 with ⟨-, h0⟩ | ⟨g, cc, cur, hv, hb, hb2, -⟩
  ·omega
  ·simp only [Value.slice.injEq] at hv
   exact ⟨g, hv.1, lt_of_block hb2, hb⟩
 obtain ⟨g, rfl, hg1, hg2⟩ := hgo
 have a5 := Ext.alloc wa (.cells #[.int .i64 W, .int .i64 H, .slice (some ⟨g, 0, none⟩) l c1] 25)
 have z0 := a5.blk r0
 have z1 := a5.blk r1
 have z3 := r3.ext a5
 have z4 := blk_new wa (.cells #[.int .i64 W, .int .i64 H, .slice (some ⟨g, 0, none⟩) l c1] 25)
 have own2 := owns_ext own1 a5
 have E3 := E2.trans a5
 have hO := r3.lt
 obtain ⟨O, hOe⟩ : ∃ O, O = wa.heap.size := ⟨_, rfl⟩
 rw [← hOe] at z4 hg1 hO
 have HO2 := Lib.hid hOe
 clear r0 r1 r2 r3 own1 E2 a5
 obtain ⟨-, i0, i1, i2, -⟩ := bx3 z1
 obtain ⟨-, o0, o1, o2, -⟩ := bx3 z4
 have hOlt := lt_of_block z4
 go_upto_region 2 with fail
 rw [← hOe]
 clear hOe
 generalize wa.alloc (.cells #[.int .i64 W, .int .i64 H, .slice (some ⟨g, 0, none⟩) l c1] 25) = w2 at *
 go_wp2_with (refine wpList_iload 32 _ rfl rfl z3 0 71 rfl _ Tryz.underlying32 rfl size_Macro (by rw [Hl.out]; omega) _ (by rw [sub_all _ _ Hl.out]) ?_)
 have hrz : ¬ m.kind = 2 → ∀ z, a = some z → z.block ≠ g := fun hk z hz => by
  have h9 := Pic.len_le (okR_ref Hok.out hk)
  rw [← Hn.out] at h9
  have := sl_bound r z hz (by omega)
  omega
 refine (l8Build_any ref W H x y px m q top a n c w1.heap.size g l c1 _ own2 Hok.out.1 Hm.out Hok.out.2.1 hq ht0 (fun hk => okR_ref Hok.out hk) Hn.out (r.ext E3) hrz).mono ?_
 rintro e w3 ⟨rfl, own3, g3⟩
 rw [← Hbl.out] at own3
 have u0 := blk_gr z0 g3 (by simp; omega)
 have u3 := z3.gr g3 (by simp; omega)
 have u4 := blk_gr z4 g3 (by simp; omega)
 have hs1 : B ≤ w1.heap.size := by omega
 have E4 : Ext w w3 := Ext.grown E3 g3 (fun k e => by cases e; omega)
 have SD := Sl.of_owns own3
 clear z0 z1 z3 z4 own2 own3 E3 g3 i0 i1 i2 o0 o1 o2
 have RT := rt.ext E4
 obtain ⟨s0, hs0⟩ : ∃ s0, s0 = stp q := ⟨_, rfl⟩
 obtain ⟨N0, hN0⟩ : ∃ N0, N0 = macN m := ⟨_, rfl⟩
 obtain ⟨C, hC⟩ : ∃ C, C = stp q * (macN m : Int) := ⟨_, rfl⟩
 rw [← hC] at hrt
 have HC := Lib.hid (show s0 * (N0 : Int) = C by rw [hs0, hN0, hC])
 have HW := Lib.hid (show wrap64 (s0 * (N0 : Int)) = C by rw [hs0, hN0, ← hC]; unfold wrap64; omega)
 have HS0 := Lib.hid hs0
 have HN0 := Lib.hid hN0
 have HC0 := Lib.hid hC
 have hs0r := stp_rng hq
 rw [← hs0] at hs0r
 have hN0r := macN_le Hm.out Hok.out.2.1
 rw [← hN0] at hN0r
 obtain ⟨S, hS⟩ : ∃ S, S = sqS t ⟨W, H, bl⟩ x y 64 := ⟨_, rfl⟩
 have hsr := sqS_rng HTV.out HDv.out x y 64
 rw [← hS] at hsr
 have HS := Lib.hid hS
 clear hS hs0 hN0 hC
 go_upto_region 3 with fail
 refine wp_region_inv2 (by kernel_rfl) [(16, 12), (28, 0), (29, 1), (30, 2), (31, 3), (32, 4), (33, 5), (34, 6), (35, 7), (36, 8), (37, 9), (38, 10), (39, 11)] [[], [], [], [], [0, 1, 2, 3], [], [0, 1, 2, 3, 4, 5], [], [0, 1, 2, 3, 4, 5, 6, 7], [0, 1, 2, 3, 4, 5, 6, 7, 8], [0, 1, 2, 3, 4, 5, 6, 7, 8, 9], [0, 1, 2, 3, 4, 5, 6, 7, 8, 9, 10], [0, 1, 2, 3, 4, 5, 6, 7, 8, 9, 10, 11]] (fun i own ys wx => match i with | 0 => own = .agg #[.int .i64 t.w, .int .i64 t.h, .slice at1 tn tc] | 1 => own = .agg #[.int .i64 W, .int .i64 H, .slice (some ⟨g, 0, none⟩) l c1] | 2 => own = .int .i64 (x : Nat) | 3 => own = .int .i64 (y : Nat) | 4 => own = .int .i64 S | 5 => own = .int .i64 (q : Nat) | 6 => own = .int .i64 s0 | 7 => own = .agg (ic m.zs) | 8 => ∃ (a3 : Option Addr) (c3 : Nat), own = .slice a3 N0 c3 | 9 => own = .int .i64 (N0 : Nat) | 10 => own = .int .i64 C | 11 => own = .int .i64 (S + C) | 12 => own = .int .i64 (S + C) | _ => True) (fun kx wx => Ext w3 wx) (by kernel_rfl) (by kernel_rfl) (by kernel_rfl) ?g0_r2 ?gop_r2 ?gend_r2
 case g0_r2 => exact Ext.drewN _ 1
 case gop_r2 =>
  refine ⟨?o0, ?o1, ?_, ?_, ?o4, ?_, ?o6, ?o7, ?o8, ?o9, ?o10, ?o11, ?o12, trivial⟩ <;> (intro kx xs wx hk hG hD hI Qo Kx hK hQo; simp only [patchS, Nat.reduceAdd, Nat.reduceEqDiff, ↓reduceIte] at hQo ⊢)
  case o0 =>
   clear hD hI
   obtain ⟨-, k0, k1, k2, -⟩ := bx3 (hG.blk u0)
   go_wp2
   exact hK.out _ _ ⟨rfl, hG, fun _ _ _ _ _ _ h => h⟩
  case o1 =>
   clear hD hI
   obtain ⟨-, k0, k1, k2, -⟩ := bx3 (hG.blk u4)
   go_wp2
   exact hK.out _ _ ⟨rfl, hG, fun _ _ _ _ _ _ h => h⟩
  case o4 =>
   have d0 : _ = _ := hD 0 rfl
   have d1 : _ = _ := hD 1 rfl
   have d2 : _ = _ := hD 2 rfl
   have d3 : _ = _ := hD 3 rfl
   clear hD hI
   generalize xs 0 = y0 at *
   generalize xs 1 = y1 at *
   generalize xs 2 = y2 at *
   generalize xs 3 = y3 at *
   subst d0 d1 d2 d3
   go_wp2_with fail
   refine (l13Error_in t ⟨W, H, bl⟩ x y at1 (some ⟨g, 0, none⟩) tc c1 tn l _ HTV.out HDv.out Htn.out HDn.out (RT.ext hG) (SD.ext hG) (by omega) (by omega)).mono ?_
   rintro e wz ⟨rfl, ez⟩
   rw [← HS.out]
   go_wp2
   exact hK.out _ _ ⟨rfl, hG.trans ez, fun _ _ _ _ _ _ h => h⟩
  case o6 =>
   have d5 : _ = _ := hD 5 rfl
   clear hD hI
   generalize xs 5 = y5 at *
   subst d5
   go_wp2_with fail
   refine (spec_QuantStep_in q _ hq).mono ?_
   rintro e wz ⟨rfl, ez⟩
   rw [← HS0.out]
   go_wp2
   exact hK.out _ _ ⟨rfl, hG.trans ez, fun _ _ _ _ _ _ h => h⟩
  case o7 =>
   clear hD hI
   go_wp2_with (refine wpList_iload 32 _ rfl rfl (u3.ext hG) 0 71 rfl _ Tryz.underlying32 rfl size_Macro (by rw [Hl.out]; omega) _ (by rw [sub_all _ _ Hl.out]) ?_)
   exact hK.out _ _ ⟨rfl, hG, fun _ _ _ _ _ _ h => h⟩
  case o8 =>
   have d7 : _ = _ := hD 7 rfl
   clear hD hI
   generalize xs 7 = y7 at *
   subst d7
   go_wp2_with fail
   refine (l10Macro_any m _ Hm.out Hok.out.2.1).mono ?_
   rintro e wz ⟨az, cz, rfl, -, ez⟩
   rw [← HN0.out]
   go_wp2
   exact hK.out _ _ ⟨⟨az, cz, rfl⟩, hG.trans ez, fun _ _ _ _ _ _ h => h⟩
  case o9 =>
   have d8 : ∃ (a3 : Option Addr) (c3 : Nat), (xs 8) = .slice a3 N0 c3 := hD 8 rfl
   clear hD hI
   generalize xs 8 = y8 at *
   obtain ⟨a3, c3, rfl⟩ := d8
   go_wp2
   exact hK.out _ _ ⟨rfl, hG, fun _ _ _ _ _ _ h => h⟩
  case o10 =>
   have d6 : _ = _ := hD 6 rfl
   have d9 : _ = _ := hD 9 rfl
   clear hD hI
   generalize xs 6 = y6 at *
   generalize xs 9 = y9 at *
   subst d6 d9
   go_wp2
   exact hK.out _ _ ⟨by first | rw [HW.out] | rw [HC.out], hG, fun _ _ _ _ _ _ h => h⟩
  case o11 =>
   have d4 : _ = _ := hD 4 rfl
   have d10 : _ = _ := hD 10 rfl
   clear hD hI
   generalize xs 4 = y4 at *
   generalize xs 10 = y10 at *
   subst d4 d10
   go_wp2
   exact hK.out _ _ ⟨rfl, hG, fun _ _ _ _ _ _ h => h⟩
  case o12 =>
   have d11 : _ = _ := hD 11 rfl
   clear hD hI
   generalize xs 11 = y11 at *
   subst d11
   go_wp2
   exact hK.out _ _ ⟨rfl, hG, fun _ _ _ _ _ _ h => h⟩
  all_goals
   clear hD hI
   go_wp2
   exact hK.out _ _ ⟨rfl, hG, fun _ _ _ _ _ _ h => h⟩
 intro xs wx hV hG
 have d12 : _ = _ := hV 12 (by decide)
 clear hV
 simp only [patchS, Nat.reduceAdd, Nat.reduceEqDiff, ↓reduceIte]
 generalize xs 0 = y0 at *
 generalize xs 1 = y1 at *
 generalize xs 2 = y2 at *
 generalize xs 3 = y3 at *
 generalize xs 4 = y4 at *
 generalize xs 5 = y5 at *
 generalize xs 6 = y6 at *
 generalize xs 7 = y7 at *
 generalize xs 8 = y8 at *
 generalize xs 9 = y9 at *
 generalize xs 10 = y10 at *
 generalize xs 11 = y11 at *
 generalize xs 12 = y12 at *
 replace hG : Ext w3 wx := hG
 subst d12
 go_wp2
 go_ret
 exact ⟨ret_int (by rw [← Hbl.out, ← HS.out, ← HC0.out]), E4.trans hG⟩
end Go.Proofs.YtbnhaegidfbgbaaGreatDoor
