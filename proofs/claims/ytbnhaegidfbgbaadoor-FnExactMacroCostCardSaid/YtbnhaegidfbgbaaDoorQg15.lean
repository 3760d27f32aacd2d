/- impl.MacroBins: the decisions for a macroblock. | What a macroblock costs; the program's walk. | What a macroblock costs: the reference's walk. -/
import Derived.Test.YtbnhaegidfbgbaaDoorQg14
namespace Go.Proofs.YtbnhaegidfbgbaaDoor
open Go.RowKit
set_option maxHeartbeats 1000000
set_option maxRecDepth 100000 in
theorem appendMacro_skip (v0 : Value) (N0 : Nat) (xs0 : List Int) (m : Mac) (B0 : Nat) (w : World) (own : w.ownsRow B0 141 2 v0 N0 (xs0.map (Value.int .i64))) (hB : B0 ≤ w.heap.size) (hN : N0 ≤ 100000) (hm : m.ok) (h0 : m.kind = 0) :
 Calls Tryd.prog 141 #[v0, .agg (ic m.zs), .bool false] w fun e w' => ∃ a c, e = .returned (.slice a (N0 + macN m) c) ∧ w'.ownsRow B0 141 2 (.slice a (N0 + macN m) c) (N0 + macN m) ((xs0 ++ macL m).map (Value.int .i64)) ∧ FR B0 141 w w' := by
 have Hl := Lib.hid (Mac.zs_len hm)
 obtain ⟨a0, c0, rfl⟩ := owns_form own
 obtain ⟨Bx, hBx⟩ : ∃ Bx, Bx = w.heap.size := ⟨_, rfl⟩
 have E1 := (Ext.alloc w (.cells #[.slice a0 N0 c0] 129)).trans (Ext.alloc _ (.cells (ic m.zs) 34))
 have b0 : BB ((w.alloc (.cells #[.slice a0 N0 c0] 129)).alloc (.cells (ic m.zs) 34)) Bx (.slice a0 N0 c0) := by rw [hBx]; exact (Ext.alloc _ _).blk (blk_new w _)
 have I1 := IB.new (w.alloc (.cells #[.slice a0 N0 c0] 129)) 34 m.zs
 rw [World.size_alloc, ← hBx] at I1
 have o0 := owns_ext own E1
 have hs1 : ((w.alloc (.cells #[.slice a0 N0 c0] 129)).alloc (.cells (ic m.zs) 34)).heap.size = Bx + 2 := by simp [hBx]
 have hk := I1.cell (i := 0) (by rw [Mac.zs_len hm]; omega)
 rw [Mac.zs_kind, h0] at hk
 have HN := Lib.hid (show macN m = 1 by rw [macN, if_pos h0])
 have HL := Lib.hid (show macL m = [0, 0] by rw [macL, if_pos h0])
 have F1 : FR B0 141 w ((w.alloc (.cells #[.slice a0 N0 c0] 129)).alloc (.cells (ic m.zs) 34)) := FR.of_ext E1 hB
 have HBx := Lib.hid hBx
 have HS1 := Lib.hid hs1
 clear h0 hs1
 go_enter Tryd.func141, Tryd.ntmps141
 go_upto_region 1 with fail
 try simp only [World.size_alloc]
 rw [← hBx]
 generalize (w.alloc (.cells #[.slice a0 N0 c0] 129)).alloc (.cells (ic m.zs) 34) = w1 at *
 clear hBx
 obtain ⟨k0, k1⟩ := b0.cell
 have hB1 : B0 ≤ w1.heap.size := by rw [HS1.out]; have := HBx.out; omega
 go_wp2_with (at_builtin; refine wpList_appk _ rfl (o0.alloc _) (by simp; omega) _ _ 129 rfl (.agg #[.int .i64 0, .int .i64 0]) 16 Tryd.underlying129 info_Bin rfl (by decide) rfl ⟨w1.heap.size, 0, none⟩ 1 1 [.int .i64 0, .int .i64 0] rfl rfl ((Sl_new w1 [.int .i64 0, .int .i64 0] 141).cellsOf _ (by simp)) (by intro u hu; simp at hu; subst hu; rfl) (by omega) (by omega) ?_; intro v2 w2 own2 gr2 _; refine Hid.out ?_)
 refine Lib.hid ?_
 obtain ⟨a2, c2, rfl⟩ := owns_form own2
 have FA := (FR.of_ext (B := B0) (T := 141) (Ext.alloc w1 (.cells #[.int .i64 0, .int .i64 0] 141)) hB1).trans (FR.of_row (o0.alloc _) gr2 (by simp; omega))
 have o2 := ownc own2 (show _ = (xs0 ++ [0, 0]).map (Value.int .i64) by simp)
 go_wp2
 go_ret
 rw [HN.out, HL.out]
 exact ⟨_, _, rfl, o2, F1.trans FA⟩
theorem appendMacro_any (v0 : Value) (N0 : Nat) (xs0 : List Int) (m : Mac) (B0 : Nat) (w : World) (own : w.ownsRow B0 141 2 v0 N0 (xs0.map (Value.int .i64))) (hB : B0 ≤ w.heap.size) (hN : N0 ≤ 100000) (hm : m.ok) (hv : m.valid) :
 Calls Tryd.prog 141 #[v0, .agg (ic m.zs), .bool false] w fun e w' => ∃ a c, e = .returned (.slice a (N0 + macN m) c) ∧ w'.ownsRow B0 141 2 (.slice a (N0 + macN m) c) (N0 + macN m) ((xs0 ++ macL m).map (Value.int .i64)) ∧ FR B0 141 w w' := by
 by_cases h0 : m.kind = 0
 ·exact appendMacro_skip v0 N0 xs0 m B0 w own hB hN hm h0
 ·exact appendMacro_some v0 N0 xs0 m B0 w own hB hN hm hv h0
set_option maxRecDepth 100000 in
theorem impl_MacroBins_in (m : Mac) (w : World) (hm : m.ok) (hv : m.valid) :
 Calls Tryd.prog 121 #[.agg (ic m.zs), .bool false] w fun e w' => ∃ a c, e = .returned (.slice a (macN m) c) ∧ w'.ownsRow w.heap.size 141 2 (.slice a (macN m) c) (macN m) ((macL m).map (Value.int .i64)) ∧ Ext w w' := by
 have Hl := Lib.hid (Mac.zs_len hm)
 have Hm := Lib.hid hm
 have HV := Lib.hid hv
 have HD := Lib.hid (show decide m.valid = true from decide_eq_true hv)
 obtain ⟨Bx, hBx⟩ : ∃ Bx, Bx = w.heap.size := ⟨_, rfl⟩
 have E1 := Ext.alloc w (.cells (ic m.zs) 34)
 have I1 := IB.new w 34 m.zs
 have hz := I1.lt
 rw [← hBx] at I1
 have hm1 := hm
 clear hm hv
 go_enter Tryd.func121, Tryd.ntmps121
 go_upto_region 1 with fail
 rw [← hBx]
 generalize w.alloc (.cells (ic m.zs) 34) = w1 at *
 have HBx := Lib.hid hBx
 have hBl : w.heap.size ≤ Bx := by omega
 clear hBx
 go_wp2_with (refine wpList_iload 34 _ rfl rfl I1 0 71 rfl _ Tryd.underlying34 rfl size_Macro (by rw [Hl.out]; omega) _ (by rw [sub_all _ _ Hl.out]) ?_)
 refine (impl_MacroValid_any m _ Hm.out).mono ?_
 rw [HD.out]
 rintro e w2 ⟨rfl, e2⟩
 have I2 := I1.ext e2
 have E2 := E1.trans e2
 go_wp2_with (refine wpList_iload 34 _ rfl rfl I2 0 71 rfl _ Tryd.underlying34 rfl size_Macro (by rw [Hl.out]; omega) _ (by rw [sub_all _ _ Hl.out]) ?_)
 have hB2 : w.heap.size ≤ w2.heap.size := by have := e2.size; omega
 refine (appendMacro_any _ 0 [] m w.heap.size _ (World.ownsRow_nil _ _ _ _) hB2 (by omega) Hm.out HV.out).mono ?_
 rintro e w3 ⟨a, c, rfl, o3, f3⟩
 go_wp2
 go_ret
 have hz : 0 + macN m = macN m := Nat.zero_add _
 rw [hz] at o3
 exact ⟨_, _, rfl, o3, FR.ext E2 f3 (Nat.le_refl _)⟩
end Go.Proofs.YtbnhaegidfbgbaaDoor
namespace Go.Proofs.YtbnhaegidfbgbaaDoor
open Go.RowKit
set_option maxHeartbeats 1000000
/-- The sum of the squares of the first k differences. -/
def sqS (t D : Pic) (x y : Int) : Nat → Int
 | 0 => 0
 | k + 1 => sqS t D x y k + (pat t (x + (k % 8 : Nat)) (y + (k / 8 : Nat)) - pat D (x + (k % 8 : Nat)) (y + (k / 8 : Nat))) * (pat t (x + (k % 8 : Nat)) (y + (k / 8 : Nat)) - pat D (x + (k % 8 : Nat)) (y + (k / 8 : Nat)))
theorem sq_rng {d : Int} (h1 : -255 ≤ d) (h2 : d ≤ 255) : 0 ≤ d * d ∧ d * d ≤ 65025 := by
 have h := Int.mul_nonneg (show 0 ≤ 255 - d by omega) (show 0 ≤ 255 + d by omega)
 rw [Int.sub_mul, Int.mul_add, Int.mul_add, Int.mul_comm d 255] at h
 have h0 : 0 ≤ d * d := by
  rcases Int.le_total 0 d with h3 | h3
  ·exact Int.mul_nonneg h3 h3
  ·have := Int.mul_nonneg (show 0 ≤ -d by omega) (show 0 ≤ -d by omega)
   rwa [Int.neg_mul_neg] at this
 exact ⟨h0, by omega⟩
theorem pd_rng {t D : Pic} (ht : t.valid) (hD : D.valid) (x y : Int) : -255 ≤ pat t x y - pat D x y ∧ pat t x y - pat D x y ≤ 255 := by
 have h1 := pat_rng ht x y
 have h2 := pat_rng hD x y
 omega
theorem sqS_rng {t D : Pic} (ht : t.valid) (hD : D.valid) (x y : Int) (k : Nat) : 0 ≤ sqS t D x y k ∧ sqS t D x y k ≤ 65025 * k := by
 induction k with
 | zero => exact ⟨Int.le_refl _, Int.le_refl _⟩
 | succ k ih =>
  rw [sqS]
  have hd := pd_rng ht hD (x + (k % 8 : Nat)) (y + (k / 8 : Nat))
  have := sq_rng hd.1 hd.2
  generalize (pat t (x + (k % 8 : Nat)) (y + (k / 8 : Nat)) - pat D (x + (k % 8 : Nat)) (y + (k / 8 : Nat))) * (pat t (x + (k % 8 : Nat)) (y + (k / 8 : Nat)) - pat D (x + (k % 8 : Nat)) (y + (k / 8 : Nat))) = z at *
  omega
theorem rate_rng {m : Mac} {q : Nat} (hm : m.ok) (hv : m.valid) (hq : q < 16) : 0 ≤ stp q * (macN m : Int) ∧ stp q * (macN m : Int) ≤ 2560000 := by
 have h1 := stp_rng hq
 have h2 := macN_le hm hv
 have h3 := Int.mul_nonneg (show 0 ≤ stp q by omega) (show (0 : Int) ≤ (macN m : Int) by omega)
 have h4 := Int.mul_le_mul h1.2 (show (macN m : Int) ≤ 5000 by omega) (by omega) (by omega)
 exact ⟨h3, by omega⟩
/-- The decoded picture of a macroblock. -/
noncomputable def recD (ref p : Pic) (x y : Int) (m : Mac) (q top : Int) : Pic := ⟨p.w, p.h, bldS ref p x.toNat y.toNat m q.toNat top 4⟩
/-- The cost. -/
noncomputable def costP (t ref p : Pic) (x y : Int) (m : Mac) (q top : Int) : Int := if alikeP t p ∧ okR ref p x y m q top then sqS t (recD ref p x y m q top) x y 64 + stp q.toNat * (macN m : Int) else -1
theorem cellP {w : World} {g n k : Nat} {xs : List Int} {z : Int} (h : Sl w (some ⟨g, 0, none⟩) n (xs.map (Value.int .i64))) (hk : k < n) (hz : nth xs k = z) : w.cell? ⟨g, k, none⟩ = some (.int .i64 z) := by
 obtain ⟨b, off, ha, hc⟩ := h.int hk
 simp only [Option.some.injEq, Addr.mk.injEq] at ha
 obtain ⟨rfl, rfl, -⟩ := ha
 rw [Nat.zero_add, hz] at hc
 exact hc
theorem impl_QuantStep_inC (q : Nat) (w : World) (hT : TabQ w) (hq : q < 16) :
 Calls Tryd.prog 120 #[.int .i64 q] w fun e w' => e = .returned (.int .i64 (stp q)) ∧ w = w' := by
 have ht := hT q hq
 have hs := stp_rng hq
 generalize stp q = s at *
 go_enter Tryd.func120, Tryd.ntmps120
 go_wp2_with fail
 refine (qualityValid_in _ _ (by omega) (by omega)).mono ?_
 rintro e w1 ⟨rfl, rfl⟩
 go_wp2
 go_ret
 exact ⟨rfl, rfl⟩
set_option maxRecDepth 100000 in
set_option maxHeartbeats 2000000 in
theorem impl_cost_in (t ref : Pic) (W H x y : Nat) (px : List Int) (m : Mac) (q : Nat) (top : Int) (at1 a b : Option Addr) (tc c d tn n l : Nat) (w : World) (hT : TabQ w) (htn : tn = t.px.length) (hn : n = ref.px.length) (hl : l = px.length) (nc : n ≤ 9223372036854775807) (rt : Sl w at1 tn (t.px.map (Value.int .i64))) (r : Sl w a n (ref.px.map (Value.int .i64))) (s : Sl w b l (px.map (Value.int .i64))) (hm : m.ok) (htv : t.valid) (ho : okR ref ⟨W, H, px⟩ x y m q top) :
 Calls Tryd.prog 84 #[.agg #[.int .i64 t.w, .int .i64 t.h, .slice at1 tn tc], .agg #[.int .i64 ref.w, .int .i64 ref.h, .slice a n c], .agg #[.int .i64 W, .int .i64 H, .slice b l d], .int .i64 (x : Nat), .int .i64 (y : Nat), .agg (ic m.zs), .int .i64 q, .int .i64 top] w fun e w' => e = .returned (.int .i64 (sqS t ⟨W, H, bldS ref ⟨W, H, px⟩ x y m q top 4⟩ x y 64 + stp q * (macN m : Int))) ∧ Ext w w' := by
 have hlen := Pic.len_le ho.1.1
 simp only at hlen
 rw [← hl] at hlen
 obtain ⟨bl, hbl⟩ : ∃ bl, bl = bldS ref ⟨W, H, px⟩ x y m q top 4 := ⟨_, rfl⟩
 have hDv : Pic.valid ⟨W, H, bl⟩ := by rw [hbl]; exact bldS_valid ho.1.1 ref x y m q top 4
 have hxy : (x : Int) < 40 ∧ (y : Int) < 40 := by
  have h1 := ho.1.1.1
  have h2 := ho.1.1.2.1
  have h3 := ho.1.2.2.1
  have h4 := ho.1.2.2.2.2.2.1
  simp only [side] at h1 h2 h3 h4
  omega
 have HDn := Lib.hid (show l = bl.length by rw [hbl, bldS_len]; exact hl)
 have Hbl := Lib.hid hbl
 clear hbl
 have hrt := rate_rng hm ho.2.1 (show q < 16 by have := ho.2.2.1; omega)
 have Htn := Lib.hid htn
 have Hn := Lib.hid hn
 have HL := Lib.hid hl
 have Hm := Lib.hid hm
 have Hl := Lib.hid (Mac.zs_len hm)
 have Hok := Lib.hid ho
 have HTV := Lib.hid htv
 have HDv := Lib.hid hDv
 have hq : q < 16 := by have := ho.2.2.1; omega
 have ht0 : 0 ≤ top := ho.2.2.2.1.1
 clear hn hl hm ho htn htv hDv
 have a2 := Ext.alloc (w.alloc (.cells #[.int .i64 t.w, .int .i64 t.h, .slice at1 tn tc] 25)) (.cells #[.int .i64 ref.w, .int .i64 ref.h, .slice a n c] 25)
 have a3 := Ext.alloc ((w.alloc (.cells #[.int .i64 t.w, .int .i64 t.h, .slice at1 tn tc] 25)).alloc (.cells #[.int .i64 ref.w, .int .i64 ref.h, .slice a n c] 25)) (.cells #[.int .i64 W, .int .i64 H, .slice b l d] 25)
 have a4 := Ext.alloc (((w.alloc (.cells #[.int .i64 t.w, .int .i64 t.h, .slice at1 tn tc] 25)).alloc (.cells #[.int .i64 ref.w, .int .i64 ref.h, .slice a n c] 25)).alloc (.cells #[.int .i64 W, .int .i64 H, .slice b l d] 25)) (.cells (ic m.zs) 34)
 have p0 := a4.blk (a3.blk (a2.blk (blk_new w (.cells #[.int .i64 t.w, .int .i64 t.h, .slice at1 tn tc] 25))))
 have p1 := a4.blk (a3.blk (blk_new (w.alloc (.cells #[.int .i64 t.w, .int .i64 t.h, .slice at1 tn tc] 25)) (.cells #[.int .i64 ref.w, .int .i64 ref.h, .slice a n c] 25)))
 have p2 := a4.blk (blk_new ((w.alloc (.cells #[.int .i64 t.w, .int .i64 t.h, .slice at1 tn tc] 25)).alloc (.cells #[.int .i64 ref.w, .int .i64 ref.h, .slice a n c] 25)) (.cells #[.int .i64 W, .int .i64 H, .slice b l d] 25))
 have p3 := IB.new (((w.alloc (.cells #[.int .i64 t.w, .int .i64 t.h, .slice at1 tn tc] 25)).alloc (.cells #[.int .i64 ref.w, .int .i64 ref.h, .slice a n c] 25)).alloc (.cells #[.int .i64 W, .int .i64 H, .slice b l d] 25)) 34 m.zs
 have E1 := (((Ext.alloc w (.cells #[.int .i64 t.w, .int .i64 t.h, .slice at1 tn tc] 25)).trans a2).trans a3).trans a4
 simp only [World.size_alloc] at p1 p2 p3
 clear a2 a3 a4
 obtain ⟨B, hB⟩ : ∃ B, B = w.heap.size := ⟨_, rfl⟩
 rw [← hB] at p0 p1 p2 p3
 have hwB : w.heap.size ≤ B := by omega
 have HB := Lib.hid hB
 have hb1 := p3.lt
 go_enter Tryd.func84, Tryd.ntmps84
 go_upto_region 1 with fail
 try simp only [World.size_alloc]
 rw [← hB]
 clear hB
 generalize (((w.alloc (.cells #[.int .i64 t.w, .int .i64 t.h, .slice at1 tn tc] 25)).alloc (.cells #[.int .i64 ref.w, .int .i64 ref.h, .slice a n c] 25)).alloc (.cells #[.int .i64 W, .int .i64 H, .slice b l d] 25)).alloc (.cells (ic m.zs) 34) = w1 at *
 obtain ⟨-, i0, i1, i2, -⟩ := bx3 p2
 go_wp2_with fail
 refine (clone_any W H b d l px _ (by omega) (s.ext E1)).mono ?_
 rintro e wa ⟨a1, c1, rfl, own1, e2⟩
 have r0 := e2.blk p0
 have r1 := e2.blk p1
 have r2 := e2.blk p2
 have r3 := p3.ext e2
 have E2 := E1.trans e2
 clear p0 p1 p2 p3 E1 e2 i0 i1 i2
 have hgo : ∃ g, a1 = some ⟨g, 0, none⟩ ∧ g < wa.heap.size ∧ w1.heap.size ≤ g := by
  rcases own1.2 with ⟨-, h0⟩ | ⟨g, cc, cur, hv, hb, hb2, -⟩
  ·omega
  ·simp only [Value.slice.injEq] at hv
   exact ⟨g, hv.1, lt_of_block hb2, hb⟩
 obtain ⟨g, rfl, hg1, hg2⟩ := hgo
 have a5 := Ext.alloc wa (.cells #[.int .i64 W, .int .i64 H, .slice (some ⟨g, 0, none⟩) l c1] 25)
 have z0 := a5.blk r0
 have z1 := a5.blk r1
 have z3 := r3.ext a5
 have z4 := blk_new wa (.cells #[.int .i64 W, .int .i64 H, .slice (some ⟨g, 0, none⟩) l c1] 25)
 have own2 := owns_ext own1 a5
 have E3 := E2.trans a5
 have hO := r3.lt
 obtain ⟨O, hOe⟩ : ∃ O, O = wa.heap.size := ⟨_, rfl⟩
 rw [← hOe] at z4 hg1 hO
 have HO2 := Lib.hid hOe
 clear r0 r1 r2 r3 own1 E2 a5
 obtain ⟨-, i0, i1, i2, -⟩ := bx3 z1
 obtain ⟨-, o0, o1, o2, -⟩ := bx3 z4
 have hOlt := lt_of_block z4
 go_upto_region 2 with fail
 rw [← hOe]
 clear hOe
 generalize wa.alloc (.cells #[.int .i64 W, .int .i64 H, .slice (some ⟨g, 0, none⟩) l c1] 25) = w2 at *
 go_wp2_with (refine wpList_iload 34 _ rfl rfl z3 0 71 rfl _ Tryd.underlying34 rfl size_Macro (by rw [Hl.out]; omega) _ (by rw [sub_all _ _ Hl.out]) ?_)
 have hrz : ¬ m.kind = 2 → ∀ z, a = some z → z.block ≠ g := fun hk z hz => by
  have h9 := Pic.len_le (okR_ref Hok.out hk)
  rw [← Hn.out] at h9
  have := sl_bound r z hz (by omega)
  omega
 have hT0 := World.block_lt_of_cell? w _ (hT 0 (by omega))
 refine (rebuild_any ref W H x y px m q top a n c w1.heap.size g l c1 _ (hT.ext E3) (by simp only at hT0; omega) own2 Hok.out.1 Hm.out Hok.out.2.1 hq (fun hk => okR_ref Hok.out hk) Hn.out (r.ext E3) hrz).mono ?_
 rintro e w3 ⟨rfl, own3, g3⟩
 rw [← Hbl.out] at own3
 have u0 := blk_gr z0 g3 (by simp; omega)
 have u3 := z3.gr g3 (by simp; omega)
 have u4 := blk_gr z4 g3 (by simp; omega)
 have hs1 : B ≤ w1.heap.size := by omega
 have E4 : Ext w w3 := Ext.grown E3 g3 (fun k e => by cases e; omega)
 have SD := Sl.of_owns own3
 clear z0 z1 z3 z4 own2 own3 E3 g3 i0 i1 i2 o0 o1 o2
 have RT := rt.ext E4
 obtain ⟨s0, hs0⟩ : ∃ s0, s0 = stp q := ⟨_, rfl⟩
 obtain ⟨N0, hN0⟩ : ∃ N0, N0 = macN m := ⟨_, rfl⟩
 obtain ⟨C, hC⟩ : ∃ C, C = stp q * (macN m : Int) := ⟨_, rfl⟩
 rw [← hC] at hrt
 have HC := Lib.hid (show s0 * (N0 : Int) = C by rw [hs0, hN0, hC])
 have HW := Lib.hid (show wrap64 (s0 * (N0 : Int)) = C by rw [hs0, hN0, ← hC]; unfold wrap64; omega)
 have HS0 := Lib.hid hs0
 have HN0 := Lib.hid hN0
 have HC0 := Lib.hid hC
 have hs0r := stp_rng hq
 rw [← hs0] at hs0r
 have hN0r := macN_le Hm.out Hok.out.2.1
 rw [← hN0] at hN0r
 have hTe := hT.ext E4
 clear hs0 hN0 hC
 go_upto_region 3 with fail
 refine wp_region_inv2 (by kernel_rfl) [(18, 6), (31, 0), (32, 1), (33, 2), (34, 3), (35, 4), (36, 5)] [[], [0], [], [0, 1, 2], [0, 1, 2, 3], [0, 1, 2, 3, 4], [0, 1, 2, 3, 4, 5]] (fun i own ys wx => match i with | 0 => own = .int .i64 (q : Nat) | 1 => own = .int .i64 s0 | 2 => own = .agg (ic m.zs) | 3 => ∃ (a3 : Option Addr) (c3 : Nat), own = .slice a3 N0 c3 | 4 => own = .int .i64 (N0 : Nat) | 5 => own = .int .i64 C | 6 => own = .int .i64 C | _ => True) (fun kx wx => Ext w3 wx) (by kernel_rfl) (by kernel_rfl) (by kernel_rfl) ?g0_r1 ?gop_r1 ?gend_r1
 case g0_r1 => exact Ext.drewN _ 1
 case gop_r1 =>
  refine ⟨?_, ?_, ?_, ?_, ?_, ?_, ?_, trivial⟩
  ·intro kx xs wx hk hG hD hI Qo Kx hK hQo
   clear hD hI
   simp only [patchS, Nat.reduceAdd, Nat.reduceEqDiff, ↓reduceIte] at hQo ⊢
   go_wp2
   exact hK.out _ _ ⟨rfl, hG, fun _ _ _ _ _ _ h => h⟩
  ·intro kx xs wx hk hG hD hI Qo Kx hK hQo
   have d0 : (xs 0) = .int .i64 (q : Nat) := hD 0 rfl
   clear hD hI
   simp only [patchS, Nat.reduceAdd, Nat.reduceEqDiff, ↓reduceIte] at hQo ⊢
   generalize xs 0 = y0 at *
   subst d0
   go_wp2_with fail
   refine (impl_QuantStep_inC q _ (hTe.ext hG) hq).mono ?_
   rintro e wz ⟨rfl, rfl⟩
   rw [← HS0.out]
   go_wp2
   exact hK.out _ _ ⟨rfl, hG, fun _ _ _ _ _ _ h => h⟩
  ·intro kx xs wx hk hG hD hI Qo Kx hK hQo
   clear hD hI
   simp only [patchS, Nat.reduceAdd, Nat.reduceEqDiff, ↓reduceIte] at hQo ⊢
   go_wp2_with (refine wpList_iload 34 _ rfl rfl (u3.ext hG) 0 71 rfl _ Tryd.underlying34 rfl size_Macro (by rw [Hl.out]; omega) _ (by rw [sub_all _ _ Hl.out]) ?_)
   exact hK.out _ _ ⟨rfl, hG, fun _ _ _ _ _ _ h => h⟩
  ·intro kx xs wx hk hG hD hI Qo Kx hK hQo
   have d2 : (xs 2) = .agg (ic m.zs) := hD 2 rfl
   clear hD hI
   simp only [patchS, Nat.reduceAdd, Nat.reduceEqDiff, ↓reduceIte] at hQo ⊢
   generalize xs 2 = y2 at *
   subst d2
   go_wp2_with fail
   refine (impl_MacroBins_in m _ Hm.out Hok.out.2.1).mono ?_
   rintro e wz ⟨az, cz, rfl, -, ez⟩
   rw [← HN0.out]
   go_wp2
   exact hK.out _ _ ⟨⟨az, cz, rfl⟩, hG.trans ez, fun _ _ _ _ _ _ h => h⟩
  ·intro kx xs wx hk hG hD hI Qo Kx hK hQo
   have d3 : ∃ (a3 : Option Addr) (c3 : Nat), (xs 3) = .slice a3 N0 c3 := hD 3 rfl
   clear hD hI
   simp only [patchS, Nat.reduceAdd, Nat.reduceEqDiff, ↓reduceIte] at hQo ⊢
   generalize xs 3 = y3 at *
   obtain ⟨a3, c3, rfl⟩ := d3
   go_wp2
   exact hK.out _ _ ⟨rfl, hG, fun _ _ _ _ _ _ h => h⟩
  ·intro kx xs wx hk hG hD hI Qo Kx hK hQo
   have d1 : (xs 1) = .int .i64 s0 := hD 1 rfl
   have d4 : (xs 4) = .int .i64 (N0 : Nat) := hD 4 rfl
   clear hD hI
   simp only [patchS, Nat.reduceAdd, Nat.reduceEqDiff, ↓reduceIte] at hQo ⊢
   generalize xs 1 = y1 at *
   generalize xs 4 = y4 at *
   subst d1 d4
   go_wp2
   exact hK.out _ _ ⟨by first | rw [HW.out] | rw [HC.out], hG, fun _ _ _ _ _ _ h => h⟩
  ·intro kx xs wx hk hG hD hI Qo Kx hK hQo
   have d5 : (xs 5) = .int .i64 C := hD 5 rfl
   clear hD hI
   simp only [patchS, Nat.reduceAdd, Nat.reduceEqDiff, ↓reduceIte] at hQo ⊢
   generalize xs 5 = y5 at *
   subst d5
   go_wp2
   exact hK.out _ _ ⟨rfl, hG, fun _ _ _ _ _ _ h => h⟩
 intro xs wx hV hG
 have d0 : (xs 0) = .int .i64 (q : Nat) := hV 0 (by decide)
 have d1 : (xs 1) = .int .i64 s0 := hV 1 (by decide)
 have d2 : (xs 2) = .agg (ic m.zs) := hV 2 (by decide)
 have d3 : ∃ (a3 : Option Addr) (c3 : Nat), (xs 3) = .slice a3 N0 c3 := hV 3 (by decide)
 have d4 : (xs 4) = .int .i64 (N0 : Nat) := hV 4 (by decide)
 have d5 : (xs 5) = .int .i64 C := hV 5 (by decide)
 have d6 : (xs 6) = .int .i64 C := hV 6 (by decide)
 clear hV
 simp only [patchS, Nat.reduceAdd, Nat.reduceEqDiff, ↓reduceIte]
 generalize xs 0 = y0 at *
 generalize xs 1 = y1 at *
 generalize xs 2 = y2 at *
 generalize xs 3 = y3 at *
 generalize xs 4 = y4 at *
 generalize xs 5 = y5 at *
 generalize xs 6 = y6 at *
 replace hG : Ext w3 wx := hG
 clear d0 d1 d2 d3 d4 d5
 subst d6
 have E5 := E4.trans hG
 have x0 := hG.blk u0
 have x4 := hG.blk u4
 have SD5 := SD.ext hG
 have RT5 := RT.ext hG
 clear hG u0 u3 u4 SD RT hTe E4
 generalize wx = w5 at *
 go_wp2_with fail
 go_loopw [18, 37] (fun v i wr => ∃ k : Nat, k ≤ 64 ∧ i = .int .i64 k ∧ v = .int .i64 (C + sqS t ⟨W, H, bl⟩ x y k) ∧ Ext w5 wr) (fun _ i _ => 64 - (intOf i).toNat)
 case atStart => exact ⟨0, by omega, rfl, by simp [sqS], Below.refl _ _⟩
 case round =>
  obtain ⟨k, hk, rfl, rfl, Ek⟩ := hrel
  have hsr := sqS_rng HTV.out HDv.out x y k
  by_cases hlt : k < 64
  ·have hd : decide ((k : Int) < 64) = true := by simp; omega
   obtain ⟨ii, hi⟩ : ∃ ii, ii = k % 8 := ⟨_, rfl⟩
   obtain ⟨jj, hj⟩ : ∃ jj, jj = k / 8 := ⟨_, rfl⟩
   have hpd := pd_rng HTV.out HDv.out ((x : Int) + (ii : Nat)) ((y : Int) + (jj : Nat))
   have hsq := sq_rng hpd.1 hpd.2
   have Hnx := Lib.hid (show sqS t ⟨W, H, bl⟩ x y (k + 1) = _ by rw [sqS, ← hi, ← hj])
   obtain ⟨pt, hpt⟩ : ∃ z, z = pat t ((x : Int) + (ii : Nat)) ((y : Int) + (jj : Nat)) := ⟨_, rfl⟩
   obtain ⟨pd, hpD⟩ : ∃ z, z = pat ⟨W, H, bl⟩ ((x : Int) + (ii : Nat)) ((y : Int) + (jj : Nat)) := ⟨_, rfl⟩
   have hp1 := pat_rng HTV.out ((x : Int) + (ii : Nat)) ((y : Int) + (jj : Nat))
   have hp2 := pat_rng HDv.out ((x : Int) + (ii : Nat)) ((y : Int) + (jj : Nat))
   rw [← hpt] at hp1
   rw [← hpD] at hp2
   rw [← hpt, ← hpD] at hpd hsq Hnx
   have HPT := Lib.hid hpt
   have HPD := Lib.hid hpD
   have Hi := Lib.hid (show (k : Int) % 8 = (ii : Int) by omega)
   have Hj := Lib.hid (show (k : Int) / 8 = (jj : Int) by omega)
   have hib : ii < 8 := by omega
   have hjb : jj < 8 := by omega
   have Hwq := Lib.hid (show wrap64 ((pt - pd) * (pt - pd)) = (pt - pd) * (pt - pd) by generalize (pt - pd) * (pt - pd) = z at hsq ⊢; unfold wrap64; omega)
   clear hi hj hpt hpD
   have X0 := Lib.hid (Ek.blk x0)
   have X4 := Lib.hid (Ek.blk x4)
   go_upto_region 7 with fail
   refine wp_region_inv2 (by kernel_rfl) [(20, 21), (40, 0), (41, 1), (42, 2), (43, 3), (44, 4), (45, 5), (46, 6), (47, 7), (48, 8), (49, 9), (50, 10), (51, 11), (52, 12), (53, 13), (54, 14), (55, 15), (56, 16), (57, 17), (58, 18), (59, 19), (60, 20)] [[], [], [], [2], [1, 2, 3], [], [], [6], [5, 6, 7], [0, 1, 2, 3, 4, 5, 6, 7, 8], [], [], [], [12], [11, 12, 13], [], [], [16], [15, 16, 17], [0, 1, 2, 3, 4, 5, 6, 7, 8, 9, 10, 11, 12, 13, 14, 15, 16, 17, 18], [0, 1, 2, 3, 4, 5, 6, 7, 8, 9, 10, 11, 12, 13, 14, 15, 16, 17, 18, 19], [0, 1, 2, 3, 4, 5, 6, 7, 8, 9, 10, 11, 12, 13, 14, 15, 16, 17, 18, 19, 20]] (fun i own ys wx => match i with | 0 => own = .agg #[.int .i64 t.w, .int .i64 t.h, .slice at1 tn tc] | 1 => own = .int .i64 (x : Nat) | 2 => own = .int .i64 (k : Nat) | 3 => own = .int .i64 ((k : Int) % 8) | 4 => own = .int .i64 ((x : Int) + (ii : Nat)) | 5 => own = .int .i64 (y : Nat) | 6 => own = .int .i64 (k : Nat) | 7 => own = .int .i64 ((k : Int) / 8) | 8 => own = .int .i64 ((y : Int) + (jj : Nat)) | 9 => own = .int .i64 pt | 10 => own = .agg #[.int .i64 W, .int .i64 H, .slice (some ⟨g, 0, none⟩) l c1] | 11 => own = .int .i64 (x : Nat) | 12 => own = .int .i64 (k : Nat) | 13 => own = .int .i64 ((k : Int) % 8) | 14 => own = .int .i64 ((x : Int) + (ii : Nat)) | 15 => own = .int .i64 (y : Nat) | 16 => own = .int .i64 (k : Nat) | 17 => own = .int .i64 ((k : Int) / 8) | 18 => own = .int .i64 ((y : Int) + (jj : Nat)) | 19 => own = .int .i64 pd | 20 => own = .int .i64 (pt - pd) | 21 => own = .int .i64 (pt - pd) | _ => True) (fun kx wx => Ext wr wx) (by kernel_rfl) (by kernel_rfl) (by kernel_rfl) ?g0_r2 ?gop_r2 ?gend_r2
   case g0_r2 => exact Ext.drewN _ 1
   case gop_r2 =>
    refine ⟨?_, ?_, ?_, ?_, ?_, ?_, ?_, ?_, ?_, ?_, ?_, ?_, ?_, ?_, ?_, ?_, ?_, ?_, ?_, ?_, ?_, ?_, trivial⟩
    ·intro kx xs wx hk hG hD hI Qo Kx hK hQo
     clear hD hI
     simp only [patchS, Nat.reduceAdd, Nat.reduceEqDiff, ↓reduceIte] at hQo ⊢
     obtain ⟨-, k0, k1, k2, -⟩ := bx3 (hG.blk X0.out)
     go_wp2
     exact hK.out _ _ ⟨rfl, hG, fun _ _ _ _ _ _ h => h⟩
    ·intro kx xs wx hk hG hD hI Qo Kx hK hQo
     clear hD hI
     simp only [patchS, Nat.reduceAdd, Nat.reduceEqDiff, ↓reduceIte] at hQo ⊢
     go_wp2
     exact hK.out _ _ ⟨rfl, hG, fun _ _ _ _ _ _ h => h⟩
    ·intro kx xs wx hk hG hD hI Qo Kx hK hQo
     clear hD hI
     simp only [patchS, Nat.reduceAdd, Nat.reduceEqDiff, ↓reduceIte] at hQo ⊢
     go_wp2
     exact hK.out _ _ ⟨rfl, hG, fun _ _ _ _ _ _ h => h⟩
    ·intro kx xs wx hk hG hD hI Qo Kx hK hQo
     have d2 : (xs 2) = .int .i64 (k : Nat) := hD 2 rfl
     clear hD hI
     simp only [patchS, Nat.reduceAdd, Nat.reduceEqDiff, ↓reduceIte] at hQo ⊢
     generalize xs 2 = y2 at *
     subst d2
     go_wp2
     exact hK.out _ _ ⟨rfl, hG, fun _ _ _ _ _ _ h => h⟩
    ·intro kx xs wx hk hG hD hI Qo Kx hK hQo
     have d1 : (xs 1) = .int .i64 (x : Nat) := hD 1 rfl
     have d3 : (xs 3) = .int .i64 ((k : Int) % 8) := hD 3 rfl
     clear hD hI
     simp only [patchS, Nat.reduceAdd, Nat.reduceEqDiff, ↓reduceIte] at hQo ⊢
     generalize xs 1 = y1 at *
     generalize xs 3 = y3 at *
     subst d1 d3
     go_wp2
     exact hK.out _ _ ⟨by rw [← Hi.out], hG, fun _ _ _ _ _ _ h => h⟩
    ·intro kx xs wx hk hG hD hI Qo Kx hK hQo
     clear hD hI
     simp only [patchS, Nat.reduceAdd, Nat.reduceEqDiff, ↓reduceIte] at hQo ⊢
     go_wp2
     exact hK.out _ _ ⟨rfl, hG, fun _ _ _ _ _ _ h => h⟩
    ·intro kx xs wx hk hG hD hI Qo Kx hK hQo
     clear hD hI
     simp only [patchS, Nat.reduceAdd, Nat.reduceEqDiff, ↓reduceIte] at hQo ⊢
     go_wp2
     exact hK.out _ _ ⟨rfl, hG, fun _ _ _ _ _ _ h => h⟩
    ·intro kx xs wx hk hG hD hI Qo Kx hK hQo
     have d6 : (xs 6) = .int .i64 (k : Nat) := hD 6 rfl
     clear hD hI
     simp only [patchS, Nat.reduceAdd, Nat.reduceEqDiff, ↓reduceIte] at hQo ⊢
     generalize xs 6 = y6 at *
     subst d6
     go_wp2
     exact hK.out _ _ ⟨rfl, hG, fun _ _ _ _ _ _ h => h⟩
    ·intro kx xs wx hk hG hD hI Qo Kx hK hQo
     have d5 : (xs 5) = .int .i64 (y : Nat) := hD 5 rfl
     have d7 : (xs 7) = .int .i64 ((k : Int) / 8) := hD 7 rfl
     clear hD hI
     simp only [patchS, Nat.reduceAdd, Nat.reduceEqDiff, ↓reduceIte] at hQo ⊢
     generalize xs 5 = y5 at *
     generalize xs 7 = y7 at *
     subst d5 d7
     go_wp2
     exact hK.out _ _ ⟨by rw [← Hj.out], hG, fun _ _ _ _ _ _ h => h⟩
    ·intro kx xs wx hk hG hD hI Qo Kx hK hQo
     have d0 : (xs 0) = .agg #[.int .i64 t.w, .int .i64 t.h, .slice at1 tn tc] := hD 0 rfl
     have d4 : (xs 4) = .int .i64 ((x : Int) + (ii : Nat)) := hD 4 rfl
     have d8 : (xs 8) = .int .i64 ((y : Int) + (jj : Nat)) := hD 8 rfl
     clear hD hI
     simp only [patchS, Nat.reduceAdd, Nat.reduceEqDiff, ↓reduceIte] at hQo ⊢
     generalize xs 0 = y0 at *
     generalize xs 4 = y4 at *
     generalize xs 8 = y8 at *
     subst d0 d4 d8
     go_wp2_with fail
     refine (at_any t ((x : Int) + (ii : Nat)) ((y : Int) + (jj : Nat)) at1 tc tn _ HTV.out Htn.out (RT5.ext (Ek.trans hG))).mono ?_
     rintro e wz ⟨rfl, ez⟩
     rw [← HPT.out]
     go_wp2
     exact hK.out _ _ ⟨rfl, hG.trans ez, fun _ _ _ _ _ _ h => h⟩
    ·intro kx xs wx hk hG hD hI Qo Kx hK hQo
     clear hD hI
     simp only [patchS, Nat.reduceAdd, Nat.reduceEqDiff, ↓reduceIte] at hQo ⊢
     obtain ⟨-, k0, k1, k2, -⟩ := bx3 (hG.blk X4.out)
     go_wp2
     exact hK.out _ _ ⟨rfl, hG, fun _ _ _ _ _ _ h => h⟩
    ·intro kx xs wx hk hG hD hI Qo Kx hK hQo
     clear hD hI
     simp only [patchS, Nat.reduceAdd, Nat.reduceEqDiff, ↓reduceIte] at hQo ⊢
     go_wp2
     exact hK.out _ _ ⟨rfl, hG, fun _ _ _ _ _ _ h => h⟩
    ·intro kx xs wx hk hG hD hI Qo Kx hK hQo
     clear hD hI
     simp only [patchS, Nat.reduceAdd, Nat.reduceEqDiff, ↓reduceIte] at hQo ⊢
     go_wp2
     exact hK.out _ _ ⟨rfl, hG, fun _ _ _ _ _ _ h => h⟩
    ·intro kx xs wx hk hG hD hI Qo Kx hK hQo
     have d12 : (xs 12) = .int .i64 (k : Nat) := hD 12 rfl
     clear hD hI
     simp only [patchS, Nat.reduceAdd, Nat.reduceEqDiff, ↓reduceIte] at hQo ⊢
     generalize xs 12 = y12 at *
     subst d12
     go_wp2
     exact hK.out _ _ ⟨rfl, hG, fun _ _ _ _ _ _ h => h⟩
    ·intro kx xs wx hk hG hD hI Qo Kx hK hQo
     have d11 : (xs 11) = .int .i64 (x : Nat) := hD 11 rfl
     have d13 : (xs 13) = .int .i64 ((k : Int) % 8) := hD 13 rfl
     clear hD hI
     simp only [patchS, Nat.reduceAdd, Nat.reduceEqDiff, ↓reduceIte] at hQo ⊢
     generalize xs 11 = y11 at *
     generalize xs 13 = y13 at *
     subst d11 d13
     go_wp2
     exact hK.out _ _ ⟨by rw [← Hi.out], hG, fun _ _ _ _ _ _ h => h⟩
    ·intro kx xs wx hk hG hD hI Qo Kx hK hQo
     clear hD hI
     simp only [patchS, Nat.reduceAdd, Nat.reduceEqDiff, ↓reduceIte] at hQo ⊢
     go_wp2
     exact hK.out _ _ ⟨rfl, hG, fun _ _ _ _ _ _ h => h⟩
    ·intro kx xs wx hk hG hD hI Qo Kx hK hQo
     clear hD hI
     simp only [patchS, Nat.reduceAdd, Nat.reduceEqDiff, ↓reduceIte] at hQo ⊢
     go_wp2
     exact hK.out _ _ ⟨rfl, hG, fun _ _ _ _ _ _ h => h⟩
    ·intro kx xs wx hk hG hD hI Qo Kx hK hQo
     have d16 : (xs 16) = .int .i64 (k : Nat) := hD 16 rfl
     clear hD hI
     simp only [patchS, Nat.reduceAdd, Nat.reduceEqDiff, ↓reduceIte] at hQo ⊢
     generalize xs 16 = y16 at *
     subst d16
     go_wp2
     exact hK.out _ _ ⟨rfl, hG, fun _ _ _ _ _ _ h => h⟩
    ·intro kx xs wx hk hG hD hI Qo Kx hK hQo
     have d15 : (xs 15) = .int .i64 (y : Nat) := hD 15 rfl
     have d17 : (xs 17) = .int .i64 ((k : Int) / 8) := hD 17 rfl
     clear hD hI
     simp only [patchS, Nat.reduceAdd, Nat.reduceEqDiff, ↓reduceIte] at hQo ⊢
     generalize xs 15 = y15 at *
     generalize xs 17 = y17 at *
     subst d15 d17
     go_wp2
     exact hK.out _ _ ⟨by rw [← Hj.out], hG, fun _ _ _ _ _ _ h => h⟩
    ·intro kx xs wx hk hG hD hI Qo Kx hK hQo
     have d10 : (xs 10) = .agg #[.int .i64 W, .int .i64 H, .slice (some ⟨g, 0, none⟩) l c1] := hD 10 rfl
     have d14 : (xs 14) = .int .i64 ((x : Int) + (ii : Nat)) := hD 14 rfl
     have d18 : (xs 18) = .int .i64 ((y : Int) + (jj : Nat)) := hD 18 rfl
     clear hD hI
     simp only [patchS, Nat.reduceAdd, Nat.reduceEqDiff, ↓reduceIte] at hQo ⊢
     generalize xs 10 = y10 at *
     generalize xs 14 = y14 at *
     generalize xs 18 = y18 at *
     subst d10 d14 d18
     go_wp2_with fail
     refine (at_any ⟨W, H, bl⟩ ((x : Int) + (ii : Nat)) ((y : Int) + (jj : Nat)) (some ⟨g, 0, none⟩) c1 l _ HDv.out HDn.out (SD5.ext (Ek.trans hG))).mono ?_
     rintro e wz ⟨rfl, ez⟩
     rw [← HPD.out]
     go_wp2
     exact hK.out _ _ ⟨rfl, hG.trans ez, fun _ _ _ _ _ _ h => h⟩
    ·intro kx xs wx hk hG hD hI Qo Kx hK hQo
     have d9 : (xs 9) = .int .i64 pt := hD 9 rfl
     have d19 : (xs 19) = .int .i64 pd := hD 19 rfl
     clear hD hI
     simp only [patchS, Nat.reduceAdd, Nat.reduceEqDiff, ↓reduceIte] at hQo ⊢
     generalize xs 9 = y9 at *
     generalize xs 19 = y19 at *
     subst d9 d19
     go_wp2
     exact hK.out _ _ ⟨rfl, hG, fun _ _ _ _ _ _ h => h⟩
    ·intro kx xs wx hk hG hD hI Qo Kx hK hQo
     have d20 : (xs 20) = .int .i64 (pt - pd) := hD 20 rfl
     clear hD hI
     simp only [patchS, Nat.reduceAdd, Nat.reduceEqDiff, ↓reduceIte] at hQo ⊢
     generalize xs 20 = y20 at *
     subst d20
     go_wp2
     exact hK.out _ _ ⟨rfl, hG, fun _ _ _ _ _ _ h => h⟩
   intro xs wx hV hG
   have d0 : (xs 0) = .agg #[.int .i64 t.w, .int .i64 t.h, .slice at1 tn tc] := hV 0 (by decide)
   have d1 : (xs 1) = .int .i64 (x : Nat) := hV 1 (by decide)
   have d2 : (xs 2) = .int .i64 (k : Nat) := hV 2 (by decide)
   have d3 : (xs 3) = .int .i64 ((k : Int) % 8) := hV 3 (by decide)
   have d4 : (xs 4) = .int .i64 ((x : Int) + (ii : Nat)) := hV 4 (by decide)
   have d5 : (xs 5) = .int .i64 (y : Nat) := hV 5 (by decide)
   have d6 : (xs 6) = .int .i64 (k : Nat) := hV 6 (by decide)
   have d7 : (xs 7) = .int .i64 ((k : Int) / 8) := hV 7 (by decide)
   have d8 : (xs 8) = .int .i64 ((y : Int) + (jj : Nat)) := hV 8 (by decide)
   have d9 : (xs 9) = .int .i64 pt := hV 9 (by decide)
   have d10 : (xs 10) = .agg #[.int .i64 W, .int .i64 H, .slice (some ⟨g, 0, none⟩) l c1] := hV 10 (by decide)
   have d11 : (xs 11) = .int .i64 (x : Nat) := hV 11 (by decide)
   have d12 : (xs 12) = .int .i64 (k : Nat) := hV 12 (by decide)
   have d13 : (xs 13) = .int .i64 ((k : Int) % 8) := hV 13 (by decide)
   have d14 : (xs 14) = .int .i64 ((x : Int) + (ii : Nat)) := hV 14 (by decide)
   have d15 : (xs 15) = .int .i64 (y : Nat) := hV 15 (by decide)
   have d16 : (xs 16) = .int .i64 (k : Nat) := hV 16 (by decide)
   have d17 : (xs 17) = .int .i64 ((k : Int) / 8) := hV 17 (by decide)
   have d18 : (xs 18) = .int .i64 ((y : Int) + (jj : Nat)) := hV 18 (by decide)
   have d19 : (xs 19) = .int .i64 pd := hV 19 (by decide)
   have d20 : (xs 20) = .int .i64 (pt - pd) := hV 20 (by decide)
   have d21 : (xs 21) = .int .i64 (pt - pd) := hV 21 (by decide)
   clear hV
   simp only [patchS, Nat.reduceAdd, Nat.reduceEqDiff, ↓reduceIte]
   generalize xs 0 = y0 at *
   generalize xs 1 = y1 at *
   generalize xs 2 = y2 at *
   generalize xs 3 = y3 at *
   generalize xs 4 = y4 at *
   generalize xs 5 = y5 at *
   generalize xs 6 = y6 at *
   generalize xs 7 = y7 at *
   generalize xs 8 = y8 at *
   generalize xs 9 = y9 at *
   generalize xs 10 = y10 at *
   generalize xs 11 = y11 at *
   generalize xs 12 = y12 at *
   generalize xs 13 = y13 at *
   generalize xs 14 = y14 at *
   generalize xs 15 = y15 at *
   generalize xs 16 = y16 at *
   generalize xs 17 = y17 at *
   generalize xs 18 = y18 at *
   generalize xs 19 = y19 at *
   generalize xs 20 = y20 at *
   generalize xs 21 = y21 at *
   replace hG : Ext wr wx := hG
   clear d0 d1 d2 d3 d4 d5 d6 d7 d8 d9 d10 d11 d12 d13 d14 d15 d16 d17 d18 d19 d20
   subst d21
   obtain ⟨dv, hdv⟩ : ∃ dv, dv = pt - pd := ⟨_, rfl⟩
   rw [← hdv] at hpd hsq Hnx Hwq ⊢
   have HDV := Lib.hid hdv
   clear hdv
   obtain ⟨S, hS⟩ : ∃ S, S = sqS t ⟨W, H, bl⟩ x y k := ⟨_, rfl⟩
   rw [← hS] at hsr Hnx ⊢
   clear hS
   go_wp2
   go_roundw
   case rel => exact ⟨k + 1, by omega, by go_num, by rw [Hnx.out]; congr 1; generalize dv * dv = z at *; first | omega | (unfold wrap64; omega), Ek.trans hG⟩
   case measure => simp [intOf]; omega
  ·obtain rfl : k = 64 := by omega
   obtain ⟨S, hS⟩ : ∃ S, S = sqS t ⟨W, H, bl⟩ x y 64 := ⟨_, rfl⟩
   rw [← hS] at hsr ⊢
   have HS := Lib.hid hS
   clear hS
   go_wp2
   go_ret
   exact ⟨ret_int (by rw [← Hbl.out, ← HS.out, ← HC0.out]; omega), E5.trans Ek⟩
end Go.Proofs.YtbnhaegidfbgbaaDoor
namespace Go.Proofs.YtbnhaegidfbgbaaDoor
open Go.RowKit
set_option maxHeartbeats 1000000
theorem nth_blk0 (p : Pic) (x y : Int) {k : Nat} (h : k < 64) : nth (blkL p x y 0 0) k = pat p (x + (k % 8 : Nat)) (y + (k / 8 : Nat)) := by
 rw [nth_blkL p x y 0 0 h, Int.add_zero, Int.add_zero, hlf_two]
set_option maxRecDepth 100000 in
set_option maxHeartbeats 2000000 in
theorem l13Error_in (t D : Pic) (x y : Nat) (a b : Option Addr) (c d n l : Nat) (w : World) (htv : t.valid) (hDv : D.valid) (hn : n = t.px.length) (hl : l = D.px.length) (s : Sl w a n (t.px.map (Value.int .i64))) (u : Sl w b l (D.px.map (Value.int .i64))) (hx : x ≤ 100) (hy : y ≤ 100) :
 Calls Tryd.prog 117 #[.agg #[.int .i64 t.w, .int .i64 t.h, .slice a n c], .agg #[.int .i64 D.w, .int .i64 D.h, .slice b l d], .int .i64 (x : Nat), .int .i64 (y : Nat)] w fun e w' => e = .returned (.int .i64 (sqS t D x y 64)) ∧ Ext w w' := by
 have HN := Lib.hid hn
 have HL := Lib.hid hl
 clear hn hl
 have Y0 := (Ext.alloc (w.alloc (.cells #[.int .i64 t.w, .int .i64 t.h, .slice a n c] 25)) (.cells #[.int .i64 D.w, .int .i64 D.h, .slice b l d] 25)).blk (blk_new w (.cells #[.int .i64 t.w, .int .i64 t.h, .slice a n c] 25))
 have Y1 := blk_new (w.alloc (.cells #[.int .i64 t.w, .int .i64 t.h, .slice a n c] 25)) (.cells #[.int .i64 D.w, .int .i64 D.h, .slice b l d] 25)
 have F1 := (Ext.alloc w (.cells #[.int .i64 t.w, .int .i64 t.h, .slice a n c] 25)).trans (Ext.alloc _ (.cells #[.int .i64 D.w, .int .i64 D.h, .slice b l d] 25))
 simp only [World.size_alloc] at Y1
 obtain ⟨B, hB⟩ : ∃ B, B = w.heap.size := ⟨_, rfl⟩
 rw [← hB] at Y0 Y1
 have HB := Lib.hid hB
 go_enter Tryd.func117, Tryd.ntmps117
 go_upto_region 1 with fail
 try simp only [World.size_alloc]
 rw [← hB]
 clear hB
 generalize (w.alloc (.cells #[.int .i64 t.w, .int .i64 t.h, .slice a n c] 25)).alloc (.cells #[.int .i64 D.w, .int .i64 D.h, .slice b l d] 25) = w1 at *
 obtain ⟨-, k1, k2, k3, -⟩ := bx3 Y0
 go_wp2_with fail
 refine (l7Block_any t x y 0 0 a c n _ htv HN.out (s.ext F1) (by omega) (by omega) (by omega) (by omega) (by omega) (by omega) (by omega) (by omega)).mono ?_
 rintro e w4 ⟨a4, c4, rfl, o4, e4⟩
 obtain ⟨g4, rfl⟩ := own_ptr o4 (by omega)
 have S4 := Sl.of_owns o4
 have G1 := e4.blk Y1
 have F2 := F1.trans e4
 clear Y0 Y1 F1 e4 o4 k1 k2 k3
 obtain ⟨-, k1, k2, k3, -⟩ := bx3 G1
 go_wp2_with fail
 refine (l7Block_any D x y 0 0 b d l _ hDv HL.out (u.ext F2) (by omega) (by omega) (by omega) (by omega) (by omega) (by omega) (by omega) (by omega)).mono ?_
 rintro e w6 ⟨a6, c6, rfl, o6, e6⟩
 obtain ⟨g6, rfl⟩ := own_ptr o6 (by omega)
 have S6 := Sl.of_owns o6
 have S5 := S4.ext e6
 have F3 := F2.trans e6
 clear G1 F2 e6 o6 S4 k1 k2 k3
 go_wp2_with fail
 go_loopw [11, 12] (fun v i wr => ∃ k : Nat, k ≤ 64 ∧ i = .int .i64 k ∧ v = .int .i64 (sqS t D x y k) ∧ Ext w6 wr) (fun _ i _ => 64 - (intOf i).toNat)
 case atStart => exact ⟨0, by omega, rfl, by simp [sqS], Below.refl _ _⟩
 case round =>
  obtain ⟨k, hk, rfl, rfl, Ek⟩ := hrel
  have hsr := sqS_rng htv hDv x y k
  by_cases hlt : k < 64
  ·have hd : decide ((k : Int) < 64) = true := by simp; omega
   have hpd := pd_rng htv hDv ((x : Int) + (k % 8 : Nat)) ((y : Int) + (k / 8 : Nat))
   have hsq := sq_rng hpd.1 hpd.2
   have Hnx := Lib.hid (show sqS t D x y (k + 1) = _ by rw [sqS])
   obtain ⟨u, hu⟩ : ∃ u, u = pat t ((x : Int) + (k % 8 : Nat)) ((y : Int) + (k / 8 : Nat)) := ⟨_, rfl⟩
   obtain ⟨v, hv⟩ : ∃ v, v = pat D ((x : Int) + (k % 8 : Nat)) ((y : Int) + (k / 8 : Nat)) := ⟨_, rfl⟩
   have hp1 := pat_rng htv ((x : Int) + (k % 8 : Nat)) ((y : Int) + (k / 8 : Nat))
   have hp2 := pat_rng hDv ((x : Int) + (k % 8 : Nat)) ((y : Int) + (k / 8 : Nat))
   rw [← hu] at hp1
   rw [← hv] at hp2
   rw [← hu, ← hv] at hpd hsq Hnx
   obtain ⟨S, hS⟩ : ∃ S, S = sqS t D x y k := ⟨_, rfl⟩
   rw [← hS] at hsr Hnx
   rw [← hS]
   have HcU := Lib.hid (fun (wx : World) (h : Ext wr wx) => cellP (S5.ext (Ek.trans h)) hlt ((nth_blk0 t x y hlt).trans hu.symm))
   have HcV := Lib.hid (fun (wx : World) (h : Ext wr wx) => cellP (S6.ext (Ek.trans h)) hlt ((nth_blk0 D x y hlt).trans hv.symm))
   obtain ⟨P, hP⟩ : ∃ P, P = (u - v) * (u - v) := ⟨_, rfl⟩
   rw [← hP] at hsq Hnx
   have HP := Lib.hid (show (u - v) * (u - v) = P from hP.symm)
   have HPw := Lib.hid (show wrap64 ((u - v) * (u - v)) = P by rw [← hP]; unfold wrap64; omega)
   clear hu hv hS hP
   go_upto_region 7 with fail
   refine wp_region_inv2 (by kernel_rfl) [(11, 21), (29, 0), (30, 1), (31, 2), (32, 3), (33, 4), (34, 5), (35, 6), (36, 7), (37, 8), (38, 9), (39, 10), (40, 11), (41, 12), (42, 13), (43, 14), (44, 15), (45, 16), (46, 17), (47, 18), (48, 19), (49, 20)] [[], [], [], [1, 2], [1, 2, 3], [], [], [5, 6], [5, 6, 7], [1, 2, 3, 4, 5, 6, 7, 8], [], [], [10, 11], [10, 11, 12], [], [], [14, 15], [14, 15, 16], [10, 11, 12, 13, 14, 15, 16, 17], [1, 2, 3, 4, 5, 6, 7, 8, 9, 10, 11, 12, 13, 14, 15, 16, 17, 18], [0, 1, 2, 3, 4, 5, 6, 7, 8, 9, 10, 11, 12, 13, 14, 15, 16, 17, 18, 19], [0, 1, 2, 3, 4, 5, 6, 7, 8, 9, 10, 11, 12, 13, 14, 15, 16, 17, 18, 19, 20]] (fun i own ys wx => match i with | 0 => own = .int .i64 S | 1 => own = .slice (some ⟨g4, 0, none⟩) 64 c4 | 2 => own = .int .i64 (k : Nat) | 3 => own = .pointer (some ⟨g4, k, none⟩) | 4 => own = .int .i64 u | 5 => own = .slice (some ⟨g6, 0, none⟩) 64 c6 | 6 => own = .int .i64 (k : Nat) | 7 => own = .pointer (some ⟨g6, k, none⟩) | 8 => own = .int .i64 v | 9 => own = .int .i64 (u - v) | 10 => own = .slice (some ⟨g4, 0, none⟩) 64 c4 | 11 => own = .int .i64 (k : Nat) | 12 => own = .pointer (some ⟨g4, k, none⟩) | 13 => own = .int .i64 u | 14 => own = .slice (some ⟨g6, 0, none⟩) 64 c6 | 15 => own = .int .i64 (k : Nat) | 16 => own = .pointer (some ⟨g6, k, none⟩) | 17 => own = .int .i64 v | 18 => own = .int .i64 (u - v) | 19 => own = .int .i64 P | 20 => own = .int .i64 (S + P) | 21 => own = .int .i64 (S + P) | _ => True) (fun kx wx => Ext wr wx) (by kernel_rfl) (by kernel_rfl) (by kernel_rfl) ?g0_r1 ?gop_r1 ?gend_r1
   case g0_r1 => exact Ext.drewN _ 1
   case gop_r1 =>
    refine ⟨?_, ?_, ?_, ?_, ?_, ?_, ?_, ?_, ?_, ?_, ?_, ?_, ?_, ?_, ?_, ?_, ?_, ?_, ?_, ?_, ?_, ?_, trivial⟩
    ·intro kx xs wx hk hG hD hI Qo Kx hK hQo
     clear hD
     have i21 := hI 21 11 rfl rfl
     simp only [List.getD_cons_succ, List.getD_cons_zero] at i21
     clear hI
     simp only [patchS, Nat.reduceAdd, Nat.reduceEqDiff, ↓reduceIte] at hQo ⊢
     rw [i21] at hQo ⊢
     clear i21
     go_wp2
     exact hK.out _ _ ⟨rfl, hG, fun _ _ _ _ _ _ h => h⟩
    ·intro kx xs wx hk hG hD hI Qo Kx hK hQo
     clear hD hI
     simp only [patchS, Nat.reduceAdd, Nat.reduceEqDiff, ↓reduceIte] at hQo ⊢
     go_wp2
     exact hK.out _ _ ⟨rfl, hG, fun _ _ _ _ _ _ h => h⟩
    ·intro kx xs wx hk hG hD hI Qo Kx hK hQo
     clear hD hI
     simp only [patchS, Nat.reduceAdd, Nat.reduceEqDiff, ↓reduceIte] at hQo ⊢
     go_wp2
     exact hK.out _ _ ⟨rfl, hG, fun _ _ _ _ _ _ h => h⟩
    ·intro kx xs wx hk hG hD hI Qo Kx hK hQo
     have d1 : (xs 1) = .slice (some ⟨g4, 0, none⟩) 64 c4 := hD 1 rfl
     have d2 : (xs 2) = .int .i64 (k : Nat) := hD 2 rfl
     clear hD hI
     simp only [patchS, Nat.reduceAdd, Nat.reduceEqDiff, ↓reduceIte] at hQo ⊢
     generalize xs 1 = y1 at *
     generalize xs 2 = y2 at *
     subst d1 d2
     go_wp2
     exact hK.out _ _ ⟨rfl, hG, fun _ _ _ _ _ _ h => h⟩
    ·intro kx xs wx hk hG hD hI Qo Kx hK hQo
     have d3 : (xs 3) = .pointer (some ⟨g4, k, none⟩) := hD 3 rfl
     clear hD hI
     simp only [patchS, Nat.reduceAdd, Nat.reduceEqDiff, ↓reduceIte] at hQo ⊢
     generalize xs 3 = y3 at *
     subst d3
     have cx := HcU.out wx hG
     go_wp2
     exact hK.out _ _ ⟨rfl, hG, fun _ _ _ _ _ _ h => h⟩
    ·intro kx xs wx hk hG hD hI Qo Kx hK hQo
     clear hD hI
     simp only [patchS, Nat.reduceAdd, Nat.reduceEqDiff, ↓reduceIte] at hQo ⊢
     go_wp2
     exact hK.out _ _ ⟨rfl, hG, fun _ _ _ _ _ _ h => h⟩
    ·intro kx xs wx hk hG hD hI Qo Kx hK hQo
     clear hD hI
     simp only [patchS, Nat.reduceAdd, Nat.reduceEqDiff, ↓reduceIte] at hQo ⊢
     go_wp2
     exact hK.out _ _ ⟨rfl, hG, fun _ _ _ _ _ _ h => h⟩
    ·intro kx xs wx hk hG hD hI Qo Kx hK hQo
     have d5 : (xs 5) = .slice (some ⟨g6, 0, none⟩) 64 c6 := hD 5 rfl
     have d6 : (xs 6) = .int .i64 (k : Nat) := hD 6 rfl
     clear hD hI
     simp only [patchS, Nat.reduceAdd, Nat.reduceEqDiff, ↓reduceIte] at hQo ⊢
     generalize xs 5 = y5 at *
     generalize xs 6 = y6 at *
     subst d5 d6
     go_wp2
     exact hK.out _ _ ⟨rfl, hG, fun _ _ _ _ _ _ h => h⟩
    ·intro kx xs wx hk hG hD hI Qo Kx hK hQo
     have d7 : (xs 7) = .pointer (some ⟨g6, k, none⟩) := hD 7 rfl
     clear hD hI
     simp only [patchS, Nat.reduceAdd, Nat.reduceEqDiff, ↓reduceIte] at hQo ⊢
     generalize xs 7 = y7 at *
     subst d7
     have cx := HcV.out wx hG
     go_wp2
     exact hK.out _ _ ⟨rfl, hG, fun _ _ _ _ _ _ h => h⟩
    ·intro kx xs wx hk hG hD hI Qo Kx hK hQo
     have d4 : (xs 4) = .int .i64 u := hD 4 rfl
     have d8 : (xs 8) = .int .i64 v := hD 8 rfl
     clear hD hI
     simp only [patchS, Nat.reduceAdd, Nat.reduceEqDiff, ↓reduceIte] at hQo ⊢
     generalize xs 4 = y4 at *
     generalize xs 8 = y8 at *
     subst d4 d8
     go_wp2
     exact hK.out _ _ ⟨rfl, hG, fun _ _ _ _ _ _ h => h⟩
    ·intro kx xs wx hk hG hD hI Qo Kx hK hQo
     clear hD hI
     simp only [patchS, Nat.reduceAdd, Nat.reduceEqDiff, ↓reduceIte] at hQo ⊢
     go_wp2
     exact hK.out _ _ ⟨rfl, hG, fun _ _ _ _ _ _ h => h⟩
    ·intro kx xs wx hk hG hD hI Qo Kx hK hQo
     clear hD hI
     simp only [patchS, Nat.reduceAdd, Nat.reduceEqDiff, ↓reduceIte] at hQo ⊢
     go_wp2
     exact hK.out _ _ ⟨rfl, hG, fun _ _ _ _ _ _ h => h⟩
    ·intro kx xs wx hk hG hD hI Qo Kx hK hQo
     have d10 : (xs 10) = .slice (some ⟨g4, 0, none⟩) 64 c4 := hD 10 rfl
     have d11 : (xs 11) = .int .i64 (k : Nat) := hD 11 rfl
     clear hD hI
     simp only [patchS, Nat.reduceAdd, Nat.reduceEqDiff, ↓reduceIte] at hQo ⊢
     generalize xs 10 = y10 at *
     generalize xs 11 = y11 at *
     subst d10 d11
     go_wp2
     exact hK.out _ _ ⟨rfl, hG, fun _ _ _ _ _ _ h => h⟩
    ·intro kx xs wx hk hG hD hI Qo Kx hK hQo
     have d12 : (xs 12) = .pointer (some ⟨g4, k, none⟩) := hD 12 rfl
     clear hD hI
     simp only [patchS, Nat.reduceAdd, Nat.reduceEqDiff, ↓reduceIte] at hQo ⊢
     generalize xs 12 = y12 at *
     subst d12
     have cx := HcU.out wx hG
     go_wp2
     exact hK.out _ _ ⟨rfl, hG, fun _ _ _ _ _ _ h => h⟩
    ·intro kx xs wx hk hG hD hI Qo Kx hK hQo
     clear hD hI
     simp only [patchS, Nat.reduceAdd, Nat.reduceEqDiff, ↓reduceIte] at hQo ⊢
     go_wp2
     exact hK.out _ _ ⟨rfl, hG, fun _ _ _ _ _ _ h => h⟩
    ·intro kx xs wx hk hG hD hI Qo Kx hK hQo
     clear hD hI
     simp only [patchS, Nat.reduceAdd, Nat.reduceEqDiff, ↓reduceIte] at hQo ⊢
     go_wp2
     exact hK.out _ _ ⟨rfl, hG, fun _ _ _ _ _ _ h => h⟩
    ·intro kx xs wx hk hG hD hI Qo Kx hK hQo
     have d14 : (xs 14) = .slice (some ⟨g6, 0, none⟩) 64 c6 := hD 14 rfl
     have d15 : (xs 15) = .int .i64 (k : Nat) := hD 15 rfl
     clear hD hI
     simp only [patchS, Nat.reduceAdd, Nat.reduceEqDiff, ↓reduceIte] at hQo ⊢
     generalize xs 14 = y14 at *
     generalize xs 15 = y15 at *
     subst d14 d15
     go_wp2
     exact hK.out _ _ ⟨rfl, hG, fun _ _ _ _ _ _ h => h⟩
    ·intro kx xs wx hk hG hD hI Qo Kx hK hQo
     have d16 : (xs 16) = .pointer (some ⟨g6, k, none⟩) := hD 16 rfl
     clear hD hI
     simp only [patchS, Nat.reduceAdd, Nat.reduceEqDiff, ↓reduceIte] at hQo ⊢
     generalize xs 16 = y16 at *
     subst d16
     have cx := HcV.out wx hG
     go_wp2
     exact hK.out _ _ ⟨rfl, hG, fun _ _ _ _ _ _ h => h⟩
    ·intro kx xs wx hk hG hD hI Qo Kx hK hQo
     have d13 : (xs 13) = .int .i64 u := hD 13 rfl
     have d17 : (xs 17) = .int .i64 v := hD 17 rfl
     clear hD hI
     simp only [patchS, Nat.reduceAdd, Nat.reduceEqDiff, ↓reduceIte] at hQo ⊢
     generalize xs 13 = y13 at *
     generalize xs 17 = y17 at *
     subst d13 d17
     go_wp2
     exact hK.out _ _ ⟨rfl, hG, fun _ _ _ _ _ _ h => h⟩
    ·intro kx xs wx hk hG hD hI Qo Kx hK hQo
     have d9 : (xs 9) = .int .i64 (u - v) := hD 9 rfl
     have d18 : (xs 18) = .int .i64 (u - v) := hD 18 rfl
     clear hD hI
     simp only [patchS, Nat.reduceAdd, Nat.reduceEqDiff, ↓reduceIte] at hQo ⊢
     generalize xs 9 = y9 at *
     generalize xs 18 = y18 at *
     subst d9 d18
     go_wp2
     exact hK.out _ _ ⟨by first | rw [HPw.out] | rw [HP.out], hG, fun _ _ _ _ _ _ h => h⟩
    ·intro kx xs wx hk hG hD hI Qo Kx hK hQo
     have d0 : (xs 0) = .int .i64 S := hD 0 rfl
     have d19 : (xs 19) = .int .i64 P := hD 19 rfl
     clear hD hI
     simp only [patchS, Nat.reduceAdd, Nat.reduceEqDiff, ↓reduceIte] at hQo ⊢
     generalize xs 0 = y0 at *
     generalize xs 19 = y19 at *
     subst d0 d19
     go_wp2
     exact hK.out _ _ ⟨rfl, hG, fun _ _ _ _ _ _ h => h⟩
    ·intro kx xs wx hk hG hD hI Qo Kx hK hQo
     have d20 : (xs 20) = .int .i64 (S + P) := hD 20 rfl
     clear hD hI
     simp only [patchS, Nat.reduceAdd, Nat.reduceEqDiff, ↓reduceIte] at hQo ⊢
     generalize xs 20 = y20 at *
     subst d20
     go_wp2
     exact hK.out _ _ ⟨rfl, hG, fun _ _ _ _ _ _ h => h⟩
   intro xs wx hV hG
   have d0 : (xs 0) = .int .i64 S := hV 0 (by decide)
   have d1 : (xs 1) = .slice (some ⟨g4, 0, none⟩) 64 c4 := hV 1 (by decide)
   have d2 : (xs 2) = .int .i64 (k : Nat) := hV 2 (by decide)
   have d3 : (xs 3) = .pointer (some ⟨g4, k, none⟩) := hV 3 (by decide)
   have d4 : (xs 4) = .int .i64 u := hV 4 (by decide)
   have d5 : (xs 5) = .slice (some ⟨g6, 0, none⟩) 64 c6 := hV 5 (by decide)
   have d6 : (xs 6) = .int .i64 (k : Nat) := hV 6 (by decide)
   have d7 : (xs 7) = .pointer (some ⟨g6, k, none⟩) := hV 7 (by decide)
   have d8 : (xs 8) = .int .i64 v := hV 8 (by decide)
   have d9 : (xs 9) = .int .i64 (u - v) := hV 9 (by decide)
   have d10 : (xs 10) = .slice (some ⟨g4, 0, none⟩) 64 c4 := hV 10 (by decide)
   have d11 : (xs 11) = .int .i64 (k : Nat) := hV 11 (by decide)
   have d12 : (xs 12) = .pointer (some ⟨g4, k, none⟩) := hV 12 (by decide)
   have d13 : (xs 13) = .int .i64 u := hV 13 (by decide)
   have d14 : (xs 14) = .slice (some ⟨g6, 0, none⟩) 64 c6 := hV 14 (by decide)
   have d15 : (xs 15) = .int .i64 (k : Nat) := hV 15 (by decide)
   have d16 : (xs 16) = .pointer (some ⟨g6, k, none⟩) := hV 16 (by decide)
   have d17 : (xs 17) = .int .i64 v := hV 17 (by decide)
   have d18 : (xs 18) = .int .i64 (u - v) := hV 18 (by decide)
   have d19 : (xs 19) = .int .i64 P := hV 19 (by decide)
   have d20 : (xs 20) = .int .i64 (S + P) := hV 20 (by decide)
   have d21 : (xs 21) = .int .i64 (S + P) := hV 21 (by decide)
   clear hV
   simp only [patchS, Nat.reduceAdd, Nat.reduceEqDiff, ↓reduceIte]
   generalize xs 0 = y0 at *
   generalize xs 1 = y1 at *
   generalize xs 2 = y2 at *
   generalize xs 3 = y3 at *
   generalize xs 4 = y4 at *
   generalize xs 5 = y5 at *
   generalize xs 6 = y6 at *
   generalize xs 7 = y7 at *
   generalize xs 8 = y8 at *
   generalize xs 9 = y9 at *
   generalize xs 10 = y10 at *
   generalize xs 11 = y11 at *
   generalize xs 12 = y12 at *
   generalize xs 13 = y13 at *
   generalize xs 14 = y14 at *
   generalize xs 15 = y15 at *
   generalize xs 16 = y16 at *
   generalize xs 17 = y17 at *
   generalize xs 18 = y18 at *
   generalize xs 19 = y19 at *
   generalize xs 20 = y20 at *
   generalize xs 21 = y21 at *
   replace hG : Ext wr wx := hG
   clear d0 d1 d2 d3 d4 d5 d6 d7 d8 d9 d10 d11 d12 d13 d14 d15 d16 d17 d18 d19 d20
   subst d21
   go_wp2
   go_roundw
   case rel => exact ⟨k + 1, by omega, by go_num, by rw [Hnx.out], Ek.trans hG⟩
   case measure => simp [intOf]; omega
  ·obtain rfl : k = 64 := by omega
   obtain ⟨S, hS⟩ : ∃ S, S = sqS t D x y 64 := ⟨_, rfl⟩
   rw [← hS] at hsr ⊢
   have HS := Lib.hid hS
   clear hS
   go_wp2
   go_ret
   exact ⟨ret_int (by rw [← HS.out]), F3.trans Ek⟩
set_option maxRecDepth 100000 in
set_option maxHeartbeats 2000000 in
theorem spec_cost_in (t ref : Pic) (W H x y : Nat) (px : List Int) (m : Mac) (q : Nat) (top : Int) (at1 a b : Option Addr) (tc c d tn n l : Nat) (w : World) (htn : tn = t.px.length) (hn : n = ref.px.length) (hl : l = px.length) (nc : n ≤ 9223372036854775807) (rt : Sl w at1 tn (t.px.map (Value.int .i64))) (r : Sl w a n (ref.px.map (Value.int .i64))) (s : Sl w b l (px.map (Value.int .i64))) (hm : m.ok) (htv : t.valid) (ho : okR ref ⟨W, H, px⟩ x y m q top) :
 Calls Tryd.prog 83 #[.agg #[.int .i64 t.w, .int .i64 t.h, .slice at1 tn tc], .agg #[.int .i64 ref.w, .int .i64 ref.h, .slice a n c], .agg #[.int .i64 W, .int .i64 H, .slice b l d], .int .i64 (x : Nat), .int .i64 (y : Nat), .agg (ic m.zs), .int .i64 q, .int .i64 top] w fun e w' => e = .returned (.int .i64 (sqS t ⟨W, H, bldS ref ⟨W, H, px⟩ x y m q top 4⟩ x y 64 + stp q * (macN m : Int))) ∧ Ext w w' := by
 have hlen := Pic.len_le ho.1.1
 simp only at hlen
 rw [← hl] at hlen
 obtain ⟨bl, hbl⟩ : ∃ bl, bl = bldS ref ⟨W, H, px⟩ x y m q top 4 := ⟨_, rfl⟩
 have hDv : Pic.valid ⟨W, H, bl⟩ := by rw [hbl]; exact bldS_valid ho.1.1 ref x y m q top 4
 have hxy : (x : Int) < 40 ∧ (y : Int) < 40 := by
  have h1 := ho.1.1.1
  have h2 := ho.1.1.2.1
  have h3 := ho.1.2.2.1
  have h4 := ho.1.2.2.2.2.2.1
  simp only [side] at h1 h2 h3 h4
  omega
 have HDn := Lib.hid (show l = bl.length by rw [hbl, bldS_len]; exact hl)
 have Hbl := Lib.hid hbl
 clear hbl
 have hrt := rate_rng hm ho.2.1 (show q < 16 by have := ho.2.2.1; omega)
 have Htn := Lib.hid htn
 have Hn := Lib.hid hn
 have HL := Lib.hid hl
 have Hm := Lib.hid hm
 have Hl := Lib.hid (Mac.zs_len hm)
 have Hok := Lib.hid ho
 have HTV := Lib.hid htv
 have HDv := Lib.hid hDv
 have hq : q < 16 := by have := ho.2.2.1; omega
 have ht0 : 0 ≤ top := ho.2.2.2.1.1
 clear hn hl hm ho htn htv hDv
 have a2 := Ext.alloc (w.alloc (.cells #[.int .i64 t.w, .int .i64 t.h, .slice at1 tn tc] 25)) (.cells #[.int .i64 ref.w, .int .i64 ref.h, .slice a n c] 25)
 have a3 := Ext.alloc ((w.alloc (.cells #[.int .i64 t.w, .int .i64 t.h, .slice at1 tn tc] 25)).alloc (.cells #[.int .i64 ref.w, .int .i64 ref.h, .slice a n c] 25)) (.cells #[.int .i64 W, .int .i64 H, .slice b l d] 25)
 have a4 := Ext.alloc (((w.alloc (.cells #[.int .i64 t.w, .int .i64 t.h, .slice at1 tn tc] 25)).alloc (.cells #[.int .i64 ref.w, .int .i64 ref.h, .slice a n c] 25)).alloc (.cells #[.int .i64 W, .int .i64 H, .slice b l d] 25)) (.cells (ic m.zs) 34)
 have p0 := a4.blk (a3.blk (a2.blk (blk_new w (.cells #[.int .i64 t.w, .int .i64 t.h, .slice at1 tn tc] 25))))
 have p1 := a4.blk (a3.blk (blk_new (w.alloc (.cells #[.int .i64 t.w, .int .i64 t.h, .slice at1 tn tc] 25)) (.cells #[.int .i64 ref.w, .int .i64 ref.h, .slice a n c] 25)))
 have p2 := a4.blk (blk_new ((w.alloc (.cells #[.int .i64 t.w, .int .i64 t.h, .slice at1 tn tc] 25)).alloc (.cells #[.int .i64 ref.w, .int .i64 ref.h, .slice a n c] 25)) (.cells #[.int .i64 W, .int .i64 H, .slice b l d] 25))
 have p3 := IB.new (((w.alloc (.cells #[.int .i64 t.w, .int .i64 t.h, .slice at1 tn tc] 25)).alloc (.cells #[.int .i64 ref.w, .int .i64 ref.h, .slice a n c] 25)).alloc (.cells #[.int .i64 W, .int .i64 H, .slice b l d] 25)) 34 m.zs
 have E1 := (((Ext.alloc w (.cells #[.int .i64 t.w, .int .i64 t.h, .slice at1 tn tc] 25)).trans a2).trans a3).trans a4
 simp only [World.size_alloc] at p1 p2 p3
 clear a2 a3 a4
 obtain ⟨B, hB⟩ : ∃ B, B = w.heap.size := ⟨_, rfl⟩
 rw [← hB] at p0 p1 p2 p3
 have hwB : w.heap.size ≤ B := by omega
 have HB := Lib.hid hB
 have hb1 := p3.lt
 go_enter Tryd.func83, Tryd.ntmps83
 go_upto_region 1 with fail
 try simp only [World.size_alloc]
 rw [← hB]
 clear hB
 generalize (((w.alloc (.cells #[.int .i64 t.w, .int .i64 t.h, .slice at1 tn tc] 25)).alloc (.cells #[.int .i64 ref.w, .int .i64 ref.h, .slice a n c] 25)).alloc (.cells #[.int .i64 W, .int .i64 H, .slice b l d] 25)).alloc (.cells (ic m.zs) 34) = w1 at *
 obtain ⟨-, i0, i1, i2, -⟩ := bx3 p2
 go_wp2_with fail
 refine (l8Copy_any W H b d l px _ (by omega) (by omega) (s.ext E1)).mono ?_
 rintro e wa ⟨a1, c1, rfl, own1, e2⟩
 have r0 := e2.blk p0
 have r1 := e2.blk p1
 have r2 := e2.blk p2
 have r3 := p3.ext e2
 have E2 := E1.trans e2
 clear p0 p1 p2 p3 E1 e2 i0 i1 i2
 have hgo : ∃ g, a1 = some ⟨g, 0, none⟩ ∧ g < wa.heap.size ∧ w1.heap.size ≤ g := by
  rcases own1.2 with ⟨-, h0⟩ | ⟨g, cc, cur, hv, hb, hb2, -⟩
  ·omega
  ·simp only [Value.slice.injEq] at hv
   exact ⟨g, hv.1, lt_of_block hb2, hb⟩
 obtain ⟨g, rfl, hg1, hg2⟩ := hgo
 have a5 := Ext.alloc wa (.cells #[.int .i64 W, .int .i64 H, .slice (some ⟨g, 0, none⟩) l c1] 25)
 have z0 := a5.blk r0
 have z1 := a5.blk r1
 have z3 := r3.ext a5
 have z4 := blk_new wa (.cells #[.int .i64 W, .int .i64 H, .slice (some ⟨g, 0, none⟩) l c1] 25)
 have own2 := owns_ext own1 a5
 have E3 := E2.trans a5
 have hO := r3.lt
 obtain ⟨O, hOe⟩ : ∃ O, O = wa.heap.size := ⟨_, rfl⟩
 rw [← hOe] at z4 hg1 hO
 have HO2 := Lib.hid hOe
 clear r0 r1 r2 r3 own1 E2 a5
 obtain ⟨-, i0, i1, i2, -⟩ := bx3 z1
 obtain ⟨-, o0, o1, o2, -⟩ := bx3 z4
 have hOlt := lt_of_block z4
 go_upto_region 2 with fail
 rw [← hOe]
 clear hOe
 generalize wa.alloc (.cells #[.int .i64 W, .int .i64 H, .slice (some ⟨g, 0, none⟩) l c1] 25) = w2 at *
 go_wp2_with (refine wpList_iload 34 _ rfl rfl z3 0 71 rfl _ Tryd.underlying34 rfl size_Macro (by rw [Hl.out]; omega) _ (by rw [sub_all _ _ Hl.out]) ?_)
 have hrz : ¬ m.kind = 2 → ∀ z, a = some z → z.block ≠ g := fun hk z hz => by
  have h9 := Pic.len_le (okR_ref Hok.out hk)
  rw [← Hn.out] at h9
  have := sl_bound r z hz (by omega)
  omega
 refine (l8Build_any ref W H x y px m q top a n c w1.heap.size g l c1 _ own2 Hok.out.1 Hm.out Hok.out.2.1 hq ht0 (fun hk => okR_ref Hok.out hk) Hn.out (r.ext E3) hrz).mono ?_
 rintro e w3 ⟨rfl, own3, g3⟩
 rw [← Hbl.out] at own3
 have u0 := blk_gr z0 g3 (by simp; omega)
 have u3 := z3.gr g3 (by simp; omega)
 have u4 := blk_gr z4 g3 (by simp; omega)
 have hs1 : B ≤ w1.heap.size := by omega
 have E4 : Ext w w3 := Ext.grown E3 g3 (fun k e => by cases e; omega)
 have SD := Sl.of_owns own3
 clear z0 z1 z3 z4 own2 own3 E3 g3 i0 i1 i2 o0 o1 o2
 have RT := rt.ext E4
 obtain ⟨s0, hs0⟩ : ∃ s0, s0 = stp q := ⟨_, rfl⟩
 obtain ⟨N0, hN0⟩ : ∃ N0, N0 = macN m := ⟨_, rfl⟩
 obtain ⟨C, hC⟩ : ∃ C, C = stp q * (macN m : Int) := ⟨_, rfl⟩
 rw [← hC] at hrt
 have HC := Lib.hid (show s0 * (N0 : Int) = C by rw [hs0, hN0, hC])
 have HW := Lib.hid (show wrap64 (s0 * (N0 : Int)) = C by rw [hs0, hN0, ← hC]; unfold wrap64; omega)
 have HS0 := Lib.hid hs0
 have HN0 := Lib.hid hN0
 have HC0 := Lib.hid hC
 have hs0r := stp_rng hq
 rw [← hs0] at hs0r
 have hN0r := macN_le Hm.out Hok.out.2.1
 rw [← hN0] at hN0r
 obtain ⟨S, hS⟩ : ∃ S, S = sqS t ⟨W, H, bl⟩ x y 64 := ⟨_, rfl⟩
 have hsr := sqS_rng HTV.out HDv.out x y 64
 rw [← hS] at hsr
 have HS := Lib.hid hS
 clear hS hs0 hN0 hC
 go_upto_region 3 with fail
 refine wp_region_inv2 (by kernel_rfl) [(16, 12), (28, 0), (29, 1), (30, 2), (31, 3), (32, 4), (33, 5), (34, 6), (35, 7), (36, 8), (37, 9), (38, 10), (39, 11)] [[], [], [], [], [0, 1, 2, 3], [], [0, 1, 2, 3, 4, 5], [], [0, 1, 2, 3, 4, 5, 6, 7], [0, 1, 2, 3, 4, 5, 6, 7, 8], [0, 1, 2, 3, 4, 5, 6, 7, 8, 9], [0, 1, 2, 3, 4, 5, 6, 7, 8, 9, 10], [0, 1, 2, 3, 4, 5, 6, 7, 8, 9, 10, 11]] (fun i own ys wx => match i with | 0 => own = .agg #[.int .i64 t.w, .int .i64 t.h, .slice at1 tn tc] | 1 => own = .agg #[.int .i64 W, .int .i64 H, .slice (some ⟨g, 0, none⟩) l c1] | 2 => own = .int .i64 (x : Nat) | 3 => own = .int .i64 (y : Nat) | 4 => own = .int .i64 S | 5 => own = .int .i64 (q : Nat) | 6 => own = .int .i64 s0 | 7 => own = .agg (ic m.zs) | 8 => ∃ (a3 : Option Addr) (c3 : Nat), own = .slice a3 N0 c3 | 9 => own = .int .i64 (N0 : Nat) | 10 => own = .int .i64 C | 11 => own = .int .i64 (S + C) | 12 => own = .int .i64 (S + C) | _ => True) (fun kx wx => Ext w3 wx) (by kernel_rfl) (by kernel_rfl) (by kernel_rfl) ?g0_r2 ?gop_r2 ?gend_r2
 case g0_r2 => exact Ext.drewN _ 1
 case gop_r2 =>
  refine ⟨?_, ?_, ?_, ?_, ?_, ?_, ?_, ?_, ?_, ?_, ?_, ?_, ?_, trivial⟩
  ·intro kx xs wx hk hG hD hI Qo Kx hK hQo
   clear hD hI
   simp only [patchS, Nat.reduceAdd, Nat.reduceEqDiff, ↓reduceIte] at hQo ⊢
   obtain ⟨-, k0, k1, k2, -⟩ := bx3 (hG.blk u0)
   go_wp2
   exact hK.out _ _ ⟨rfl, hG, fun _ _ _ _ _ _ h => h⟩
  ·intro kx xs wx hk hG hD hI Qo Kx hK hQo
   clear hD hI
   simp only [patchS, Nat.reduceAdd, Nat.reduceEqDiff, ↓reduceIte] at hQo ⊢
   obtain ⟨-, k0, k1, k2, -⟩ := bx3 (hG.blk u4)
   go_wp2
   exact hK.out _ _ ⟨rfl, hG, fun _ _ _ _ _ _ h => h⟩
  ·intro kx xs wx hk hG hD hI Qo Kx hK hQo
   clear hD hI
   simp only [patchS, Nat.reduceAdd, Nat.reduceEqDiff, ↓reduceIte] at hQo ⊢
   go_wp2
   exact hK.out _ _ ⟨rfl, hG, fun _ _ _ _ _ _ h => h⟩
  ·intro kx xs wx hk hG hD hI Qo Kx hK hQo
   clear hD hI
   simp only [patchS, Nat.reduceAdd, Nat.reduceEqDiff, ↓reduceIte] at hQo ⊢
   go_wp2
   exact hK.out _ _ ⟨rfl, hG, fun _ _ _ _ _ _ h => h⟩
  ·intro kx xs wx hk hG hD hI Qo Kx hK hQo
   have d0 : (xs 0) = .agg #[.int .i64 t.w, .int .i64 t.h, .slice at1 tn tc] := hD 0 rfl
   have d1 : (xs 1) = .agg #[.int .i64 W, .int .i64 H, .slice (some ⟨g, 0, none⟩) l c1] := hD 1 rfl
   have d2 : (xs 2) = .int .i64 (x : Nat) := hD 2 rfl
   have d3 : (xs 3) = .int .i64 (y : Nat) := hD 3 rfl
   clear hD hI
   simp only [patchS, Nat.reduceAdd, Nat.reduceEqDiff, ↓reduceIte] at hQo ⊢
   generalize xs 0 = y0 at *
   generalize xs 1 = y1 at *
   generalize xs 2 = y2 at *
   generalize xs 3 = y3 at *
   subst d0 d1 d2 d3
   go_wp2_with fail
   refine (l13Error_in t ⟨W, H, bl⟩ x y at1 (some ⟨g, 0, none⟩) tc c1 tn l _ HTV.out HDv.out Htn.out HDn.out (RT.ext hG) (SD.ext hG) (by omega) (by omega)).mono ?_
   rintro e wz ⟨rfl, ez⟩
   rw [← HS.out]
   go_wp2
   exact hK.out _ _ ⟨rfl, hG.trans ez, fun _ _ _ _ _ _ h => h⟩
  ·intro kx xs wx hk hG hD hI Qo Kx hK hQo
   clear hD hI
   simp only [patchS, Nat.reduceAdd, Nat.reduceEqDiff, ↓reduceIte] at hQo ⊢
   go_wp2
   exact hK.out _ _ ⟨rfl, hG, fun _ _ _ _ _ _ h => h⟩
  ·intro kx xs wx hk hG hD hI Qo Kx hK hQo
   have d5 : (xs 5) = .int .i64 (q : Nat) := hD 5 rfl
   clear hD hI
   simp only [patchS, Nat.reduceAdd, Nat.reduceEqDiff, ↓reduceIte] at hQo ⊢
   generalize xs 5 = y5 at *
   subst d5
   go_wp2_with fail
   refine (spec_QuantStep_in q _ hq).mono ?_
   rintro e wz ⟨rfl, ez⟩
   rw [← HS0.out]
   go_wp2
   exact hK.out _ _ ⟨rfl, hG.trans ez, fun _ _ _ _ _ _ h => h⟩
  ·intro kx xs wx hk hG hD hI Qo Kx hK hQo
   clear hD hI
   simp only [patchS, Nat.reduceAdd, Nat.reduceEqDiff, ↓reduceIte] at hQo ⊢
   go_wp2_with (refine wpList_iload 34 _ rfl rfl (u3.ext hG) 0 71 rfl _ Tryd.underlying34 rfl size_Macro (by rw [Hl.out]; omega) _ (by rw [sub_all _ _ Hl.out]) ?_)
   exact hK.out _ _ ⟨rfl, hG, fun _ _ _ _ _ _ h => h⟩
  ·intro kx xs wx hk hG hD hI Qo Kx hK hQo
   have d7 : (xs 7) = .agg (ic m.zs) := hD 7 rfl
   clear hD hI
   simp only [patchS, Nat.reduceAdd, Nat.reduceEqDiff, ↓reduceIte] at hQo ⊢
   generalize xs 7 = y7 at *
   subst d7
   go_wp2_with fail
   refine (l10Macro_any m _ Hm.out Hok.out.2.1).mono ?_
   rintro e wz ⟨az, cz, rfl, -, ez⟩
   rw [← HN0.out]
   go_wp2
   exact hK.out _ _ ⟨⟨az, cz, rfl⟩, hG.trans ez, fun _ _ _ _ _ _ h => h⟩
  ·intro kx xs wx hk hG hD hI Qo Kx hK hQo
   have d8 : ∃ (a3 : Option Addr) (c3 : Nat), (xs 8) = .slice a3 N0 c3 := hD 8 rfl
   clear hD hI
   simp only [patchS, Nat.reduceAdd, Nat.reduceEqDiff, ↓reduceIte] at hQo ⊢
   generalize xs 8 = y8 at *
   obtain ⟨a3, c3, rfl⟩ := d8
   go_wp2
   exact hK.out _ _ ⟨rfl, hG, fun _ _ _ _ _ _ h => h⟩
  ·intro kx xs wx hk hG hD hI Qo Kx hK hQo
   have d6 : (xs 6) = .int .i64 s0 := hD 6 rfl
   have d9 : (xs 9) = .int .i64 (N0 : Nat) := hD 9 rfl
   clear hD hI
   simp only [patchS, Nat.reduceAdd, Nat.reduceEqDiff, ↓reduceIte] at hQo ⊢
   generalize xs 6 = y6 at *
   generalize xs 9 = y9 at *
   subst d6 d9
   go_wp2
   exact hK.out _ _ ⟨by first | rw [HW.out] | rw [HC.out], hG, fun _ _ _ _ _ _ h => h⟩
  ·intro kx xs wx hk hG hD hI Qo Kx hK hQo
   have d4 : (xs 4) = .int .i64 S := hD 4 rfl
   have d10 : (xs 10) = .int .i64 C := hD 10 rfl
   clear hD hI
   simp only [patchS, Nat.reduceAdd, Nat.reduceEqDiff, ↓reduceIte] at hQo ⊢
   generalize xs 4 = y4 at *
   generalize xs 10 = y10 at *
   subst d4 d10
   go_wp2
   exact hK.out _ _ ⟨rfl, hG, fun _ _ _ _ _ _ h => h⟩
  ·intro kx xs wx hk hG hD hI Qo Kx hK hQo
   have d11 : (xs 11) = .int .i64 (S + C) := hD 11 rfl
   clear hD hI
   simp only [patchS, Nat.reduceAdd, Nat.reduceEqDiff, ↓reduceIte] at hQo ⊢
   generalize xs 11 = y11 at *
   subst d11
   go_wp2
   exact hK.out _ _ ⟨rfl, hG, fun _ _ _ _ _ _ h => h⟩
 intro xs wx hV hG
 have d0 : (xs 0) = .agg #[.int .i64 t.w, .int .i64 t.h, .slice at1 tn tc] := hV 0 (by decide)
 have d1 : (xs 1) = .agg #[.int .i64 W, .int .i64 H, .slice (some ⟨g, 0, none⟩) l c1] := hV 1 (by decide)
 have d2 : (xs 2) = .int .i64 (x : Nat) := hV 2 (by decide)
 have d3 : (xs 3) = .int .i64 (y : Nat) := hV 3 (by decide)
 have d4 : (xs 4) = .int .i64 S := hV 4 (by decide)
 have d5 : (xs 5) = .int .i64 (q : Nat) := hV 5 (by decide)
 have d6 : (xs 6) = .int .i64 s0 := hV 6 (by decide)
 have d7 : (xs 7) = .agg (ic m.zs) := hV 7 (by decide)
 have d8 : ∃ (a3 : Option Addr) (c3 : Nat), (xs 8) = .slice a3 N0 c3 := hV 8 (by decide)
 have d9 : (xs 9) = .int .i64 (N0 : Nat) := hV 9 (by decide)
 have d10 : (xs 10) = .int .i64 C := hV 10 (by decide)
 have d11 : (xs 11) = .int .i64 (S + C) := hV 11 (by decide)
 have d12 : (xs 12) = .int .i64 (S + C) := hV 12 (by decide)
 clear hV
 simp only [patchS, Nat.reduceAdd, Nat.reduceEqDiff, ↓reduceIte]
 generalize xs 0 = y0 at *
 generalize xs 1 = y1 at *
 generalize xs 2 = y2 at *
 generalize xs 3 = y3 at *
 generalize xs 4 = y4 at *
 generalize xs 5 = y5 at *
 generalize xs 6 = y6 at *
 generalize xs 7 = y7 at *
 generalize xs 8 = y8 at *
 generalize xs 9 = y9 at *
 generalize xs 10 = y10 at *
 generalize xs 11 = y11 at *
 generalize xs 12 = y12 at *
 replace hG : Ext w3 wx := hG
 clear d0 d1 d2 d3 d4 d5 d6 d7 d8 d9 d10 d11
 subst d12
 go_wp2
 go_ret
 exact ⟨ret_int (by rw [← Hbl.out, ← HS.out, ← HC0.out]), E4.trans hG⟩
end Go.Proofs.YtbnhaegidfbgbaaDoor
