/- Reconstruct, both sides. | Words for the laws with pictures: what changes in a range of blocks; boxes. | toMacro. | Equality of macroblocks in the laws: of the same. -/
import Derived.Test.YtbnhaegidfbgbaaDoorQa15
import Derived.Deep.Cut
namespace Go.Proofs.YtbnhaegidfbgbaaDoor
open Go.RowKit
set_option maxHeartbeats 1000000
/-- The reconstructed picture. -/
noncomputable def recP (ref p : Pic) (x y : Int) (m : Mac) (q top : Int) : Pic := if okR ref p x y m q top then ⟨p.w, p.h, bldS ref p x.toNat y.toNat m q.toNat top 4⟩ else pic0
theorem recP_yes {ref p : Pic} {x y : Int} {m : Mac} {q top : Int} (h : okR ref p x y m q top) : recP ref p x y m q top = ⟨p.w, p.h, bldS ref p x.toNat y.toNat m q.toNat top 4⟩ := if_pos h
theorem recP_no {ref p : Pic} {x y : Int} {m : Mac} {q top : Int} (h : ¬ okR ref p x y m q top) : recP ref p x y m q top = pic0 := if_neg h
theorem recP_len (ref p : Pic) (x y : Int) (m : Mac) (q top : Int) : (recP ref p x y m q top).px.length ≤ p.px.length := by
  by_cases h : okR ref p x y m q top
  · rw [recP_yes h]
    simp only [bldS_len, Nat.le_refl]
  · rw [recP_no h]
    exact Nat.zero_le _
theorem kind3 {m : Mac} (hv : m.valid) (h : ¬ m.kind = 2) : m.kind = 0 ∨ m.kind = 1 := by have := hv.1; omega
theorem okR_ref {ref p : Pic} {x y : Int} {m : Mac} {q top : Int} (h : okR ref p x y m q top) (hk : ¬ m.kind = 2) : ref.valid := (h.2.2.2.2.resolve_left hk).1
theorem rebuild_any (ref : Pic) (W H x y : Nat) (px : List Int) (m : Mac) (q : Nat) (top : Int) (ra : Option Addr) (rn rc base g n c : Nat) (w : World) (hT : TabQ w) (hbT : 0 < base) (own : w.ownsRow base 3 1 (.slice (some ⟨g, 0, none⟩) n c) n (px.map (Value.int .i64)))
    (hp : placeP ⟨W, H, px⟩ x y) (hm : m.ok) (hv : m.valid) (hq : q < 16) (hrv : ¬ m.kind = 2 → ref.valid) (hrn : rn = ref.px.length) (hr : Sl w ra rn (ref.px.map (Value.int .i64))) (hrg : ¬ m.kind = 2 → ∀ z, ra = some z → z.block ≠ g) :
    Calls Tryd.prog 56 #[.agg #[.int .i64 W, .int .i64 H, .slice (some ⟨g, 0, none⟩) n c], .agg #[.int .i64 ref.w, .int .i64 ref.h, .slice ra rn rc], .int .i64 (x : Nat), .int .i64 (y : Nat), .agg (ic m.zs), .int .i64 q, .int .i64 top] w fun e w' => e = .returned (.tuple #[]) ∧ w'.ownsRow base 3 1 (.slice (some ⟨g, 0, none⟩) n c) n ((bldS ref ⟨W, H, px⟩ x y m q top 4).map (Value.int .i64)) ∧ w.grownBy w' (some g) := by
  by_cases hk : m.kind = 2
  · exact rebuild_I ref W H x y px m q top ra rn rc base g n c w hT hbT own hp hm hv hq hk
  · rcases kind3 hv hk with h | h
    · exact rebuild_S ref W H x y px m q top ra rn rc base g n c w hT hbT own hp hm hv hq h (hrv hk) hrn hr (hrg hk)
    · exact rebuild_P ref W H x y px m q top ra rn rc base g n c w hT hbT own hp hm hv hq h (hrv hk) hrn hr (hrg hk)
theorem l8Build_any (ref : Pic) (W H x y : Nat) (px : List Int) (m : Mac) (q : Nat) (top : Int) (ra : Option Addr) (rn rc base g n c : Nat) (w : World) (own : w.ownsRow base 3 1 (.slice (some ⟨g, 0, none⟩) n c) n (px.map (Value.int .i64)))
    (hp : placeP ⟨W, H, px⟩ x y) (hm : m.ok) (hv : m.valid) (hq : q < 16) (ht0 : 0 ≤ top) (hrv : ¬ m.kind = 2 → ref.valid) (hrn : rn = ref.px.length) (hr : Sl w ra rn (ref.px.map (Value.int .i64))) (hrg : ¬ m.kind = 2 → ∀ z, ra = some z → z.block ≠ g) :
    Calls Tryd.prog 62 #[.agg #[.int .i64 ref.w, .int .i64 ref.h, .slice ra rn rc], .agg #[.int .i64 W, .int .i64 H, .slice (some ⟨g, 0, none⟩) n c], .int .i64 (x : Nat), .int .i64 (y : Nat), .agg (ic m.zs), .int .i64 q, .int .i64 top] w fun e w' => e = .returned (.tuple #[]) ∧ w'.ownsRow base 3 1 (.slice (some ⟨g, 0, none⟩) n c) n ((bldS ref ⟨W, H, px⟩ x y m q top 4).map (Value.int .i64)) ∧ w.grownBy w' (some g) := by
  by_cases hk : m.kind = 2
  · exact l8Build_I ref W H x y px m q top ra rn rc base g n c w own hp hm hv hq ht0 hk
  · exact l8Build_S ref W H x y px m q top ra rn rc base g n c w own hp hm hv hq ht0 hk (hrv hk) hrn hr (hrg hk)
set_option maxRecDepth 100000 in
theorem impl_Reconstruct_no (ref p : Pic) (x y : Int) (m : Mac) (q top : Int) (a b : Option Addr) (c d n l : Nat) (w : World) (hT : TabQ w) (hn : n = ref.px.length) (hl : l = p.px.length) (nc : n ≤ 9223372036854775807) (lc : l ≤ 9223372036854775807) (r : Sl w a n (ref.px.map (Value.int .i64))) (s : Sl w b l (p.px.map (Value.int .i64))) (hm : m.ok) (ho : ¬ okR ref p x y m q top) :
    Calls Tryd.prog 13 #[.agg #[.int .i64 ref.w, .int .i64 ref.h, .slice a n c], .agg #[.int .i64 p.w, .int .i64 p.h, .slice b l d], .int .i64 x, .int .i64 y, .agg (ic m.zs), .int .i64 q, .int .i64 top] w fun e w' => e = .returned (.agg #[.int .i64 0, .int .i64 0, .slice none 0 0]) ∧ Ext w w' := by
  have Hn := Lib.hid hn
  have HL := Lib.hid hl
  have Hm := Lib.hid hm
  have Hl := Lib.hid (Mac.zs_len hm)
  have HO := Lib.hid (show decide (okR ref p x y m q top) = false from decide_eq_false ho)
  clear hn hl hm ho
  have a2 := Ext.alloc (w.alloc (.cells #[.int .i64 ref.w, .int .i64 ref.h, .slice a n c] 25)) (.cells #[.int .i64 p.w, .int .i64 p.h, .slice b l d] 25)
  have a3 := Ext.alloc ((w.alloc (.cells #[.int .i64 ref.w, .int .i64 ref.h, .slice a n c] 25)).alloc (.cells #[.int .i64 p.w, .int .i64 p.h, .slice b l d] 25)) (.cells (ic m.zs) 34)
  have a4 := Ext.alloc (((w.alloc (.cells #[.int .i64 ref.w, .int .i64 ref.h, .slice a n c] 25)).alloc (.cells #[.int .i64 p.w, .int .i64 p.h, .slice b l d] 25)).alloc (.cells (ic m.zs) 34)) (.cells #[.int .i64 0, .int .i64 0, .slice none 0 0] 25)
  have p0 := a4.blk (a3.blk (a2.blk (blk_new w (.cells #[.int .i64 ref.w, .int .i64 ref.h, .slice a n c] 25))))
  have p1 := a4.blk (a3.blk (blk_new (w.alloc (.cells #[.int .i64 ref.w, .int .i64 ref.h, .slice a n c] 25)) (.cells #[.int .i64 p.w, .int .i64 p.h, .slice b l d] 25)))
  have p2 := (IB.new ((w.alloc (.cells #[.int .i64 ref.w, .int .i64 ref.h, .slice a n c] 25)).alloc (.cells #[.int .i64 p.w, .int .i64 p.h, .slice b l d] 25)) 34 m.zs).ext a4
  have p3 := blk_new (((w.alloc (.cells #[.int .i64 ref.w, .int .i64 ref.h, .slice a n c] 25)).alloc (.cells #[.int .i64 p.w, .int .i64 p.h, .slice b l d] 25)).alloc (.cells (ic m.zs) 34)) (.cells #[.int .i64 0, .int .i64 0, .slice none 0 0] 25)
  have E0 := (((Ext.alloc w (.cells #[.int .i64 ref.w, .int .i64 ref.h, .slice a n c] 25)).trans a2).trans a3).trans a4
  simp only [World.size_alloc] at p1 p2 p3
  clear a2 a3 a4
  obtain ⟨-, i0, i1, i2, -⟩ := bx3 p0
  obtain ⟨-, j0, j1, j2, -⟩ := bx3 p1
  go_enter Tryd.func13, Tryd.ntmps13
  go_wp2_with (refine wpList_iload 34 _ rfl rfl p2 0 71 rfl _ Tryd.underlying34 rfl size_Macro (by rw [Hl.out]; omega) _ (by rw [sub_all _ _ Hl.out]) ?_)
  refine (reconstructs_any ref p x y m q top a b c d n l _ Hn.out HL.out nc lc (r.ext E0) (s.ext E0) Hm.out).mono ?_
  rw [HO.out]
  rintro e w1 ⟨rfl, e1⟩
  have r1 := e1.blk p3
  have E1 := E0.trans e1
  clear p0 p1 p2 p3 E0 e1 i0 i1 i2 j0 j1 j2
  obtain ⟨-, s0, s1, s2, f0, f1, f2⟩ := bx3 r1
  have hb1 := lt_of_block r1
  have hres := blk_set3 (x' := .int .i64 0) (y' := .int .i64 0) (z' := .slice none 0 0) r1
  have hext := Ext.grown (Ext.grown (Ext.grown E1 (gr_set _ (w.heap.size + 1 + 1 + 1) 0 (.int .i64 0)) (fun k e => by cases e; omega)) (gr_set _ (w.heap.size + 1 + 1 + 1) 1 (.int .i64 0)) (fun k e => by cases e; omega)) (gr_set _ (w.heap.size + 1 + 1 + 1) 2 (.slice none 0 0)) (fun k e => by cases e; omega)
  go_wp2
  exact bodyPost_ret (v := .agg #[.int .i64 0, .int .i64 0, .slice none 0 0]) (results_cell_row rfl _ _ (w.heap.size + 1 + 1 + 1) 25 #[.int .i64 0, .int .i64 0, .slice none 0 0] (0, 0) _ rfl hres Tryd.underlying25 rfl size_Picture) rfl ⟨rfl, hext⟩
set_option maxRecDepth 100000 in
theorem impl_Reconstruct_yes (ref : Pic) (W H x y : Nat) (px : List Int) (m : Mac) (q : Nat) (top : Int) (a b : Option Addr) (c d n l : Nat) (w : World) (hT : TabQ w) (hn : n = ref.px.length) (hl : l = px.length) (nc : n ≤ 9223372036854775807) (r : Sl w a n (ref.px.map (Value.int .i64))) (s : Sl w b l (px.map (Value.int .i64))) (hm : m.ok) (ho : okR ref ⟨W, H, px⟩ x y m q top) :
    Calls Tryd.prog 13 #[.agg #[.int .i64 ref.w, .int .i64 ref.h, .slice a n c], .agg #[.int .i64 W, .int .i64 H, .slice b l d], .int .i64 (x : Nat), .int .i64 (y : Nat), .agg (ic m.zs), .int .i64 q, .int .i64 top] w fun e w' => ∃ a' c', e = .returned (.agg #[.int .i64 W, .int .i64 H, .slice a' l c']) ∧ w'.ownsRow w.heap.size 3 1 (.slice a' l c') l ((bldS ref ⟨W, H, px⟩ x y m q top 4).map (Value.int .i64)) ∧ Ext w w' := by
  have hlen := Pic.len_le ho.1.1
  simp only at hlen
  rw [← hl] at hlen
  have Hn := Lib.hid hn
  have HL := Lib.hid hl
  have Hm := Lib.hid hm
  have Hl := Lib.hid (Mac.zs_len hm)
  have Hok := Lib.hid ho
  have HO := Lib.hid (show decide (okR ref ⟨W, H, px⟩ x y m q top) = true from decide_eq_true ho)
  have hq : q < 16 := by have := ho.2.2.1; omega
  have ht0 : 0 ≤ top := ho.2.2.2.1.1
  clear hn hl hm ho
  have a2 := Ext.alloc (w.alloc (.cells #[.int .i64 ref.w, .int .i64 ref.h, .slice a n c] 25)) (.cells #[.int .i64 W, .int .i64 H, .slice b l d] 25)
  have a3 := Ext.alloc ((w.alloc (.cells #[.int .i64 ref.w, .int .i64 ref.h, .slice a n c] 25)).alloc (.cells #[.int .i64 W, .int .i64 H, .slice b l d] 25)) (.cells (ic m.zs) 34)
  have a4 := Ext.alloc (((w.alloc (.cells #[.int .i64 ref.w, .int .i64 ref.h, .slice a n c] 25)).alloc (.cells #[.int .i64 W, .int .i64 H, .slice b l d] 25)).alloc (.cells (ic m.zs) 34)) (.cells #[.int .i64 0, .int .i64 0, .slice none 0 0] 25)
  have p0 := a4.blk (a3.blk (a2.blk (blk_new w (.cells #[.int .i64 ref.w, .int .i64 ref.h, .slice a n c] 25))))
  have p1 := a4.blk (a3.blk (blk_new (w.alloc (.cells #[.int .i64 ref.w, .int .i64 ref.h, .slice a n c] 25)) (.cells #[.int .i64 W, .int .i64 H, .slice b l d] 25)))
  have p2 := (IB.new ((w.alloc (.cells #[.int .i64 ref.w, .int .i64 ref.h, .slice a n c] 25)).alloc (.cells #[.int .i64 W, .int .i64 H, .slice b l d] 25)) 34 m.zs).ext a4
  have p3 := blk_new (((w.alloc (.cells #[.int .i64 ref.w, .int .i64 ref.h, .slice a n c] 25)).alloc (.cells #[.int .i64 W, .int .i64 H, .slice b l d] 25)).alloc (.cells (ic m.zs) 34)) (.cells #[.int .i64 0, .int .i64 0, .slice none 0 0] 25)
  have E0 := (((Ext.alloc w (.cells #[.int .i64 ref.w, .int .i64 ref.h, .slice a n c] 25)).trans a2).trans a3).trans a4
  simp only [World.size_alloc] at p1 p2 p3
  clear a2 a3 a4
  obtain ⟨-, i0, i1, i2, -⟩ := bx3 p0
  obtain ⟨-, j0, j1, j2, -⟩ := bx3 p1
  go_enter Tryd.func13, Tryd.ntmps13
  go_wp2_with (refine wpList_iload 34 _ rfl rfl p2 0 71 rfl _ Tryd.underlying34 rfl size_Macro (by rw [Hl.out]; omega) _ (by rw [sub_all _ _ Hl.out]) ?_)
  refine (reconstructs_any ref ⟨W, H, px⟩ x y m q top a b c d n l _ Hn.out HL.out nc (by omega) (r.ext E0) (s.ext E0) Hm.out).mono ?_
  rw [HO.out]
  rintro e w1 ⟨rfl, e1⟩
  have q0 := e1.blk p0
  have q1 := e1.blk p1
  have q2 := p2.ext e1
  have q3 := e1.blk p3
  have E1 := E0.trans e1
  clear p0 p1 p2 p3 E0 e1 i0 i1 i2 j0 j1 j2
  obtain ⟨B, hB⟩ : ∃ B, B = w.heap.size := ⟨_, rfl⟩
  try simp only [World.size_alloc]
  rw [← hB] at q0 q1 q2 q3 ⊢
  have hwB : w.heap.size ≤ B := by omega
  have HB := Lib.hid hB
  clear hB
  obtain ⟨-, i0, i1, i2, -⟩ := bx3 q0
  obtain ⟨-, j0, j1, j2, -⟩ := bx3 q1
  have hb1 := lt_of_block q3
  go_wp2_with fail
  refine (clone_any W H b d l px _ (by omega) (s.ext E1)).mono ?_
  rintro e wa ⟨a1, c1, rfl, own1, e2⟩
  have r0 := e2.blk q0
  have r1 := e2.blk q1
  have r2 := q2.ext e2
  have r3 := e2.blk q3
  have E2 := E1.trans e2
  clear q0 q1 q2 q3 E1 e2 i0 i1 i2 j0 j1 j2
  have hgo : ∃ g, a1 = some ⟨g, 0, none⟩ ∧ g < wa.heap.size ∧ w1.heap.size ≤ g := by
    rcases own1.2 with ⟨-, h0⟩ | ⟨g, cc, cur, hv, hb, hb2, -⟩
    · omega
    · simp only [Value.slice.injEq] at hv
      exact ⟨g, hv.1, lt_of_block hb2, hb⟩
  obtain ⟨g, rfl, hg1, hg2⟩ := hgo
  have a5 := Ext.alloc wa (.cells #[.int .i64 W, .int .i64 H, .slice (some ⟨g, 0, none⟩) l c1] 25)
  have z0 := a5.blk r0
  have z1 := a5.blk r1
  have z2 := r2.ext a5
  have z3 := a5.blk r3
  have z4 := blk_new wa (.cells #[.int .i64 W, .int .i64 H, .slice (some ⟨g, 0, none⟩) l c1] 25)
  have own2 := owns_ext own1 a5
  have E3 := E2.trans a5
  have hO := lt_of_block r3
  obtain ⟨O, hOe⟩ : ∃ O, O = wa.heap.size := ⟨_, rfl⟩
  rw [← hOe] at z4 hg1 hO
  have HO2 := Lib.hid hOe
  clear r0 r1 r2 r3 own1 E2 a5
  obtain ⟨-, i0, i1, i2, -⟩ := bx3 z0
  obtain ⟨-, o0, o1, o2, -⟩ := bx3 z4
  have hOlt := lt_of_block z4
  go_upto_region 4 with fail
  rw [← hOe]
  clear hOe
  generalize wa.alloc (.cells #[.int .i64 W, .int .i64 H, .slice (some ⟨g, 0, none⟩) l c1] 25) = w2 at *
  go_wp2_with (refine wpList_iload 34 _ rfl rfl z2 0 71 rfl _ Tryd.underlying34 rfl size_Macro (by rw [Hl.out]; omega) _ (by rw [sub_all _ _ Hl.out]) ?_)
  have hT0 := World.block_lt_of_cell? w _ (hT 0 (by omega))
  have hrz : ¬ m.kind = 2 → ∀ z, a = some z → z.block ≠ g := fun hk z hz => by
    have h9 := Pic.len_le (okR_ref Hok.out hk)
    rw [← Hn.out] at h9
    have := sl_bound r z hz (by omega)
    omega
  refine (rebuild_any ref W H x y px m q top a n c w1.heap.size g l c1 _ (hT.ext E3) (by simp only at hT0; omega) own2 Hok.out.1 Hm.out Hok.out.2.1 hq (fun hk => okR_ref Hok.out hk) Hn.out (r.ext E3) hrz).mono ?_
  rintro e w3 ⟨rfl, own3, g3⟩
  have y3 := blk_gr z3 g3 (by simp; omega)
  have y4 := blk_gr z4 g3 (by simp; omega)
  have hs1 : B ≤ w1.heap.size := by omega
  have E4 : Ext w w3 := Ext.grown E3 g3 (fun k e => by cases e; omega)
  clear z0 z1 z2 z3 z4 own2 E3 g3 i0 i1 i2 o0 o1 o2
  obtain ⟨-, o0, o1, o2, -⟩ := bx3 y4
  obtain ⟨-, r0, r1, r2, f0, f1, f2⟩ := bx3 y3
  have Y3 := Lib.hid y3
  clear y3 y4
  go_wp2
  have hres := blk_set3 (x' := .int .i64 W) (y' := .int .i64 H) (z' := .slice (some ⟨g, 0, none⟩) l c1) Y3.out
  have hown := own_gr (own_gr (own_gr own3 (gr_set _ (B + 1 + 1 + 1) 0 (.int .i64 W)) (by omega)) (gr_set _ (B + 1 + 1 + 1) 1 (.int .i64 H)) (by omega)) (gr_set _ (B + 1 + 1 + 1) 2 (.slice (some ⟨g, 0, none⟩) l c1)) (by omega)
  have hext := Ext.grown (Ext.grown (Ext.grown E4 (gr_set _ (B + 1 + 1 + 1) 0 (.int .i64 W)) (fun k e => by cases e; omega)) (gr_set _ (B + 1 + 1 + 1) 1 (.int .i64 H)) (fun k e => by cases e; omega)) (gr_set _ (B + 1 + 1 + 1) 2 (.slice (some ⟨g, 0, none⟩) l c1)) (fun k e => by cases e; omega)
  exact bodyPost_ret (v := .agg #[.int .i64 W, .int .i64 H, .slice (some ⟨g, 0, none⟩) l c1]) (results_cell_row rfl _ _ (B + 1 + 1 + 1) 25 #[.int .i64 W, .int .i64 H, .slice (some ⟨g, 0, none⟩) l c1] (0, 0) _ rfl hres Tryd.underlying25 rfl size_Picture) rfl ⟨_, _, rfl, owns_mono hown (by omega), hext⟩
theorem impl_Reconstruct_any (ref p : Pic) (x y : Int) (m : Mac) (q top : Int) (a b : Option Addr) (c d n l : Nat) (w : World) (hT : TabQ w) (hn : n = ref.px.length) (hl : l = p.px.length) (nc : n ≤ 9223372036854775807) (lc : l ≤ 9223372036854775807) (r : Sl w a n (ref.px.map (Value.int .i64))) (s : Sl w b l (p.px.map (Value.int .i64))) (hm : m.ok) :
    Calls Tryd.prog 13 #[.agg #[.int .i64 ref.w, .int .i64 ref.h, .slice a n c], .agg #[.int .i64 p.w, .int .i64 p.h, .slice b l d], .int .i64 x, .int .i64 y, .agg (ic m.zs), .int .i64 q, .int .i64 top] w fun e w' => ∃ a' c', e = .returned (.agg #[.int .i64 (recP ref p x y m q top).w, .int .i64 (recP ref p x y m q top).h, .slice a' (recP ref p x y m q top).px.length c']) ∧ w'.ownsRow w.heap.size 3 1 (.slice a' (recP ref p x y m q top).px.length c') (recP ref p x y m q top).px.length ((recP ref p x y m q top).px.map (Value.int .i64)) ∧ Ext w w' := by
  unfold recP
  by_cases ho : okR ref p x y m q top
  · rw [if_pos ho]
    obtain ⟨W, hW⟩ : ∃ W : Nat, p.w = W := ⟨p.w.toNat, by have := ho.1.1.1.1; omega⟩
    obtain ⟨H, hH⟩ : ∃ H : Nat, p.h = H := ⟨p.h.toNat, by have := ho.1.1.2.1.1; omega⟩
    obtain ⟨pw, ph, px⟩ := p
    simp only at hW hH hl s ho ⊢
    subst hW hH
    have x0 := ho.1.2.1
    have y0 := ho.1.2.2.2.2.1
    have q0 := ho.2.2.1.1
    have h2 := impl_Reconstruct_yes ref W H x.toNat y.toNat px m q.toNat top a b c d n l w hT hn hl nc r s hm (by rw [show ((x.toNat : Nat) : Int) = x by omega, show ((y.toNat : Nat) : Int) = y by omega, show ((q.toNat : Nat) : Int) = q by omega]; exact ho)
    rw [show ((x.toNat : Nat) : Int) = x by omega, show ((y.toNat : Nat) : Int) = y by omega, show ((q.toNat : Nat) : Int) = q by omega] at h2
    have hbl := bldS_len ref ⟨W, H, px⟩ x.toNat y.toNat m q.toNat top 4
    simp only at hbl
    simp only [hbl, ← hl]
    exact h2
  · rw [if_neg ho]
    refine (impl_Reconstruct_no ref p x y m q top a b c d n l w hT hn hl nc lc r s hm ho).mono ?_
    rintro e w' ⟨rfl, e1⟩
    exact ⟨none, 0, rfl, World.ownsRow_nil _ _ _ _, e1⟩
set_option maxRecDepth 100000 in
theorem spec_Reconstruct_no (ref p : Pic) (x y : Int) (m : Mac) (q top : Int) (a b : Option Addr) (c d n l : Nat) (w : World) (hn : n = ref.px.length) (hl : l = p.px.length) (nc : n ≤ 9223372036854775807) (lc : l ≤ 9223372036854775807) (r : Sl w a n (ref.px.map (Value.int .i64))) (s : Sl w b l (p.px.map (Value.int .i64))) (hm : m.ok) (ho : ¬ okR ref p x y m q top) :
    Calls Tryd.prog 18 #[.agg #[.int .i64 ref.w, .int .i64 ref.h, .slice a n c], .agg #[.int .i64 p.w, .int .i64 p.h, .slice b l d], .int .i64 x, .int .i64 y, .agg (ic m.zs), .int .i64 q, .int .i64 top] w fun e w' => e = .returned (.agg #[.int .i64 0, .int .i64 0, .slice none 0 0]) ∧ Ext w w' := by
  have Hn := Lib.hid hn
  have HL := Lib.hid hl
  have Hm := Lib.hid hm
  have Hl := Lib.hid (Mac.zs_len hm)
  have HO := Lib.hid (show decide (okR ref p x y m q top) = false from decide_eq_false ho)
  clear hn hl hm ho
  have a2 := Ext.alloc (w.alloc (.cells #[.int .i64 ref.w, .int .i64 ref.h, .slice a n c] 25)) (.cells #[.int .i64 p.w, .int .i64 p.h, .slice b l d] 25)
  have a3 := Ext.alloc ((w.alloc (.cells #[.int .i64 ref.w, .int .i64 ref.h, .slice a n c] 25)).alloc (.cells #[.int .i64 p.w, .int .i64 p.h, .slice b l d] 25)) (.cells (ic m.zs) 34)
  have a4 := Ext.alloc (((w.alloc (.cells #[.int .i64 ref.w, .int .i64 ref.h, .slice a n c] 25)).alloc (.cells #[.int .i64 p.w, .int .i64 p.h, .slice b l d] 25)).alloc (.cells (ic m.zs) 34)) (.cells #[.int .i64 0, .int .i64 0, .slice none 0 0] 25)
  have p0 := a4.blk (a3.blk (a2.blk (blk_new w (.cells #[.int .i64 ref.w, .int .i64 ref.h, .slice a n c] 25))))
  have p1 := a4.blk (a3.blk (blk_new (w.alloc (.cells #[.int .i64 ref.w, .int .i64 ref.h, .slice a n c] 25)) (.cells #[.int .i64 p.w, .int .i64 p.h, .slice b l d] 25)))
  have p2 := (IB.new ((w.alloc (.cells #[.int .i64 ref.w, .int .i64 ref.h, .slice a n c] 25)).alloc (.cells #[.int .i64 p.w, .int .i64 p.h, .slice b l d] 25)) 34 m.zs).ext a4
  have p3 := blk_new (((w.alloc (.cells #[.int .i64 ref.w, .int .i64 ref.h, .slice a n c] 25)).alloc (.cells #[.int .i64 p.w, .int .i64 p.h, .slice b l d] 25)).alloc (.cells (ic m.zs) 34)) (.cells #[.int .i64 0, .int .i64 0, .slice none 0 0] 25)
  have E0 := (((Ext.alloc w (.cells #[.int .i64 ref.w, .int .i64 ref.h, .slice a n c] 25)).trans a2).trans a3).trans a4
  simp only [World.size_alloc] at p1 p2 p3
  clear a2 a3 a4
  obtain ⟨-, i0, i1, i2, -⟩ := bx3 p0
  obtain ⟨-, j0, j1, j2, -⟩ := bx3 p1
  go_enter Tryd.func18, Tryd.ntmps18
  go_wp2_with (refine wpList_iload 34 _ rfl rfl p2 0 71 rfl _ Tryd.underlying34 rfl size_Macro (by rw [Hl.out]; omega) _ (by rw [sub_all _ _ Hl.out]) ?_)
  refine (l8Ok_any ref p x y m q top a b c d n l _ Hn.out HL.out nc lc (r.ext E0) (s.ext E0) Hm.out).mono ?_
  rw [HO.out]
  rintro e w1 ⟨rfl, e1⟩
  have r1 := e1.blk p3
  have E1 := E0.trans e1
  clear p0 p1 p2 p3 E0 e1 i0 i1 i2 j0 j1 j2
  obtain ⟨-, s0, s1, s2, f0, f1, f2⟩ := bx3 r1
  have hb1 := lt_of_block r1
  have hres := blk_set3 (x' := .int .i64 0) (y' := .int .i64 0) (z' := .slice none 0 0) r1
  have hext := Ext.grown (Ext.grown (Ext.grown E1 (gr_set _ (w.heap.size + 1 + 1 + 1) 0 (.int .i64 0)) (fun k e => by cases e; omega)) (gr_set _ (w.heap.size + 1 + 1 + 1) 1 (.int .i64 0)) (fun k e => by cases e; omega)) (gr_set _ (w.heap.size + 1 + 1 + 1) 2 (.slice none 0 0)) (fun k e => by cases e; omega)
  go_wp2
  exact bodyPost_ret (v := .agg #[.int .i64 0, .int .i64 0, .slice none 0 0]) (results_cell_row rfl _ _ (w.heap.size + 1 + 1 + 1) 25 #[.int .i64 0, .int .i64 0, .slice none 0 0] (0, 0) _ rfl hres Tryd.underlying25 rfl size_Picture) rfl ⟨rfl, hext⟩
set_option maxRecDepth 100000 in
theorem spec_Reconstruct_yes (ref : Pic) (W H x y : Nat) (px : List Int) (m : Mac) (q : Nat) (top : Int) (a b : Option Addr) (c d n l : Nat) (w : World) (hn : n = ref.px.length) (hl : l = px.length) (nc : n ≤ 9223372036854775807) (r : Sl w a n (ref.px.map (Value.int .i64))) (s : Sl w b l (px.map (Value.int .i64))) (hm : m.ok) (ho : okR ref ⟨W, H, px⟩ x y m q top) :
    Calls Tryd.prog 18 #[.agg #[.int .i64 ref.w, .int .i64 ref.h, .slice a n c], .agg #[.int .i64 W, .int .i64 H, .slice b l d], .int .i64 (x : Nat), .int .i64 (y : Nat), .agg (ic m.zs), .int .i64 q, .int .i64 top] w fun e w' => ∃ a' c', e = .returned (.agg #[.int .i64 W, .int .i64 H, .slice a' l c']) ∧ w'.ownsRow w.heap.size 3 1 (.slice a' l c') l ((bldS ref ⟨W, H, px⟩ x y m q top 4).map (Value.int .i64)) ∧ Ext w w' := by
  have hlen := Pic.len_le ho.1.1
  simp only at hlen
  rw [← hl] at hlen
  have Hn := Lib.hid hn
  have HL := Lib.hid hl
  have Hm := Lib.hid hm
  have Hl := Lib.hid (Mac.zs_len hm)
  have Hok := Lib.hid ho
  have HO := Lib.hid (show decide (okR ref ⟨W, H, px⟩ x y m q top) = true from decide_eq_true ho)
  have hq : q < 16 := by have := ho.2.2.1; omega
  have ht0 : 0 ≤ top := ho.2.2.2.1.1
  clear hn hl hm ho
  have a2 := Ext.alloc (w.alloc (.cells #[.int .i64 ref.w, .int .i64 ref.h, .slice a n c] 25)) (.cells #[.int .i64 W, .int .i64 H, .slice b l d] 25)
  have a3 := Ext.alloc ((w.alloc (.cells #[.int .i64 ref.w, .int .i64 ref.h, .slice a n c] 25)).alloc (.cells #[.int .i64 W, .int .i64 H, .slice b l d] 25)) (.cells (ic m.zs) 34)
  have a4 := Ext.alloc (((w.alloc (.cells #[.int .i64 ref.w, .int .i64 ref.h, .slice a n c] 25)).alloc (.cells #[.int .i64 W, .int .i64 H, .slice b l d] 25)).alloc (.cells (ic m.zs) 34)) (.cells #[.int .i64 0, .int .i64 0, .slice none 0 0] 25)
  have p0 := a4.blk (a3.blk (a2.blk (blk_new w (.cells #[.int .i64 ref.w, .int .i64 ref.h, .slice a n c] 25))))
  have p1 := a4.blk (a3.blk (blk_new (w.alloc (.cells #[.int .i64 ref.w, .int .i64 ref.h, .slice a n c] 25)) (.cells #[.int .i64 W, .int .i64 H, .slice b l d] 25)))
  have p2 := (IB.new ((w.alloc (.cells #[.int .i64 ref.w, .int .i64 ref.h, .slice a n c] 25)).alloc (.cells #[.int .i64 W, .int .i64 H, .slice b l d] 25)) 34 m.zs).ext a4
  have p3 := blk_new (((w.alloc (.cells #[.int .i64 ref.w, .int .i64 ref.h, .slice a n c] 25)).alloc (.cells #[.int .i64 W, .int .i64 H, .slice b l d] 25)).alloc (.cells (ic m.zs) 34)) (.cells #[.int .i64 0, .int .i64 0, .slice none 0 0] 25)
  have E0 := (((Ext.alloc w (.cells #[.int .i64 ref.w, .int .i64 ref.h, .slice a n c] 25)).trans a2).trans a3).trans a4
  simp only [World.size_alloc] at p1 p2 p3
  clear a2 a3 a4
  obtain ⟨-, i0, i1, i2, -⟩ := bx3 p0
  obtain ⟨-, j0, j1, j2, -⟩ := bx3 p1
  go_enter Tryd.func18, Tryd.ntmps18
  go_wp2_with (refine wpList_iload 34 _ rfl rfl p2 0 71 rfl _ Tryd.underlying34 rfl size_Macro (by rw [Hl.out]; omega) _ (by rw [sub_all _ _ Hl.out]) ?_)
  refine (l8Ok_any ref ⟨W, H, px⟩ x y m q top a b c d n l _ Hn.out HL.out nc (by omega) (r.ext E0) (s.ext E0) Hm.out).mono ?_
  rw [HO.out]
  rintro e w1 ⟨rfl, e1⟩
  have q0 := e1.blk p0
  have q1 := e1.blk p1
  have q2 := p2.ext e1
  have q3 := e1.blk p3
  have E1 := E0.trans e1
  clear p0 p1 p2 p3 E0 e1 i0 i1 i2 j0 j1 j2
  obtain ⟨B, hB⟩ : ∃ B, B = w.heap.size := ⟨_, rfl⟩
  try simp only [World.size_alloc]
  rw [← hB] at q0 q1 q2 q3 ⊢
  have hwB : w.heap.size ≤ B := by omega
  have HB := Lib.hid hB
  clear hB
  obtain ⟨-, i0, i1, i2, -⟩ := bx3 q0
  obtain ⟨-, j0, j1, j2, -⟩ := bx3 q1
  have hb1 := lt_of_block q3
  go_wp2_with fail
  refine (l8Copy_any W H b d l px _ (by omega) (by omega) (s.ext E1)).mono ?_
  rintro e wa ⟨a1, c1, rfl, own1, e2⟩
  have r0 := e2.blk q0
  have r1 := e2.blk q1
  have r2 := q2.ext e2
  have r3 := e2.blk q3
  have E2 := E1.trans e2
  clear q0 q1 q2 q3 E1 e2 i0 i1 i2 j0 j1 j2
  have hgo : ∃ g, a1 = some ⟨g, 0, none⟩ ∧ g < wa.heap.size ∧ w1.heap.size ≤ g := by
    rcases own1.2 with ⟨-, h0⟩ | ⟨g, cc, cur, hv, hb, hb2, -⟩
    · omega
    · simp only [Value.slice.injEq] at hv
      exact ⟨g, hv.1, lt_of_block hb2, hb⟩
  obtain ⟨g, rfl, hg1, hg2⟩ := hgo
  have a5 := Ext.alloc wa (.cells #[.int .i64 W, .int .i64 H, .slice (some ⟨g, 0, none⟩) l c1] 25)
  have z0 := a5.blk r0
  have z1 := a5.blk r1
  have z2 := r2.ext a5
  have z3 := a5.blk r3
  have z4 := blk_new wa (.cells #[.int .i64 W, .int .i64 H, .slice (some ⟨g, 0, none⟩) l c1] 25)
  have own2 := owns_ext own1 a5
  have E3 := E2.trans a5
  have hO := lt_of_block r3
  obtain ⟨O, hOe⟩ : ∃ O, O = wa.heap.size := ⟨_, rfl⟩
  rw [← hOe] at z4 hg1 hO
  have HO2 := Lib.hid hOe
  clear r0 r1 r2 r3 own1 E2 a5
  obtain ⟨-, i0, i1, i2, -⟩ := bx3 z0
  obtain ⟨-, o0, o1, o2, -⟩ := bx3 z4
  have hOlt := lt_of_block z4
  go_upto_region 4 with fail
  rw [← hOe]
  clear hOe
  generalize wa.alloc (.cells #[.int .i64 W, .int .i64 H, .slice (some ⟨g, 0, none⟩) l c1] 25) = w2 at *
  go_wp2_with (refine wpList_iload 34 _ rfl rfl z2 0 71 rfl _ Tryd.underlying34 rfl size_Macro (by rw [Hl.out]; omega) _ (by rw [sub_all _ _ Hl.out]) ?_)
  have hrz : ¬ m.kind = 2 → ∀ z, a = some z → z.block ≠ g := fun hk z hz => by
    have h9 := Pic.len_le (okR_ref Hok.out hk)
    rw [← Hn.out] at h9
    have := sl_bound r z hz (by omega)
    omega
  refine (l8Build_any ref W H x y px m q top a n c w1.heap.size g l c1 _ own2 Hok.out.1 Hm.out Hok.out.2.1 hq ht0 (fun hk => okR_ref Hok.out hk) Hn.out (r.ext E3) hrz).mono ?_
  rintro e w3 ⟨rfl, own3, g3⟩
  have y3 := blk_gr z3 g3 (by simp; omega)
  have y4 := blk_gr z4 g3 (by simp; omega)
  have hs1 : B ≤ w1.heap.size := by omega
  have E4 : Ext w w3 := Ext.grown E3 g3 (fun k e => by cases e; omega)
  clear z0 z1 z2 z3 z4 own2 E3 g3 i0 i1 i2 o0 o1 o2
  obtain ⟨-, o0, o1, o2, -⟩ := bx3 y4
  obtain ⟨-, r0, r1, r2, f0, f1, f2⟩ := bx3 y3
  have Y3 := Lib.hid y3
  clear y3 y4
  go_wp2
  have hres := blk_set3 (x' := .int .i64 W) (y' := .int .i64 H) (z' := .slice (some ⟨g, 0, none⟩) l c1) Y3.out
  have hown := own_gr (own_gr (own_gr own3 (gr_set _ (B + 1 + 1 + 1) 0 (.int .i64 W)) (by omega)) (gr_set _ (B + 1 + 1 + 1) 1 (.int .i64 H)) (by omega)) (gr_set _ (B + 1 + 1 + 1) 2 (.slice (some ⟨g, 0, none⟩) l c1)) (by omega)
  have hext := Ext.grown (Ext.grown (Ext.grown E4 (gr_set _ (B + 1 + 1 + 1) 0 (.int .i64 W)) (fun k e => by cases e; omega)) (gr_set _ (B + 1 + 1 + 1) 1 (.int .i64 H)) (fun k e => by cases e; omega)) (gr_set _ (B + 1 + 1 + 1) 2 (.slice (some ⟨g, 0, none⟩) l c1)) (fun k e => by cases e; omega)
  exact bodyPost_ret (v := .agg #[.int .i64 W, .int .i64 H, .slice (some ⟨g, 0, none⟩) l c1]) (results_cell_row rfl _ _ (B + 1 + 1 + 1) 25 #[.int .i64 W, .int .i64 H, .slice (some ⟨g, 0, none⟩) l c1] (0, 0) _ rfl hres Tryd.underlying25 rfl size_Picture) rfl ⟨_, _, rfl, owns_mono hown (by omega), hext⟩
theorem spec_Reconstruct_any (ref p : Pic) (x y : Int) (m : Mac) (q top : Int) (a b : Option Addr) (c d n l : Nat) (w : World) (hn : n = ref.px.length) (hl : l = p.px.length) (nc : n ≤ 9223372036854775807) (lc : l ≤ 9223372036854775807) (r : Sl w a n (ref.px.map (Value.int .i64))) (s : Sl w b l (p.px.map (Value.int .i64))) (hm : m.ok) :
    Calls Tryd.prog 18 #[.agg #[.int .i64 ref.w, .int .i64 ref.h, .slice a n c], .agg #[.int .i64 p.w, .int .i64 p.h, .slice b l d], .int .i64 x, .int .i64 y, .agg (ic m.zs), .int .i64 q, .int .i64 top] w fun e w' => ∃ a' c', e = .returned (.agg #[.int .i64 (recP ref p x y m q top).w, .int .i64 (recP ref p x y m q top).h, .slice a' (recP ref p x y m q top).px.length c']) ∧ w'.ownsRow w.heap.size 3 1 (.slice a' (recP ref p x y m q top).px.length c') (recP ref p x y m q top).px.length ((recP ref p x y m q top).px.map (Value.int .i64)) ∧ Ext w w' := by
  unfold recP
  by_cases ho : okR ref p x y m q top
  · rw [if_pos ho]
    obtain ⟨W, hW⟩ : ∃ W : Nat, p.w = W := ⟨p.w.toNat, by have := ho.1.1.1.1; omega⟩
    obtain ⟨H, hH⟩ : ∃ H : Nat, p.h = H := ⟨p.h.toNat, by have := ho.1.1.2.1.1; omega⟩
    obtain ⟨pw, ph, px⟩ := p
    simp only at hW hH hl s ho ⊢
    subst hW hH
    have x0 := ho.1.2.1
    have y0 := ho.1.2.2.2.2.1
    have q0 := ho.2.2.1.1
    have h2 := spec_Reconstruct_yes ref W H x.toNat y.toNat px m q.toNat top a b c d n l w hn hl nc r s hm (by rw [show ((x.toNat : Nat) : Int) = x by omega, show ((y.toNat : Nat) : Int) = y by omega, show ((q.toNat : Nat) : Int) = q by omega]; exact ho)
    rw [show ((x.toNat : Nat) : Int) = x by omega, show ((y.toNat : Nat) : Int) = y by omega, show ((q.toNat : Nat) : Int) = q by omega] at h2
    have hbl := bldS_len ref ⟨W, H, px⟩ x.toNat y.toNat m q.toNat top 4
    simp only at hbl
    simp only [hbl, ← hl]
    exact h2
  · rw [if_neg ho]
    refine (spec_Reconstruct_no ref p x y m q top a b c d n l w hn hl nc lc r s hm ho).mono ?_
    rintro e w' ⟨rfl, e1⟩
    exact ⟨none, 0, rfl, World.ownsRow_nil _ _ _ _, e1⟩
end Go.Proofs.YtbnhaegidfbgbaaDoor
namespace Go.Proofs.YtbnhaegidfbgbaaDoor
open Go.RowKit
set_option maxHeartbeats 1000000
/-- Of what was there only blocks lo..hi-1 have changed. -/
def Tc (lo hi : Nat) (w w' : World) : Prop := ∃ row, w.grownBy w' row ∧ ∀ k, row = some k → lo ≤ k ∧ k < hi
section
variable {w w' W : World} {lo hi : Nat}
theorem Tc.ext (h : Tc lo hi w w') (e : Ext W w) (hl : W.heap.size ≤ lo) : Ext W w' := by
  obtain ⟨row, g, hr⟩ := h
  exact Ext.grown e g (fun k hk => by have := (hr k hk).1; omega)
theorem Tc.size (h : Tc lo hi w w') : w.heap.size ≤ w'.heap.size := by obtain ⟨row, g, -⟩ := h; exact g.size
theorem Tc.blk (h : Tc lo hi w w') {b : Nat} {o : Obj} (hb : w.heap[b]? = some o) (hn : b < lo ∨ hi ≤ b) : w'.heap[b]? = some o := by
  obtain ⟨row, g, hr⟩ := h
  exact blk_gr hb g (fun e => by have := hr b e; omega)
theorem Tc.own (h : Tc lo hi w w') {base e s n : Nat} {v : Value} {xs : List Value} (ho : w.ownsRow base e s v n xs) (hn : ∀ k, v.ownBlock = some k → k < lo ∨ hi ≤ k) : w'.ownsRow base e s v n xs := by
  obtain ⟨row, g, hr⟩ := h
  refine ho.kept g ?_
  cases hv : v.ownBlock with
  | none => exact .inl rfl
  | some k => right; intro e2; have := hr k e2.symm; have := hn k hv; omega
theorem Tc.sl (h : Tc lo hi w w') {a : Option Addr} {n : Nat} {xs : List Value} (hs : Sl w a n xs) (hn : ∀ y, a = some y → y.block < lo ∨ hi ≤ y.block) : Sl w' a n xs := by
  obtain ⟨row, g, hr⟩ := h
  exact hs.grown g (fun y hy e => by have := hr y.block e.symm; have := hn y hy; omega)
theorem Tc.ib (h : Tc lo hi w w') {b T : Nat} {zs : List Int} (hb : IB w b T zs) (hn : b < lo ∨ hi ≤ b) : IB w' b T zs := h.blk hb hn
theorem Tc.of {row : Option Nat} (g : w.grownBy w' row) (hr : ∀ k, row = some k → lo ≤ k ∧ k < hi) : Tc lo hi w w' := ⟨row, g, hr⟩
end
/-- A picture's box. -/
def PX (w : World) (b : Nat) (x y : Int) (a : Option Addr) (n c : Nat) : Prop := w.heap[b]? = some (.cells #[.int .i64 x, .int .i64 y, .slice a n c] 25 (0, 0))
theorem PX.ext {w w' : World} {b : Nat} {x y : Int} {a : Option Addr} {n c : Nat} (h : PX w b x y a n c) (e : Ext w w') : PX w' b x y a n c := e.blk h
theorem PX.cells {w : World} {b : Nat} {x y : Int} {a : Option Addr} {n c : Nat} (h : PX w b x y a n c) : w.cell? ⟨b, 0, none⟩ = some (.int .i64 x) ∧ w.cell? ⟨b, 1, none⟩ = some (.int .i64 y) ∧ w.cell? ⟨b, 2, none⟩ = some (.slice a n c) := by
  obtain ⟨-, h0, h1, h2, -⟩ := bx3 h
  exact ⟨h0, h1, h2⟩
/-- A box of three cells of type Picture. -/
def PZ (w : World) (b : Nat) : Prop := ∃ x y z : Value, w.heap[b]? = some (.cells #[x, y, z] 25 (0, 0))
theorem PZ.ext {w w' : World} {b : Nat} (h : PZ w b) (e : Ext w w') : PZ w' b := by
  obtain ⟨x, y, z, h⟩ := h; exact ⟨x, y, z, e.blk h⟩
theorem PX.z {w : World} {b : Nat} {x y : Int} {a : Option Addr} {n c : Nat} (h : PX w b x y a n c) : PZ w b := ⟨_, _, _, h⟩
theorem PZ.ne {w : World} {b base n m : Nat} {v : Value} {xs : List Value} (h : PZ w b) (own : w.ownsRow base 3 1 v m xs) (_ : n = n) : v.ownBlock ≠ some b := by
  obtain ⟨x, y, z, h⟩ := h
  rcases own_ne_blk own h (by decide) with h1 | h1
  · rw [h1]; simp
  · exact h1
/-- The three stores into a box. -/
def st3 (w : World) (b : Nat) (x y z : Value) : World := ((w.setCell ⟨b, 0, none⟩ x).setCell ⟨b, 1, none⟩ y).setCell ⟨b, 2, none⟩ z
theorem st3_gr (w : World) (b : Nat) (x y z : Value) : w.grownBy (st3 w b x y z) (some b) := grownBy_trans (grownBy_trans (gr_set _ _ _ _) (gr_set _ _ _ _)) (gr_set _ _ _ _)
theorem st3_own {w : World} {b base n : Nat} {x y z v : Value} {xs : List Value} (h : PZ w b) (own : w.ownsRow base 3 1 v n xs) : (st3 w b x y z).ownsRow base 3 1 v n xs :=
  own.kept (st3_gr w b x y z) (by
    have := PZ.ne (n := 0) h own rfl
    cases hv : v.ownBlock with
    | none => exact .inl rfl
    | some k => right; rw [hv] at this; exact this)
theorem st3_px {w : World} {b : Nat} (h : PZ w b) (x y : Int) (a : Option Addr) (n c : Nat) : PX (st3 w b (.int .i64 x) (.int .i64 y) (.slice a n c)) b x y a n c := by
  obtain ⟨_, _, _, h⟩ := h
  exact blk_set3 h
theorem st3_pz {w : World} {b b' : Nat} {x y z : Value} (h : PZ w b) (h' : PZ w b') : PZ (st3 w b x y z) b' := by
  by_cases e : b' = b
  · subst e
    obtain ⟨_, _, _, h⟩ := h
    exact ⟨_, _, _, blk_set3 h⟩
  · obtain ⟨u, v, t, h'⟩ := h'
    exact ⟨u, v, t, blk_gr h' (st3_gr w b x y z) (by simp; omega)⟩
theorem st3_ext {w W : World} {b : Nat} {x y z : Value} (h : Ext W w) (hb : W.heap.size ≤ b) : Ext W (st3 w b x y z) := Ext.grown h (st3_gr w b x y z) (fun k e => by cases e; exact hb)
end Go.Proofs.YtbnhaegidfbgbaaDoor
namespace Go.Proofs.YtbnhaegidfbgbaaDoor
open Go.RowKit
set_option maxHeartbeats 400000
theorem mac_built (m : Mac) (h : m.ok) : spl (spl (spl ((List.replicate 71 (0 : Int)).set 0 m.kind) 1 [m.x, m.y]) 3 m.modes) 7 m.lv = m.zs := by
  obtain ⟨k, x, y, md, lv⟩ := m
  obtain ⟨h1, h2⟩ := h
  simp only at h1 h2
  match md, h1 with
  | [a, b, c, d], _ =>
    have e1 : (List.replicate 71 (0 : Int)).set 0 k = k :: 0 :: 0 :: 0 :: 0 :: 0 :: 0 :: List.replicate 64 0 := rfl
    simp only [e1]
    unfold spl Mac.zs
    simp [h2]
theorem size_lMacro : (Tryd.prog.info? 45).map (·.size) = some 71 := by kernel_rfl
theorem zero_Macro : (Tryd.prog.info? 34).map (·.zero) = some (some (.agg (ic (List.replicate 71 0)))) := by kernel_rfl
theorem size_lVector : (Tryd.prog.info? 43).map (·.size) = some 2 := by kernel_rfl
set_option maxRecDepth 100000 in
theorem toMacro_any (m : Mac) (w : World) (h : m.ok) :
    Calls Tryd.prog 20 #[.agg (ic m.zs)] w fun e w' => e = .returned (.agg (ic m.zs)) ∧ Ext w w' := by
  have Hl := Lib.hid (Mac.zs_len h)
  have Hm := Lib.hid h
  clear h
  go_enter Tryd.func20, Tryd.ntmps20
  go_upto_region 2 with (refine wpList_ialloc 34 rfl rfl 71 zero_Macro ?_)
  obtain ⟨W, p0, p1, p2, E1, hW⟩ : ∃ W, IB W w.heap.size 45 m.zs ∧ IB W (w.heap.size + 1) 34 (List.replicate 71 0) ∧ IB W (w.heap.size + 1 + 1) 34 (List.replicate 71 0) ∧ Ext w W ∧ ((w.alloc (.cells (ic m.zs) 45)).alloc (.cells (ic (List.replicate 71 0)) 34)).alloc (.cells (ic (List.replicate 71 0)) 34) = W := by
    refine ⟨_, ?_, ?_, ?_, ?_, rfl⟩
    · exact ((IB.new w 45 m.zs).alloc _).alloc _
    · have := (IB.new (w.alloc (.cells (ic m.zs) 45)) 34 (List.replicate 71 0)).alloc (.cells (ic (List.replicate 71 0)) 34)
      simp only [World.size_alloc] at this
      exact this
    · have := IB.new ((w.alloc (.cells (ic m.zs) 45)).alloc (.cells (ic (List.replicate 71 0)) 34)) 34 (List.replicate 71 0)
      simp only [World.size_alloc] at this
      exact this
    · exact ((Ext.alloc _ _).trans (Ext.alloc _ _)).trans (Ext.alloc _ _)
  rw [hW]
  clear hW
  have k0 := p0.cell (i := 0) (by rw [Hl.out]; omega)
  rw [Mac.zs_kind] at k0
  have d0 := p2.cell (i := 0) (by simp)
  have f0 := p2.frozen 0
  go_upto_region 3 with (fail)
  have E2 := Ext.grown E1 (gr_set W (w.heap.size + 1 + 1) 0 (.int .i64 m.kind)) (fun q hq => by cases hq; omega)
  have r0 := p0.set_other (c := w.heap.size + 1 + 1) (i := 0) (v := .int .i64 m.kind) (by omega)
  have r1 := p1.set_other (c := w.heap.size + 1 + 1) (i := 0) (v := .int .i64 m.kind) (by omega)
  have r2 := p2.set 0 m.kind
  generalize W.setCell ⟨w.heap.size + 1 + 1, 0, none⟩ (.int .i64 m.kind) = W2 at *
  clear p0 p1 p2 k0 d0 f0 E1
  go_wp2_with (refine wpList_iload 43 _ rfl rfl r0 1 2 rfl _ Tryd.underlying43 rfl size_lVector (by rw [Hl.out]; omega) _ Mac.zs_mv ?_)
  refine (toVector_any m.x m.y _).mono ?_
  rintro e w3 ⟨rfl, e3⟩
  have E3 := E2.trans e3
  have q0 := r0.ext e3
  have q1 := r1.ext e3
  have q2 := r2.ext e3
  clear r0 r1 r2 E2 e3
  go_wp2_with (first | (refine wpList_istore 27 _ _ rfl rfl q2 1 2 rfl _ rfl [m.x, m.y] rfl size_Vector rfl (by simp) ?_; intro w4 p4 g4; refine Hid.out ?_))
  have E4 := Ext.grown E3 g4 (fun q hq => by cases hq; omega)
  have s0 := q0.gr g4 (by simp; omega)
  have s1 := q1.gr g4 (by simp)
  clear q0 q1 q2 E3 g4
  refine Lib.hid ?_
  go_wp2_with (refine wpList_iload 30 _ rfl rfl s0 3 4 rfl _ Tryd.underlying30 rfl size_A4 (by rw [Hl.out]; omega) _ (by rw [Mac.zs_modes Hm.out]) ?_)
  refine (toIntA4_any m.modes _ Hm.out.modes).mono ?_
  rintro e w5 ⟨rfl, e5⟩
  have E5 := E4.trans e5
  have t0 := s0.ext e5
  have t1 := s1.ext e5
  have t2 := p4.ext e5
  clear s0 s1 p4 E4 e5
  have L1 : Hid ((spl ((List.replicate 71 (0 : Int)).set 0 m.kind) 1 [m.x, m.y]).length = 71) := Lib.hid (by rw [spl_len (by simp)]; simp)
  go_wp2_with (first | (refine wpList_istore 30 _ _ rfl rfl t2 3 4 rfl _ rfl m.modes rfl size_A4 Hm.out.modes (by rw [L1.out]; omega) ?_; intro w6 p6 g6; refine Hid.out ?_))
  have E6 := Ext.grown E5 g6 (fun q hq => by cases hq; omega)
  have v0 := t0.gr g6 (by simp; omega)
  have v1 := t1.gr g6 (by simp)
  clear t0 t1 t2 E5 g6
  refine Lib.hid ?_
  go_wp2_with (refine wpList_iload 32 _ rfl rfl v0 7 64 rfl _ Tryd.underlying32 rfl size_A16A4 (by rw [Hl.out]; omega) _ (by rw [Mac.zs_lv Hm.out]) ?_)
  refine (toIntA16A4_any m.lv _ Hm.out.lv).mono ?_
  rintro e w7 ⟨rfl, e7⟩
  have E7 := E6.trans e7
  have x1 := v1.ext e7
  have x2 := p6.ext e7
  clear v0 v1 p6 E6 e7
  have L2 : Hid ((spl (spl ((List.replicate 71 (0 : Int)).set 0 m.kind) 1 [m.x, m.y]) 3 m.modes).length = 71) := Lib.hid (by rw [spl_len (by rw [L1.out, Hm.out.modes]; omega), L1.out])
  go_wp2_with (first | (refine wpList_istore 32 _ _ rfl rfl x2 7 64 rfl _ rfl m.lv rfl size_A16A4 Hm.out.lv (by rw [L2.out]; omega) ?_; intro w8 p8 g8; refine Hid.out ?_))
  rw [mac_built m Hm.out] at p8
  have E8 := Ext.grown E7 g8 (fun q hq => by cases hq; omega)
  have y1 := x1.gr g8 (by simp)
  clear x1 x2 E7 g8 L1 L2
  refine Lib.hid ?_
  go_wp2_with (first | (refine wpList_iload 34 _ rfl rfl p8 0 71 rfl _ Tryd.underlying34 rfl size_Macro (by rw [Hl.out]; omega) _ (by rw [sub_all _ _ Hl.out]) ?_) | (refine wpList_istore 34 _ _ rfl rfl y1 0 71 rfl _ rfl m.zs rfl size_Macro Hl.out (by simp) ?_; intro w9 p9 g9; refine Hid.out ?_))
  rw [spl_all (by rw [Hl.out]; simp)] at p9
  have E9 := Ext.grown E8 g9 (fun q hq => by cases hq; omega)
  refine Lib.hid ?_
  go_wp2
  exact bodyPost_ret (v := .agg (ic m.zs)) (results_cell_row rfl _ _ (w.heap.size + 1) 34 (ic m.zs) (0, 0) _ rfl p9 Tryd.underlying34 rfl (by rw [ic_size, Hl.out]; exact size_Macro)) rfl ⟨rfl, E9⟩
end Go.Proofs.YtbnhaegidfbgbaaDoor
namespace Go.Proofs.YtbnhaegidfbgbaaDoor
open Go.RowKit
set_option maxHeartbeats 1000000
set_option maxRecDepth 100000 in
theorem eqIntA16_same (zs : List Int) (w : World) (hl : zs.length = 16) :
    Calls Tryd.prog 115 #[.agg (ic zs), .agg (ic zs)] w fun e w' => e = .returned (.bool true) ∧ Ext w w' := by
  have p0 := (IB.new w 31 zs).alloc (.cells (ic zs) 31)
  have q0 := IB.new (w.alloc (.cells (ic zs) 31)) 31 zs
  have E0 := (Ext.alloc w (.cells (ic zs) 31)).trans (Ext.alloc _ (.cells (ic zs) 31))
  simp only [World.size_alloc] at q0
  have Hl := Lib.hid hl
  clear hl
  go_enter Tryd.func115, Tryd.ntmps115
  go_wp2_with fail
  generalize (w.alloc (.cells (ic zs) 31)).alloc (.cells (ic zs) 31) = w1 at *
  go_loopw [5] (fun i wr => ∃ k : Nat, k ≤ 16 ∧ i = .int .i64 k ∧ ∃ u, wr = w1.drewN u) (fun i _ => 16 - (intOf i).toNat)
  case atStart => exact ⟨0, by omega, rfl, 0, rfl⟩
  case round =>
    obtain ⟨k, hk, rfl, u, rfl⟩ := hrel
    by_cases hlt : k < 16
    · have c1 := p0.cell (i := k) (by rw [Hl.out]; exact hlt)
      have c2 := q0.cell (i := k) (by rw [Hl.out]; exact hlt)
      have hd : decide ((k : Int) < 16) = true := by simp; omega
      generalize nth zs k = v at *
      go_wp2_with fail
      go_quiet (fail)
      go_wp2
      go_roundw
      case rel => exact ⟨k + 1, by omega, by go_num, _, (by first | rfl | exact World.drewN_drewN _ _ _)⟩
      case measure => simp [intOf]; omega
    · obtain rfl : k = 16 := by omega
      go_wp2
      go_ret
      exact ⟨rfl, below_drewN E0 _⟩
set_option maxRecDepth 100000 in
theorem eqIntA4_same (zs : List Int) (w : World) (hl : zs.length = 4) :
    Calls Tryd.prog 77 #[.agg (ic zs), .agg (ic zs)] w fun e w' => e = .returned (.bool true) ∧ Ext w w' := by
  have p0 := (IB.new w 30 zs).alloc (.cells (ic zs) 30)
  have q0 := IB.new (w.alloc (.cells (ic zs) 30)) 30 zs
  have E0 := (Ext.alloc w (.cells (ic zs) 30)).trans (Ext.alloc _ (.cells (ic zs) 30))
  simp only [World.size_alloc] at q0
  have Hl := Lib.hid hl
  clear hl
  go_enter Tryd.func77, Tryd.ntmps77
  go_wp2_with fail
  generalize (w.alloc (.cells (ic zs) 30)).alloc (.cells (ic zs) 30) = w1 at *
  go_loopw [5] (fun i wr => ∃ k : Nat, k ≤ 4 ∧ i = .int .i64 k ∧ ∃ u, wr = w1.drewN u) (fun i _ => 4 - (intOf i).toNat)
  case atStart => exact ⟨0, by omega, rfl, 0, rfl⟩
  case round =>
    obtain ⟨k, hk, rfl, u, rfl⟩ := hrel
    by_cases hlt : k < 4
    · have c1 := p0.cell (i := k) (by rw [Hl.out]; exact hlt)
      have c2 := q0.cell (i := k) (by rw [Hl.out]; exact hlt)
      have hd : decide ((k : Int) < 4) = true := by simp; omega
      generalize nth zs k = v at *
      go_wp2_with fail
      go_quiet (fail)
      go_wp2
      go_roundw
      case rel => exact ⟨k + 1, by omega, by go_num, _, (by first | rfl | exact World.drewN_drewN _ _ _)⟩
      case measure => simp [intOf]; omega
    · obtain rfl : k = 4 := by omega
      go_wp2
      go_ret
      exact ⟨rfl, below_drewN E0 _⟩
theorem eqVector_same (x y : Int) (w : World) :
    Calls Tryd.prog 76 #[.agg #[.int .i64 x, .int .i64 y], .agg #[.int .i64 x, .int .i64 y]] w fun e w' => e = .returned (.bool true) ∧ Ext w w' := by
  go_enter Tryd.func76, Tryd.ntmps76
  go_wp2
  go_ret
  exact ⟨rfl, (Ext.alloc _ _).trans (Ext.alloc _ _)⟩
set_option maxRecDepth 100000 in
theorem eqIntA16A4_same (zs : List Int) (w : World) (hl : zs.length = 64) :
    Calls Tryd.prog 78 #[.agg (ic zs), .agg (ic zs)] w fun e w' => e = .returned (.bool true) ∧ Ext w w' := by
  have p0 := (IB.new w 32 zs).alloc (.cells (ic zs) 32)
  have q0 := IB.new (w.alloc (.cells (ic zs) 32)) 32 zs
  have E0 := (Ext.alloc w (.cells (ic zs) 32)).trans (Ext.alloc _ (.cells (ic zs) 32))
  simp only [World.size_alloc] at q0
  have Hl := Lib.hid hl
  clear hl
  go_enter Tryd.func78, Tryd.ntmps78
  go_wp2_with fail
  generalize (w.alloc (.cells (ic zs) 32)).alloc (.cells (ic zs) 32) = w1 at *
  go_loopw [5] (fun i wr => ∃ k : Nat, k ≤ 4 ∧ i = .int .i64 k ∧ Ext w1 wr) (fun i _ => 4 - (intOf i).toNat)
  case atStart => exact ⟨0, by omega, rfl, Below.refl _ _⟩
  case round =>
    obtain ⟨k, hk, rfl, E1⟩ := hrel
    by_cases hlt : k < 4
    · have hd : decide ((k : Int) < 4) = true := by simp; omega
      have hsl : (sub zs (k * 16) 16).length = 16 := sub_len _ _ _ (by rw [Hl.out]; omega)
      have Hsl := Lib.hid hsl
      clear hsl
      go_wp2_with fail
      have hext : ∀ (i : Nat) (own : Value) (ys : Nat → Value) (wa wb : World), Ext wa wb → (match i with | 0 => own = .int .i64 k | 1 => own = .pointer (some ⟨w.heap.size, k * 16, none⟩) | 2 => own = .agg (ic (sub zs (k * 16) 16)) | 3 => own = .int .i64 k | 4 => own = .pointer (some ⟨w.heap.size + 1, k * 16, none⟩) | 5 => own = .agg (ic (sub zs (k * 16) 16)) | 6 => own = .bool true | 7 => own = .bool false | _ => True) → (match i with | 0 => own = .int .i64 k | 1 => own = .pointer (some ⟨w.heap.size, k * 16, none⟩) | 2 => own = .agg (ic (sub zs (k * 16) 16)) | 3 => own = .int .i64 k | 4 => own = .pointer (some ⟨w.heap.size + 1, k * 16, none⟩) | 5 => own = .agg (ic (sub zs (k * 16) 16)) | 6 => own = .bool true | 7 => own = .bool false | _ => True) := by
        intro i own ys wa wb e h
        match i, h with
        | 0, h => exact h
        | 1, h => exact h
        | 2, h => exact h
        | 3, h => exact h
        | 4, h => exact h
        | 5, h => exact h
        | 6, h => exact h
        | 7, h => exact h
        | _ + 8, _ => trivial
      have Hext := Lib.hid hext
      clear hext
      refine wp_region_inv2 (by kernel_rfl) [(10, 0), (11, 1), (12, 2), (13, 3), (14, 4), (15, 5), (16, 6), (17, 7)] [[], [0], [0, 1], [], [3], [3, 4], [0, 1, 2, 3, 4, 5], [0, 1, 2, 3, 4, 5, 6]] (fun i own ys wx => match i with | 0 => own = .int .i64 k | 1 => own = .pointer (some ⟨w.heap.size, k * 16, none⟩) | 2 => own = .agg (ic (sub zs (k * 16) 16)) | 3 => own = .int .i64 k | 4 => own = .pointer (some ⟨w.heap.size + 1, k * 16, none⟩) | 5 => own = .agg (ic (sub zs (k * 16) 16)) | 6 => own = .bool true | 7 => own = .bool false | _ => True) (fun kx wx => Ext w1 wx) (by kernel_rfl) (by kernel_rfl) (by kernel_rfl) ?g0_r1 ?gop_r1 ?gend_r1
      case g0_r1 => exact E1.trans (Ext.drewN _ 1)
      case gop_r1 =>
        refine ⟨?_, ?_, ?_, ?_, ?_, ?_, ?_, ?_, trivial⟩
        · intro kx xs wx hk hG hD hI Qo Kx hK hQo
          clear hD
          clear hI
          simp only [patchS, Nat.reduceAdd, Nat.reduceEqDiff, ↓reduceIte] at hQo ⊢
          go_wp2
          exact hK.out _ _ ⟨rfl, hG, fun _ _ _ _ _ _ h => h⟩
        · intro kx xs wx hk hG hD hI Qo Kx hK hQo
          have d0 : (xs 0) = .int .i64 k := hD 0 rfl
          clear hD
          clear hI
          simp only [patchS, Nat.reduceAdd, Nat.reduceEqDiff, ↓reduceIte] at hQo ⊢
          generalize xs 0 = y0 at *
          subst d0
          go_wp2
          exact hK.out _ _ ⟨rfl, hG, fun _ _ _ _ _ _ h => h⟩
        · intro kx xs wx hk hG hD hI Qo Kx hK hQo
          have d1 : (xs 1) = .pointer (some ⟨w.heap.size, k * 16, none⟩) := hD 1 rfl
          clear hD
          clear hI
          simp only [patchS, Nat.reduceAdd, Nat.reduceEqDiff, ↓reduceIte] at hQo ⊢
          generalize xs 1 = y1 at *
          subst d1
          go_wp2_with (refine wpList_iload 31 _ rfl rfl (p0.ext hG) (k * 16) 16 rfl _ Tryd.underlying31 rfl size_A16 (by rw [Hl.out]; omega) _ rfl ?_)
          exact hK.out _ _ ⟨rfl, hG, fun _ _ _ _ _ _ h => h⟩
        · intro kx xs wx hk hG hD hI Qo Kx hK hQo
          clear hD
          clear hI
          simp only [patchS, Nat.reduceAdd, Nat.reduceEqDiff, ↓reduceIte] at hQo ⊢
          go_wp2
          exact hK.out _ _ ⟨rfl, hG, fun _ _ _ _ _ _ h => h⟩
        · intro kx xs wx hk hG hD hI Qo Kx hK hQo
          have d3 : (xs 3) = .int .i64 k := hD 3 rfl
          clear hD
          clear hI
          simp only [patchS, Nat.reduceAdd, Nat.reduceEqDiff, ↓reduceIte] at hQo ⊢
          generalize xs 3 = y3 at *
          subst d3
          go_wp2
          exact hK.out _ _ ⟨rfl, hG, fun _ _ _ _ _ _ h => h⟩
        · intro kx xs wx hk hG hD hI Qo Kx hK hQo
          have d4 : (xs 4) = .pointer (some ⟨w.heap.size + 1, k * 16, none⟩) := hD 4 rfl
          clear hD
          clear hI
          simp only [patchS, Nat.reduceAdd, Nat.reduceEqDiff, ↓reduceIte] at hQo ⊢
          generalize xs 4 = y4 at *
          subst d4
          go_wp2_with (refine wpList_iload 31 _ rfl rfl (q0.ext hG) (k * 16) 16 rfl _ Tryd.underlying31 rfl size_A16 (by rw [Hl.out]; omega) _ rfl ?_)
          exact hK.out _ _ ⟨rfl, hG, fun _ _ _ _ _ _ h => h⟩
        · intro kx xs wx hk hG hD hI Qo Kx hK hQo
          have d2 : (xs 2) = .agg (ic (sub zs (k * 16) 16)) := hD 2 rfl
          have d5 : (xs 5) = .agg (ic (sub zs (k * 16) 16)) := hD 5 rfl
          clear hD
          clear hI
          simp only [patchS, Nat.reduceAdd, Nat.reduceEqDiff, ↓reduceIte] at hQo ⊢
          generalize xs 2 = y2 at *
          generalize xs 5 = y5 at *
          subst d2
          subst d5
          go_wp2_with fail
          refine (eqIntA16_same _ _ Hsl.out).mono ?_
          rintro e w4 ⟨rfl, e4⟩
          go_wp2
          exact hK.out _ _ ⟨rfl, hG.trans e4, fun i _ _ _ own ys h => Hext.out i own ys _ _ e4 h⟩
        · intro kx xs wx hk hG hD hI Qo Kx hK hQo
          have d6 : (xs 6) = .bool true := hD 6 rfl
          clear hD
          clear hI
          simp only [patchS, Nat.reduceAdd, Nat.reduceEqDiff, ↓reduceIte] at hQo ⊢
          generalize xs 6 = y6 at *
          subst d6
          go_wp2
          exact hK.out _ _ ⟨rfl, hG, fun _ _ _ _ _ _ h => h⟩
      clear Hext
      intro xs wx hV hG
      have d0 : (xs 0) = .int .i64 k := hV 0 (by decide)
      have d1 : (xs 1) = .pointer (some ⟨w.heap.size, k * 16, none⟩) := hV 1 (by decide)
      have d2 : (xs 2) = .agg (ic (sub zs (k * 16) 16)) := hV 2 (by decide)
      have d3 : (xs 3) = .int .i64 k := hV 3 (by decide)
      have d4 : (xs 4) = .pointer (some ⟨w.heap.size + 1, k * 16, none⟩) := hV 4 (by decide)
      have d5 : (xs 5) = .agg (ic (sub zs (k * 16) 16)) := hV 5 (by decide)
      have d6 : (xs 6) = .bool true := hV 6 (by decide)
      have d7 : (xs 7) = .bool false := hV 7 (by decide)
      clear hV
      simp only [patchS, Nat.reduceAdd, Nat.reduceEqDiff, ↓reduceIte]
      generalize xs 0 = y0 at *
      generalize xs 1 = y1 at *
      generalize xs 2 = y2 at *
      generalize xs 3 = y3 at *
      generalize xs 4 = y4 at *
      generalize xs 5 = y5 at *
      generalize xs 6 = y6 at *
      generalize xs 7 = y7 at *
      replace hG : Ext w1 wx := hG
      clear d0 d1 d2 d3 d4 d5 d6
      subst d7
      go_wp2
      go_roundw
      case rel => exact ⟨k + 1, by omega, by go_num, hG⟩
      case measure => simp [intOf]; omega
    · obtain rfl : k = 4 := by omega
      go_wp2
      go_ret
      exact ⟨rfl, E0.trans E1⟩
set_option maxRecDepth 100000 in
theorem eqMacro_same (m : Mac) (w : World) (hm : m.ok) :
    Calls Tryd.prog 26 #[.agg (ic m.zs), .agg (ic m.zs)] w fun e w' => e = .returned (.bool true) ∧ Ext w w' := by
  have p0 := (IB.new w 34 m.zs).alloc (.cells (ic m.zs) 34)
  have q0 := IB.new (w.alloc (.cells (ic m.zs) 34)) 34 m.zs
  have E0 := (Ext.alloc w (.cells (ic m.zs) 34)).trans (Ext.alloc _ (.cells (ic m.zs) 34))
  simp only [World.size_alloc] at q0
  have Hl := Lib.hid (Mac.zs_len hm)
  have Hm := Lib.hid hm
  have k0 := p0.cell (i := 0) (by rw [Hl.out]; omega)
  have j0 := q0.cell (i := 0) (by rw [Hl.out]; omega)
  rw [Mac.zs_kind] at k0 j0
  clear hm
  go_enter Tryd.func26, Tryd.ntmps26
  go_wp2_with (first | (refine wpList_iload 27 _ rfl rfl p0 1 2 rfl _ Tryd.underlying27 rfl size_Vector (by rw [Hl.out]; omega) _ Mac.zs_mv ?_) | (refine wpList_iload 27 _ rfl rfl q0 1 2 rfl _ Tryd.underlying27 rfl size_Vector (by rw [Hl.out]; omega) _ Mac.zs_mv ?_))
  refine (eqVector_same _ _ _).mono ?_
  rintro e w1 ⟨rfl, e1⟩
  have p1 := p0.ext e1
  have q1 := q0.ext e1
  have E1 := E0.trans e1
  clear p0 q0 E0 e1 k0 j0
  go_wp2_with (first | (refine wpList_iload 30 _ rfl rfl p1 3 4 rfl _ Tryd.underlying30 rfl size_A4 (by rw [Hl.out]; omega) _ (by rw [Mac.zs_modes Hm.out]) ?_) | (refine wpList_iload 30 _ rfl rfl q1 3 4 rfl _ Tryd.underlying30 rfl size_A4 (by rw [Hl.out]; omega) _ (by rw [Mac.zs_modes Hm.out]) ?_))
  refine (eqIntA4_same _ _ Hm.out.modes).mono ?_
  rintro e w2 ⟨rfl, e2⟩
  have p2 := p1.ext e2
  have q2 := q1.ext e2
  have E2 := E1.trans e2
  clear p1 q1 E1 e2
  go_wp2_with (first | (refine wpList_iload 32 _ rfl rfl p2 7 64 rfl _ Tryd.underlying32 rfl size_A16A4 (by rw [Hl.out]; omega) _ (by rw [Mac.zs_lv Hm.out]) ?_) | (refine wpList_iload 32 _ rfl rfl q2 7 64 rfl _ Tryd.underlying32 rfl size_A16A4 (by rw [Hl.out]; omega) _ (by rw [Mac.zs_lv Hm.out]) ?_))
  refine (eqIntA16A4_same _ _ Hm.out.lv).mono ?_
  rintro e w3 ⟨rfl, e3⟩
  go_wp2
  go_ret
  exact ⟨rfl, E2.trans e3⟩
end Go.Proofs.YtbnhaegidfbgbaaDoor
