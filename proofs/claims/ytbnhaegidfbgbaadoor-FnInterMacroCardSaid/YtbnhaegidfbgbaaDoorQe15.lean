/- Reconstruct, both sides. -/
import Derived.Test.YtbnhaegidfbgbaaDoorQe14
namespace Go.Proofs.YtbnhaegidfbgbaaDoor
open Go.RowKit
set_option maxHeartbeats 1000000
/-- The reconstructed picture. -/
noncomputable def recP (ref p : Pic) (x y : Int) (m : Mac) (q top : Int) : Pic := if okR ref p x y m q top then ⟨p.w, p.h, bldS ref p x.toNat y.toNat m q.toNat top 4⟩ else pic0
theorem recP_yes {ref p : Pic} {x y : Int} {m : Mac} {q top : Int} (h : okR ref p x y m q top) : recP ref p x y m q top = ⟨p.w, p.h, bldS ref p x.toNat y.toNat m q.toNat top 4⟩ := if_pos h
theorem kind3 {m : Mac} (hv : m.valid) (h : ¬ m.kind = 2) : m.kind = 0 ∨ m.kind = 1 := by have := hv.1; omega
theorem okR_ref {ref p : Pic} {x y : Int} {m : Mac} {q top : Int} (h : okR ref p x y m q top) (hk : ¬ m.kind = 2) : ref.valid := (h.2.2.2.2.resolve_left hk).1
theorem rebuild_any (ref : Pic) (W H x y : Nat) (px : List Int) (m : Mac) (q : Nat) (top : Int) (ra : Option Addr) (rn rc base g n c : Nat) (w : World) (hT : TabQ w) (hbT : 0 < base) (own : w.ownsRow base 3 1 (.slice (some ⟨g, 0, none⟩) n c) n (px.map (Value.int .i64)))
    (hp : placeP ⟨W, H, px⟩ x y) (hm : m.ok) (hv : m.valid) (hq : q < 16) (hrv : ¬ m.kind = 2 → ref.valid) (hrn : rn = ref.px.length) (hr : Sl w ra rn (ref.px.map (Value.int .i64))) (hrg : ¬ m.kind = 2 → ∀ z, ra = some z → z.block ≠ g) :
    Calls Tryd.prog 56 #[.agg #[.int .i64 W, .int .i64 H, .slice (some ⟨g, 0, none⟩) n c], .agg #[.int .i64 ref.w, .int .i64 ref.h, .slice ra rn rc], .int .i64 (x : Nat), .int .i64 (y : Nat), .agg (ic m.zs), .int .i64 q, .int .i64 top] w fun e w' => e = .returned (.tuple #[]) ∧ w'.ownsRow base 3 1 (.slice (some ⟨g, 0, none⟩) n c) n ((bldS ref ⟨W, H, px⟩ x y m q top 4).map (Value.int .i64)) ∧ w.grownBy w' (some g) := by
  by_cases hk : m.kind = 2
  · exact rebuild_I ref W H x y px m q top ra rn rc base g n c w hT hbT own hp hm hv hq hk
  · rcases kind3 hv hk with h | h
    · exact rebuild_S ref W H x y px m q top ra rn rc base g n c w hT hbT own hp hm hv hq h (hrv hk) hrn hr (hrg hk)
    · exact rebuild_P ref W H x y px m q top ra rn rc base g n c w hT hbT own hp hm hv hq h (hrv hk) hrn hr (hrg hk)
set_option maxRecDepth 100000 in
theorem impl_Reconstruct_no (ref p : Pic) (x y : Int) (m : Mac) (q top : Int) (a b : Option Addr) (c d n l : Nat) (w : World) (hT : TabQ w) (hn : n = ref.px.length) (hl : l = p.px.length) (nc : n ≤ 9223372036854775807) (lc : l ≤ 9223372036854775807) (r : Sl w a n (ref.px.map (Value.int .i64))) (s : Sl w b l (p.px.map (Value.int .i64))) (hm : m.ok) (ho : ¬ okR ref p x y m q top) :
    Calls Tryd.prog 13 #[.agg #[.int .i64 ref.w, .int .i64 ref.h, .slice a n c], .agg #[.int .i64 p.w, .int .i64 p.h, .slice b l d], .int .i64 x, .int .i64 y, .agg (ic m.zs), .int .i64 q, .int .i64 top] w fun e w' => e = .returned (.agg #[.int .i64 0, .int .i64 0, .slice none 0 0]) ∧ Ext w w' := by
  have Hn := Lib.hid hn
  have HL := Lib.hid hl
  have Hm := Lib.hid hm
  have Hl := Lib.hid (Mac.zs_len hm)
  have HO := Lib.hid (show decide (okR ref p x y m q top) = false from decide_eq_false ho)
  clear hn hl hm ho
  have a2 := Ext.alloc (w.alloc (.cells #[.int .i64 ref.w, .int .i64 ref.h, .slice a n c] 25)) (.cells #[.int .i64 p.w, .int .i64 p.h, .slice b l d] 25)
  have a3 := Ext.alloc ((w.alloc (.cells #[.int .i64 ref.w, .int .i64 ref.h, .slice a n c] 25)).alloc (.cells #[.int .i64 p.w, .int .i64 p.h, .slice b l d] 25)) (.cells (ic m.zs) 34)
  have a4 := Ext.alloc (((w.alloc (.cells #[.int .i64 ref.w, .int .i64 ref.h, .slice a n c] 25)).alloc (.cells #[.int .i64 p.w, .int .i64 p.h, .slice b l d] 25)).alloc (.cells (ic m.zs) 34)) (.cells #[.int .i64 0, .int .i64 0, .slice none 0 0] 25)
  have p0 := a4.blk (a3.blk (a2.blk (blk_new w (.cells #[.int .i64 ref.w, .int .i64 ref.h, .slice a n c] 25))))
  have p1 := a4.blk (a3.blk (blk_new (w.alloc (.cells #[.int .i64 ref.w, .int .i64 ref.h, .slice a n c] 25)) (.cells #[.int .i64 p.w, .int .i64 p.h, .slice b l d] 25)))
  have p2 := (IB.new ((w.alloc (.cells #[.int .i64 ref.w, .int .i64 ref.h, .slice a n c] 25)).alloc (.cells #[.int .i64 p.w, .int .i64 p.h, .slice b l d] 25)) 34 m.zs).ext a4
  have p3 := blk_new (((w.alloc (.cells #[.int .i64 ref.w, .int .i64 ref.h, .slice a n c] 25)).alloc (.cells #[.int .i64 p.w, .int .i64 p.h, .slice b l d] 25)).alloc (.cells (ic m.zs) 34)) (.cells #[.int .i64 0, .int .i64 0, .slice none 0 0] 25)
  have E0 := (((Ext.alloc w (.cells #[.int .i64 ref.w, .int .i64 ref.h, .slice a n c] 25)).trans a2).trans a3).trans a4
  simp only [World.size_alloc] at p1 p2 p3
  clear a2 a3 a4
  obtain ⟨-, i0, i1, i2, -⟩ := bx3 p0
  obtain ⟨-, j0, j1, j2, -⟩ := bx3 p1
  go_enter Tryd.func13, Tryd.ntmps13
  go_wp2_with (refine wpList_iload 34 _ rfl rfl p2 0 71 rfl _ Tryd.underlying34 rfl size_Macro (by rw [Hl.out]; omega) _ (by rw [sub_all _ _ Hl.out]) ?_)
  refine (reconstructs_any ref p x y m q top a b c d n l _ Hn.out HL.out nc lc (r.ext E0) (s.ext E0) Hm.out).mono ?_
  rw [HO.out]
  rintro e w1 ⟨rfl, e1⟩
  have r1 := e1.blk p3
  have E1 := E0.trans e1
  clear p0 p1 p2 p3 E0 e1 i0 i1 i2 j0 j1 j2
  obtain ⟨-, s0, s1, s2, f0, f1, f2⟩ := bx3 r1
  have hb1 := lt_of_block r1
  have hres := blk_set3 (x' := .int .i64 0) (y' := .int .i64 0) (z' := .slice none 0 0) r1
  have hext := Ext.grown (Ext.grown (Ext.grown E1 (gr_set _ (w.heap.size + 1 + 1 + 1) 0 (.int .i64 0)) (fun k e => by cases e; omega)) (gr_set _ (w.heap.size + 1 + 1 + 1) 1 (.int .i64 0)) (fun k e => by cases e; omega)) (gr_set _ (w.heap.size + 1 + 1 + 1) 2 (.slice none 0 0)) (fun k e => by cases e; omega)
  go_wp2
  exact bodyPost_ret (v := .agg #[.int .i64 0, .int .i64 0, .slice none 0 0]) (results_cell_row rfl _ _ (w.heap.size + 1 + 1 + 1) 25 #[.int .i64 0, .int .i64 0, .slice none 0 0] (0, 0) _ rfl hres Tryd.underlying25 rfl size_Picture) rfl ⟨rfl, hext⟩
set_option maxRecDepth 100000 in
theorem impl_Reconstruct_yes (ref : Pic) (W H x y : Nat) (px : List Int) (m : Mac) (q : Nat) (top : Int) (a b : Option Addr) (c d n l : Nat) (w : World) (hT : TabQ w) (hn : n = ref.px.length) (hl : l = px.length) (nc : n ≤ 9223372036854775807) (r : Sl w a n (ref.px.map (Value.int .i64))) (s : Sl w b l (px.map (Value.int .i64))) (hm : m.ok) (ho : okR ref ⟨W, H, px⟩ x y m q top) :
    Calls Tryd.prog 13 #[.agg #[.int .i64 ref.w, .int .i64 ref.h, .slice a n c], .agg #[.int .i64 W, .int .i64 H, .slice b l d], .int .i64 (x : Nat), .int .i64 (y : Nat), .agg (ic m.zs), .int .i64 q, .int .i64 top] w fun e w' => ∃ a' c', e = .returned (.agg #[.int .i64 W, .int .i64 H, .slice a' l c']) ∧ w'.ownsRow w.heap.size 3 1 (.slice a' l c') l ((bldS ref ⟨W, H, px⟩ x y m q top 4).map (Value.int .i64)) ∧ Ext w w' := by
  have hlen := Pic.len_le ho.1.1
  simp only at hlen
  rw [← hl] at hlen
  have Hn := Lib.hid hn
  have HL := Lib.hid hl
  have Hm := Lib.hid hm
  have Hl := Lib.hid (Mac.zs_len hm)
  have Hok := Lib.hid ho
  have HO := Lib.hid (show decide (okR ref ⟨W, H, px⟩ x y m q top) = true from decide_eq_true ho)
  have hq : q < 16 := by have := ho.2.2.1; omega
  have ht0 : 0 ≤ top := ho.2.2.2.1.1
  clear hn hl hm ho
  have a2 := Ext.alloc (w.alloc (.cells #[.int .i64 ref.w, .int .i64 ref.h, .slice a n c] 25)) (.cells #[.int .i64 W, .int .i64 H, .slice b l d] 25)
  have a3 := Ext.alloc ((w.alloc (.cells #[.int .i64 ref.w, .int .i64 ref.h, .slice a n c] 25)).alloc (.cells #[.int .i64 W, .int .i64 H, .slice b l d] 25)) (.cells (ic m.zs) 34)
  have a4 := Ext.alloc (((w.alloc (.cells #[.int .i64 ref.w, .int .i64 ref.h, .slice a n c] 25)).alloc (.cells #[.int .i64 W, .int .i64 H, .slice b l d] 25)).alloc (.cells (ic m.zs) 34)) (.cells #[.int .i64 0, .int .i64 0, .slice none 0 0] 25)
  have p0 := a4.blk (a3.blk (a2.blk (blk_new w (.cells #[.int .i64 ref.w, .int .i64 ref.h, .slice a n c] 25))))
  have p1 := a4.blk (a3.blk (blk_new (w.alloc (.cells #[.int .i64 ref.w, .int .i64 ref.h, .slice a n c] 25)) (.cells #[.int .i64 W, .int .i64 H, .slice b l d] 25)))
  have p2 := (IB.new ((w.alloc (.cells #[.int .i64 ref.w, .int .i64 ref.h, .slice a n c] 25)).alloc (.cells #[.int .i64 W, .int .i64 H, .slice b l d] 25)) 34 m.zs).ext a4
  have p3 := blk_new (((w.alloc (.cells #[.int .i64 ref.w, .int .i64 ref.h, .slice a n c] 25)).alloc (.cells #[.int .i64 W, .int .i64 H, .slice b l d] 25)).alloc (.cells (ic m.zs) 34)) (.cells #[.int .i64 0, .int .i64 0, .slice none 0 0] 25)
  have E0 := (((Ext.alloc w (.cells #[.int .i64 ref.w, .int .i64 ref.h, .slice a n c] 25)).trans a2).trans a3).trans a4
  simp only [World.size_alloc] at p1 p2 p3
  clear a2 a3 a4
  obtain ⟨-, i0, i1, i2, -⟩ := bx3 p0
  obtain ⟨-, j0, j1, j2, -⟩ := bx3 p1
  go_enter Tryd.func13, Tryd.ntmps13
  go_wp2_with (refine wpList_iload 34 _ rfl rfl p2 0 71 rfl _ Tryd.underlying34 rfl size_Macro (by rw [Hl.out]; omega) _ (by rw [sub_all _ _ Hl.out]) ?_)
  refine (reconstructs_any ref ⟨W, H, px⟩ x y m q top a b c d n l _ Hn.out HL.out nc (by omega) (r.ext E0) (s.ext E0) Hm.out).mono ?_
  rw [HO.out]
  rintro e w1 ⟨rfl, e1⟩
  have q0 := e1.blk p0
  have q1 := e1.blk p1
  have q2 := p2.ext e1
  have q3 := e1.blk p3
  have E1 := E0.trans e1
  clear p0 p1 p2 p3 E0 e1 i0 i1 i2 j0 j1 j2
  obtain ⟨B, hB⟩ : ∃ B, B = w.heap.size := ⟨_, rfl⟩
  try simp only [World.size_alloc]
  rw [← hB] at q0 q1 q2 q3 ⊢
  have hwB : w.heap.size ≤ B := by omega
  have HB := Lib.hid hB
  clear hB
  obtain ⟨-, i0, i1, i2, -⟩ := bx3 q0
  obtain ⟨-, j0, j1, j2, -⟩ := bx3 q1
  have hb1 := lt_of_block q3
  go_wp2_with fail
  refine (clone_any W H b d l px _ (by omega) (s.ext E1)).mono ?_
  rintro e wa ⟨a1, c1, rfl, own1, e2⟩
  have r0 := e2.blk q0
  have r1 := e2.blk q1
  have r2 := q2.ext e2
  have r3 := e2.blk q3
  have E2 := E1.trans e2
  clear q0 q1 q2 q3 E1 e2 i0 i1 i2 j0 j1 j2
  have hgo : ∃ g, a1 = some ⟨g, 0, none⟩ ∧ g < wa.heap.size ∧ w1.heap.size ≤ g := by
    rcases own1.2 with ⟨-, h0⟩ | ⟨g, cc, cur, hv, hb, hb2, -⟩
    · omega
    · simp only [Value.slice.injEq] at hv
      exact ⟨g, hv.1, lt_of_block hb2, hb⟩
  obtain ⟨g, rfl, hg1, hg2⟩ := hgo
  have a5 := Ext.alloc wa (.cells #[.int .i64 W, .int .i64 H, .slice (some ⟨g, 0, none⟩) l c1] 25)
  have z0 := a5.blk r0
  have z1 := a5.blk r1
  have z2 := r2.ext a5
  have z3 := a5.blk r3
  have z4 := blk_new wa (.cells #[.int .i64 W, .int .i64 H, .slice (some ⟨g, 0, none⟩) l c1] 25)
  have own2 := owns_ext own1 a5
  have E3 := E2.trans a5
  have hO := lt_of_block r3
  obtain ⟨O, hOe⟩ : ∃ O, O = wa.heap.size := ⟨_, rfl⟩
  rw [← hOe] at z4 hg1 hO
  have HO2 := Lib.hid hOe
  clear r0 r1 r2 r3 own1 E2 a5
  obtain ⟨-, i0, i1, i2, -⟩ := bx3 z0
  obtain ⟨-, o0, o1, o2, -⟩ := bx3 z4
  have hOlt := lt_of_block z4
  go_upto_region 4 with fail
  rw [← hOe]
  clear hOe
  generalize wa.alloc (.cells #[.int .i64 W, .int .i64 H, .slice (some ⟨g, 0, none⟩) l c1] 25) = w2 at *
  go_wp2_with (refine wpList_iload 34 _ rfl rfl z2 0 71 rfl _ Tryd.underlying34 rfl size_Macro (by rw [Hl.out]; omega) _ (by rw [sub_all _ _ Hl.out]) ?_)
  have hT0 := World.block_lt_of_cell? w _ (hT 0 (by omega))
  have hrz : ¬ m.kind = 2 → ∀ z, a = some z → z.block ≠ g := fun hk z hz => by
    have h9 := Pic.len_le (okR_ref Hok.out hk)
    rw [← Hn.out] at h9
    have := sl_bound r z hz (by omega)
    omega
  refine (rebuild_any ref W H x y px m q top a n c w1.heap.size g l c1 _ (hT.ext E3) (by simp only at hT0; omega) own2 Hok.out.1 Hm.out Hok.out.2.1 hq (fun hk => okR_ref Hok.out hk) Hn.out (r.ext E3) hrz).mono ?_
  rintro e w3 ⟨rfl, own3, g3⟩
  have y3 := blk_gr z3 g3 (by simp; omega)
  have y4 := blk_gr z4 g3 (by simp; omega)
  have hs1 : B ≤ w1.heap.size := by omega
  have E4 : Ext w w3 := Ext.grown E3 g3 (fun k e => by cases e; omega)
  clear z0 z1 z2 z3 z4 own2 E3 g3 i0 i1 i2 o0 o1 o2
  obtain ⟨-, o0, o1, o2, -⟩ := bx3 y4
  obtain ⟨-, r0, r1, r2, f0, f1, f2⟩ := bx3 y3
  have Y3 := Lib.hid y3
  clear y3 y4
  go_wp2
  have hres := blk_set3 (x' := .int .i64 W) (y' := .int .i64 H) (z' := .slice (some ⟨g, 0, none⟩) l c1) Y3.out
  have hown := own_gr (own_gr (own_gr own3 (gr_set _ (B + 1 + 1 + 1) 0 (.int .i64 W)) (by omega)) (gr_set _ (B + 1 + 1 + 1) 1 (.int .i64 H)) (by omega)) (gr_set _ (B + 1 + 1 + 1) 2 (.slice (some ⟨g, 0, none⟩) l c1)) (by omega)
  have hext := Ext.grown (Ext.grown (Ext.grown E4 (gr_set _ (B + 1 + 1 + 1) 0 (.int .i64 W)) (fun k e => by cases e; omega)) (gr_set _ (B + 1 + 1 + 1) 1 (.int .i64 H)) (fun k e => by cases e; omega)) (gr_set _ (B + 1 + 1 + 1) 2 (.slice (some ⟨g, 0, none⟩) l c1)) (fun k e => by cases e; omega)
  exact bodyPost_ret (v := .agg #[.int .i64 W, .int .i64 H, .slice (some ⟨g, 0, none⟩) l c1]) (results_cell_row rfl _ _ (B + 1 + 1 + 1) 25 #[.int .i64 W, .int .i64 H, .slice (some ⟨g, 0, none⟩) l c1] (0, 0) _ rfl hres Tryd.underlying25 rfl size_Picture) rfl ⟨_, _, rfl, owns_mono hown (by omega), hext⟩
theorem impl_Reconstruct_any (ref p : Pic) (x y : Int) (m : Mac) (q top : Int) (a b : Option Addr) (c d n l : Nat) (w : World) (hT : TabQ w) (hn : n = ref.px.length) (hl : l = p.px.length) (nc : n ≤ 9223372036854775807) (lc : l ≤ 9223372036854775807) (r : Sl w a n (ref.px.map (Value.int .i64))) (s : Sl w b l (p.px.map (Value.int .i64))) (hm : m.ok) :
    Calls Tryd.prog 13 #[.agg #[.int .i64 ref.w, .int .i64 ref.h, .slice a n c], .agg #[.int .i64 p.w, .int .i64 p.h, .slice b l d], .int .i64 x, .int .i64 y, .agg (ic m.zs), .int .i64 q, .int .i64 top] w fun e w' => ∃ a' c', e = .returned (.agg #[.int .i64 (recP ref p x y m q top).w, .int .i64 (recP ref p x y m q top).h, .slice a' (recP ref p x y m q top).px.length c']) ∧ w'.ownsRow w.heap.size 3 1 (.slice a' (recP ref p x y m q top).px.length c') (recP ref p x y m q top).px.length ((recP ref p x y m q top).px.map (Value.int .i64)) ∧ Ext w w' := by
  unfold recP
  by_cases ho : okR ref p x y m q top
  · rw [if_pos ho]
    obtain ⟨W, hW⟩ : ∃ W : Nat, p.w = W := ⟨p.w.toNat, by have := ho.1.1.1.1; omega⟩
    obtain ⟨H, hH⟩ : ∃ H : Nat, p.h = H := ⟨p.h.toNat, by have := ho.1.1.2.1.1; omega⟩
    obtain ⟨pw, ph, px⟩ := p
    simp only at hW hH hl s ho ⊢
    subst hW hH
    have x0 := ho.1.2.1
    have y0 := ho.1.2.2.2.2.1
    have q0 := ho.2.2.1.1
    have h2 := impl_Reconstruct_yes ref W H x.toNat y.toNat px m q.toNat top a b c d n l w hT hn hl nc r s hm (by rw [show ((x.toNat : Nat) : Int) = x by omega, show ((y.toNat : Nat) : Int) = y by omega, show ((q.toNat : Nat) : Int) = q by omega]; exact ho)
    rw [show ((x.toNat : Nat) : Int) = x by omega, show ((y.toNat : Nat) : Int) = y by omega, show ((q.toNat : Nat) : Int) = q by omega] at h2
    have hbl := bldS_len ref ⟨W, H, px⟩ x.toNat y.toNat m q.toNat top 4
    simp only at hbl
    simp only [hbl, ← hl]
    exact h2
  · rw [if_neg ho]
    refine (impl_Reconstruct_no ref p x y m q top a b c d n l w hT hn hl nc lc r s hm ho).mono ?_
    rintro e w' ⟨rfl, e1⟩
    exact ⟨none, 0, rfl, World.ownsRow_nil _ _ _ _, e1⟩
end Go.Proofs.YtbnhaegidfbgbaaDoor
