/- Deblock, both sides. -/
import Derived.Test.YtlmoeabchiddnaaDoorDl
import Derived.Test.YtlmoeabchiddnaaDoorDi
namespace Go.Proofs.YtlmoeabchiddnaaDoor
open Go.RowKit
set_option maxHeartbeats 1000000
attribute [local go_sem] Oper.semAt_some
/-- The filtered picture. -/
noncomputable def dbPic (p : Pic) (q : Int) : Pic := if p.valid ∧ 0 ≤ q ∧ q ≤ 15 then ⟨p.w, p.h, dbL (flim q.toNat) p.px (edgesL p.w.toNat p.h.toNat)⟩ else pic0
set_option maxRecDepth 100000 in
theorem spec_Deblock_yes (p : Pic) (q : Nat) (a : Option Addr) (c n : Nat) (w : World) (hv : p.valid) (hq : q < 16) (hn : n = p.px.length) (r : Sl w a n (p.px.map (Value.int .i64))) :
    Calls Tryd.prog 21 #[.agg #[.int .i64 p.w, .int .i64 p.h, .slice a n c], .int .i64 q] w fun e w' => ∃ a' c', e = .returned (.agg #[.int .i64 p.w, .int .i64 p.h, .slice a' n c']) ∧ w'.ownsRow w.heap.size 3 1 (.slice a' n c') n ((dbL (flim q) p.px (edgesL p.w.toNat p.h.toNat)).map (Value.int .i64)) ∧ Ext w w' := by
  obtain ⟨W, hW⟩ : ∃ W : Nat, p.w = W := ⟨p.w.toNat, by have := hv.1.1; omega⟩
  obtain ⟨H, hH⟩ : ∃ H : Nat, p.h = H := ⟨p.h.toNat, by have := hv.2.1.1; omega⟩
  have hlen := Pic.len_le hv
  have hnn : n = W * H := by
    have := hv.2.2.1
    rw [← hn, hW, hH, ← Int.natCast_mul] at this
    exact Int.ofNat.inj this
  have HV := Lib.hid (fun (w : World) (r : Sl w a n (p.px.map (Value.int .i64))) => spec_PictureValid_any p a c n w hn (by omega) r)
  rw [decide_eq_true hv] at HV
  have hs1 := hv.1
  have hs2 := hv.2.1
  rw [hW] at hs1
  rw [hH] at hs2
  have HF := Lib.hid (fun (w : World) (r : Sl w a n (p.px.map (Value.int .i64))) => l12Filter_in W H n q a c p.px w hs1 hs2 hnn hv.2.2.2 r hq)
  rw [hW, hH] at HV ⊢
  rw [Int.toNat_natCast, Int.toNat_natCast]
  obtain ⟨R, hR⟩ : ∃ R, R = dbL (flim q) p.px (edgesL W H) := ⟨_, rfl⟩
  rw [← hR] at HF ⊢
  have p0 := blk_alloc (blk_new w (.cells #[.int .i64 W, .int .i64 H, .slice a n c] 46)) (.cells #[.int .i64 0, .int .i64 0, .slice none 0 0] 46)
  have r0 := blk_new (w.alloc (.cells #[.int .i64 W, .int .i64 H, .slice a n c] 46)) (.cells #[.int .i64 0, .int .i64 0, .slice none 0 0] 46)
  have E0 := (Ext.alloc w (.cells #[.int .i64 W, .int .i64 H, .slice a n c] 46)).trans (Ext.alloc _ (.cells #[.int .i64 0, .int .i64 0, .slice none 0 0] 46))
  simp only [World.size_alloc] at r0
  have HH := Lib.hid hn
  clear hR hW hH hnn hn hv hs1 hs2 hlen
  go_enter Tryd.func21, Tryd.ntmps21
  go_wp2_with fail
  refine (HV.out _ (r.ext E0)).mono ?_
  rintro e w1 ⟨rfl, e1⟩
  have p1 := e1.blk p0
  have r1 := e1.blk r0
  have E1 := E0.trans e1
  clear p0 r0 E0 e1
  obtain ⟨-, b0, b1, b2, -⟩ := bx3 p1
  go_wp2_with fail
  refine (l1In_yes _ _ _ _ (by omega) (by omega)).mono ?_
  rintro e w2 ⟨rfl, rfl⟩
  go_wp2_with fail
  refine (HF.out _ (r.ext E1)).mono ?_
  rintro e w3 ⟨a3, c3, rfl, own3, e3⟩
  have E3 := E1.trans e3
  have r3 := e3.blk r1
  obtain ⟨-, s0, s1, s2, f0, f1, f2⟩ := bx3 r3
  have hb1 := lt_of_block r1
  have R3 := Lib.hid r3
  clear b0 b1 b2 p1 r1 E1 e3 r3
  go_wp2
  have hres := blk_set3 (x' := .int .i64 W) (y' := .int .i64 H) (z' := .slice a3 n c3) R3.out
  have hown := own_gr (own_gr (own_gr own3 (gr_set _ (w.heap.size + 1) 0 (.int .i64 W)) (by omega)) (gr_set _ (w.heap.size + 1) 1 (.int .i64 H)) (by omega)) (gr_set _ (w.heap.size + 1) 2 (.slice a3 n c3)) (by omega)
  have hext := Ext.grown (Ext.grown (Ext.grown E3 (gr_set _ (w.heap.size + 1) 0 (.int .i64 W)) (fun k e => by cases e; omega)) (gr_set _ (w.heap.size + 1) 1 (.int .i64 H)) (fun k e => by cases e; omega)) (gr_set _ (w.heap.size + 1) 2 (.slice a3 n c3)) (fun k e => by cases e; omega)
  exact bodyPost_ret (v := .agg #[.int .i64 W, .int .i64 H, .slice a3 n c3]) (results_cell_row rfl _ _ (w.heap.size + 1) 46 #[.int .i64 W, .int .i64 H, .slice a3 n c3] (0, 0) _ rfl hres Tryd.underlying46 rfl size_Picture) rfl ⟨_, _, rfl, owns_mono hown (by omega), hext⟩
set_option maxRecDepth 100000 in
theorem spec_Deblock_no (p : Pic) (q : Int) (a : Option Addr) (c n : Nat) (w : World) (hv : ¬ (p.valid ∧ 0 ≤ q ∧ q ≤ 15)) (hn : n = p.px.length) (hc : n ≤ 9223372036854775807) (r : Sl w a n (p.px.map (Value.int .i64))) :
    Calls Tryd.prog 21 #[.agg #[.int .i64 p.w, .int .i64 p.h, .slice a n c], .int .i64 q] w fun e w' => e = .returned (.agg #[.int .i64 0, .int .i64 0, .slice none 0 0]) ∧ Ext w w' := by
  have HV := Lib.hid (fun (w : World) (r : Sl w a n (p.px.map (Value.int .i64))) => spec_PictureValid_any p a c n w hn hc r)
  have p0 := blk_alloc (blk_new w (.cells #[.int .i64 p.w, .int .i64 p.h, .slice a n c] 46)) (.cells #[.int .i64 0, .int .i64 0, .slice none 0 0] 46)
  have r0 := blk_new (w.alloc (.cells #[.int .i64 p.w, .int .i64 p.h, .slice a n c] 46)) (.cells #[.int .i64 0, .int .i64 0, .slice none 0 0] 46)
  have E0 := (Ext.alloc w (.cells #[.int .i64 p.w, .int .i64 p.h, .slice a n c] 46)).trans (Ext.alloc _ (.cells #[.int .i64 0, .int .i64 0, .slice none 0 0] 46))
  simp only [World.size_alloc] at r0
  have HN := Lib.hid hn
  clear hn
  go_enter Tryd.func21, Tryd.ntmps21
  go_wp2_with fail
  refine (HV.out _ (r.ext E0)).mono ?_
  rintro e w1 ⟨rfl, e1⟩
  have p1 := e1.blk p0
  have r1 := e1.blk r0
  have E1 := E0.trans e1
  clear p0 r0 E0 e1
  obtain ⟨-, s0, s1, s2, f0, f1, f2⟩ := bx3 r1
  have hb1 := lt_of_block r1
  have hres := blk_set3 (x' := .int .i64 0) (y' := .int .i64 0) (z' := .slice none 0 0) r1
  have hext := Ext.grown (Ext.grown (Ext.grown E1 (gr_set _ (w.heap.size + 1) 0 (.int .i64 0)) (fun k e => by cases e; omega)) (gr_set _ (w.heap.size + 1) 1 (.int .i64 0)) (fun k e => by cases e; omega)) (gr_set _ (w.heap.size + 1) 2 (.slice none 0 0)) (fun k e => by cases e; omega)
  by_cases h1 : p.valid
  · rw [decide_eq_true h1]
    have hq : q < 0 ∨ 15 < q := by
      refine Classical.byContradiction fun hq => hv ⟨h1, by omega, by omega⟩
    clear hv h1 p1
    go_wp2_with fail
    refine (l1In_no _ _ _ _ (by omega)).mono ?_
    rintro e w2 ⟨rfl, rfl⟩
    go_wp2
    exact bodyPost_ret (v := .agg #[.int .i64 0, .int .i64 0, .slice none 0 0]) (results_cell_row rfl _ _ (w.heap.size + 1) 46 #[.int .i64 0, .int .i64 0, .slice none 0 0] (0, 0) _ rfl hres Tryd.underlying46 rfl size_Picture) rfl ⟨rfl, hext⟩
  · rw [decide_eq_false h1]
    clear hv h1 p1
    go_wp2
    exact bodyPost_ret (v := .agg #[.int .i64 0, .int .i64 0, .slice none 0 0]) (results_cell_row rfl _ _ (w.heap.size + 1) 46 #[.int .i64 0, .int .i64 0, .slice none 0 0] (0, 0) _ rfl hres Tryd.underlying46 rfl size_Picture) rfl ⟨rfl, hext⟩
theorem spec_Deblock_any (p : Pic) (q : Int) (a : Option Addr) (c n : Nat) (w : World) (hn : n = p.px.length) (hc : n ≤ 9223372036854775807) (r : Sl w a n (p.px.map (Value.int .i64))) :
    Calls Tryd.prog 21 #[.agg #[.int .i64 p.w, .int .i64 p.h, .slice a n c], .int .i64 q] w fun e w' => ∃ a' c', e = .returned (.agg #[.int .i64 (dbPic p q).w, .int .i64 (dbPic p q).h, .slice a' (dbPic p q).px.length c']) ∧ w'.ownsRow w.heap.size 3 1 (.slice a' (dbPic p q).px.length c') (dbPic p q).px.length ((dbPic p q).px.map (Value.int .i64)) ∧ Ext w w' := by
  unfold dbPic
  by_cases h : p.valid ∧ 0 ≤ q ∧ q ≤ 15
  · rw [if_pos h]
    have h2 := spec_Deblock_yes p q.toNat a c n w h.1 (by omega) hn r
    rw [show ((q.toNat : Nat) : Int) = q by omega] at h2
    simp only [dbL_len, ← hn]
    exact h2
  · rw [if_neg h]
    refine (spec_Deblock_no p q a c n w h hn hc r).mono ?_
    rintro e w' ⟨rfl, e1⟩
    exact ⟨none, 0, rfl, World.ownsRow_nil _ _ _ _, e1⟩
theorem DB.gr {w wx wy : World} {B O g W H n c0 c : Nat} {a : Option Addr} {Z : List Int} {row : Option Nat} (h : DB w B O g W H n c0 c a Z wx) (hg : wx.grownBy wy row) (hr : ∀ k, row = some k → O < k) : DB w B O g W H n c0 c a Z wy := by
  have h1 := h.gB
  have h2 := h.gO
  have h3 := h.wB
  refine ⟨Ext.grown h.ext hg (fun k e => by have := hr k e; omega), blk_gr h.box hg (fun e => by have := hr _ e; omega), blk_gr h.res hg (fun e => by have := hr _ e; omega), blk_gr h.out hg (fun e => by have := hr _ e; omega), h.own.kept hg (.inr ?_), h2, h3⟩
  intro e
  have := hr g e.symm
  omega
/-- The samples, the one or the other of two stores made. -/
def stZ (Z : List Int) (i1 : Nat) (v1 : Int) (i2 : Nat) (v2 : Int) (b1 b2 : Bool) : List Int := if b2 then (if b1 then Z.set i1 v1 else Z).set i2 v2 else (if b1 then Z.set i1 v1 else Z)
theorem stZ_one (Z : List Int) (i1 : Nat) (v1 : Int) (i2 : Nat) (v2 : Int) (b2 : Bool) (hne : i1 ≠ i2) : (stZ Z i1 v1 i2 v2 false b2).set i1 v1 = stZ Z i1 v1 i2 v2 true b2 := by
  cases b2
  · rfl
  · show (Z.set i2 v2).set i1 v1 = (Z.set i1 v1).set i2 v2
    exact List.set_comm _ _ (fun h => hne h.symm)
theorem stZ_two (Z : List Int) (i1 : Nat) (v1 : Int) (i2 : Nat) (v2 : Int) (b1 : Bool) : (stZ Z i1 v1 i2 v2 b1 false).set i2 v2 = stZ Z i1 v1 i2 v2 b1 true := rfl
/-- What holds in a round. -/
structure BG (w V : World) (B O g W H n c0 c : Nat) (a : Option Addr) (L : Int) (Z : List Int) (wx : World) : Prop where
  db : DB w B O g W H n c0 c a Z wx
  lim : wx.heap[O + 1]? = some (.cells #[.int .i64 L] 3 (0, 0))
  kf : KeepsFrom (O + 3) V wx
  kb : keepB (O + 2) V wx
theorem BG.drew {w V wx : World} {B O g W H n c0 c : Nat} {a : Option Addr} {L : Int} {Z : List Int} (h : BG w V B O g W H n c0 c a L Z wx) : BG w V B O g W H n c0 c a L Z wx.drew :=
  ⟨h.db.drew, h.lim, h.kf.trans ((KeepsOthers.drew _).from _), h.kb⟩
theorem BG.set {w V wx : World} {B O g W H n c0 c : Nat} {a : Option Addr} {L : Int} {Z : List Int} (h : BG w V B O g W H n c0 c a L Z wx) (i : Nat) (v : Int) : BG w V B O g W H n c0 c a L (Z.set i v) (wx.setCell ⟨g, i, none⟩ (.int .i64 v)) := by
  have h2 := h.db.gO
  refine ⟨h.db.set i v, blk_set_other h.lim (by omega), h.kf.trans ((KeepsOthers.setCell _ _ _).from _), h.kb.t ?_⟩
  exact Below.heap_setCell _ _ _ _ (by show O + 2 ≠ g; omega)
theorem BG.limc {w V wx : World} {B O g W H n c0 c : Nat} {a : Option Addr} {L : Int} {Z : List Int} (h : BG w V B O g W H n c0 c a L Z wx) : wx.cell? ⟨O + 1, 0, none⟩ = some (.int .i64 L) := (bx1 h.lim).2.1
theorem qualityValid_no (q : Int) (w : World) (h : q < 0 ∨ 15 < q) :
    Calls Tryd.prog 68 #[.int .i64 q] w fun e w' => e = .returned (.bool false) ∧ w = w' := by
  by_cases h1 : 0 ≤ q
  · have d1 : decide (0 ≤ q) = true := by simpa using h1
    have d2 : decide (q ≤ 15) = false := by simp; omega
    go_enter Tryd.func68, Tryd.ntmps68
    go_wp2
    go_ret
    exact ⟨rfl, rfl⟩
  · have d1 : decide (0 ≤ q) = false := by simpa using h1
    go_enter Tryd.func68, Tryd.ntmps68
    go_wp2
    go_ret
    exact ⟨rfl, rfl⟩
set_option maxRecDepth 100000 in
set_option maxHeartbeats 2000000 in
theorem impl_Deblock_in (W H n q : Nat) (a : Option Addr) (c : Nat) (zs : List Int) (w : World) (hT : TabQ w) (hw : side W) (hh : side H) (hn : n = W * H) (hz : smp zs) (r : Sl w a n (zs.map (Value.int .i64))) (hq : q < 16) :
    Calls Tryd.prog 23 #[.agg #[.int .i64 W, .int .i64 H, .slice a n c], .int .i64 q] w fun e w' => ∃ a' c', e = .returned (.agg #[.int .i64 W, .int .i64 H, .slice a' n c']) ∧ w'.ownsRow w.heap.size 3 1 (.slice a' n c') n ((dbL (flim q) zs (edgesL W H)).map (Value.int .i64)) ∧ Ext w w' := by
  have hL := flim_rng hq
  have hp := area_le hw hh
  have hzl := r.int_len
  have hnI : (n : Int) = (W : Int) * (H : Int) := by rw [hn]; simp
  have hn1 : 64 ≤ n ∧ n ≤ 1024 := by omega
  have HV := Lib.hid (fun (w : World) (r : Sl w a n (zs.map (Value.int .i64))) => impl_PictureValid_any ⟨W, H, zs⟩ a c n w hzl.symm (by omega) r)
  rw [decide_eq_true (show Pic.valid ⟨W, H, zs⟩ from ⟨hw, hh, by rw [hzl]; exact hnI, hz⟩)] at HV
  obtain ⟨w1, w2, w3⟩ := hw
  obtain ⟨h1, h2, h3⟩ := hh
  have hw4 := Lib.hid (show W % 4 = 0 by omega)
  have hh4 := Lib.hid (show H % 4 = 0 by omega)
  have Hn := Lib.hid hn
  have HZ := Lib.hid hz
  have HLF := Lib.hid (fun (w : World) (hT : TabQ w) => impl_FilterLimit_in q w hT hq)
  generalize flim q = L at *
  clear hn hz hnI hp w3 h3 hzl
  have p0 := blk_alloc (blk_new w (.cells #[.int .i64 W, .int .i64 H, .slice a n c] 46)) (.cells #[.int .i64 0, .int .i64 0, .slice none 0 0] 46)
  have r0 := blk_new (w.alloc (.cells #[.int .i64 W, .int .i64 H, .slice a n c] 46)) (.cells #[.int .i64 0, .int .i64 0, .slice none 0 0] 46)
  have E0 := (Ext.alloc w (.cells #[.int .i64 W, .int .i64 H, .slice a n c] 46)).trans (Ext.alloc _ (.cells #[.int .i64 0, .int .i64 0, .slice none 0 0] 46))
  simp only [World.size_alloc] at r0
  refine calls_of_marks 4 Tryd.func23 rfl ?_
  simp only [Tryd.ntmps23, List.size_toArray, List.length_cons, List.length_nil, Nat.reduceAdd, Nat.reduceSub, Array.replicate_succ, Array.replicate_zero, List.push_toArray, List.append_toArray, List.nil_append, List.cons_append]
  go_wp2_with fail
  refine (HV.out _ (r.ext E0)).mono ?_
  rintro e wv ⟨rfl, ev⟩
  have p1 := ev.blk p0
  have r1 := ev.blk r0
  have E1 := E0.trans ev
  clear p0 r0 E0 ev
  obtain ⟨-, b0, b1, b2, -⟩ := bx3 p1
  go_wp2_with fail
  refine (qualityValid_in _ _ (by omega) (by omega)).mono ?_
  rintro e w2' ⟨rfl, rfl⟩
  go_wp2_with fail
  refine (clone_any W H a c n zs _ (by omega) (r.ext E1)).mono ?_
  rintro e wa ⟨a1, c1, rfl, own1, e1⟩
  have E2 := E1.trans e1
  have p2 := e1.blk p1
  have r2 := e1.blk r1
  have hbs := lt_of_block r1
  clear p1 r1 E1 b0 b1 b2 e1
  go_wp2_with fail
  refine (HLF.out _ (hT.ext E2)).mono ?_
  rintro e wl ⟨rfl, rfl⟩
  obtain ⟨O, hO⟩ : ∃ O, O = wa.heap.size := ⟨_, rfl⟩
  have hgo : ∃ g, a1 = some ⟨g, 0, none⟩ ∧ g < O := by
    rcases own1.2 with ⟨-, h0⟩ | ⟨g, cc, cur, hv, -, hb, -⟩
    · omega
    · simp only [Value.slice.injEq] at hv
      exact ⟨g, hv.1, by rw [hO]; exact lt_of_block hb⟩
  obtain ⟨g, rfl, hgO⟩ := hgo
  obtain ⟨B, hB⟩ : ∃ B, B = w.heap.size := ⟨_, rfl⟩
  have D0 : DB w B O g W H n c c1 a zs ((wa.alloc (.cells #[.int .i64 W, .int .i64 H, .slice (some ⟨g, 0, none⟩) n c1] 46)).alloc (.cells #[.int .i64 L] 3)) := by
    subst hB hO
    exact DB.ex ⟨E2.trans (Ext.alloc _ _), blk_alloc p2 _, blk_alloc r2 _, blk_new _ _, owns_mono (owns_ext own1 (Ext.alloc _ _)) (by omega), hgO, Nat.le_refl _⟩ (Ext.alloc _ _)
  have L0 := blk_new (wa.alloc (.cells #[.int .i64 W, .int .i64 H, .slice (some ⟨g, 0, none⟩) n c1] 46)) (.cells #[.int .i64 L] 3)
  rw [World.size_alloc, ← hO] at L0
  have hs0 : ((wa.alloc (.cells #[.int .i64 W, .int .i64 H, .slice (some ⟨g, 0, none⟩) n c1] 46)).alloc (.cells #[.int .i64 L] 3)).heap.size = O + 2 := by simp [hO]
  clear own1 p2 r2 E2
  go_wp2_with fail
  rw [← hB, ← hO]
  generalize (wa.alloc (.cells #[.int .i64 W, .int .i64 H, .slice (some ⟨g, 0, none⟩) n c1] 46)).alloc (.cells #[.int .i64 L] 3) = w0 at *
  have HB := Lib.hid hB
  clear hB hO hbs
  obtain ⟨-, o0, o1, o2, -⟩ := bx3 D0.out
  go_wp2_with fail
  refine (blockEdges_any _ _ _ _ rfl _).mono ?_
  rintro e w1' ⟨rfl, rfl⟩
  have S1 := blk_new w0 (.cells #[.int .i64 W, .int .i64 H, .slice (some ⟨g, 0, none⟩) n c1] 46)
  have D1 := D0.ex (Ext.alloc w0 (.cells #[.int .i64 W, .int .i64 H, .slice (some ⟨g, 0, none⟩) n c1] 46))
  have L1 := blk_alloc L0 (.cells #[.int .i64 W, .int .i64 H, .slice (some ⟨g, 0, none⟩) n c1] 46)
  have hs1 : (w0.alloc (.cells #[.int .i64 W, .int .i64 H, .slice (some ⟨g, 0, none⟩) n c1] 46)).heap.size = O + 3 := by simp [hs0]
  rw [hs0] at S1 ⊢
  clear D0 L0 o0 o1 o2 hs0
  generalize w0.alloc (.cells #[.int .i64 W, .int .i64 H, .slice (some ⟨g, 0, none⟩) n c1] 46) = w2 at *
  go_upto_region 99 with fail
  refine (wpIn_wide (n := 4)).1 ?_
  refine wpIn_rangeFunc_ownG rfl (by omega) (gf := 107) (lb := #[.pointer (some ⟨O + 2, 0, none⟩)]) rfl trivial (enters_of Tryd.func107 (by kernel_rfl) rfl)
    (edges_stops 3 (by omega) (O + 2) W H n _ ⟨by omega, by omega, hw4.out⟩ ⟨by omega, by omega, hh4.out⟩ Hn.out w2 S1) keepB.t (keepB.b (by omega)) (Below.refl _ _) (fun _ => rfl)
    (fun (pre : List (Edg n)) W' => Hid (smp (dbL L zs (pre.map (fun x : Edg n => x.1)))) ∧ DB w B O g W H n c c1 a (dbL L zs (pre.map (fun x : Edg n => x.1))) W' ∧ W'.heap[O + 1]? = some (.cells #[.int .i64 L] 3 (0, 0))) (fun _ _ _ => False)
    (fun pre W' W'' row hI hg hr => ⟨hI.1, hI.2.1.gr hg (fun k e => by have := (hr k e).1; omega), blk_gr hI.2.2 hg (fun e => by have := (hr _ e).1; omega)⟩) (fun _ _ _ _ _ h _ _ => h) ⟨HZ, D1, L1⟩ ?a1 ?assign ?body ?done ?stop
  case assign =>
    intro l x W' K hK
    simp [encE]
    gi_wp2
    exact hK
  case body =>
    rintro l pre ⟨⟨at', st⟩, he⟩ W' ⟨hsm, hD, hl⟩ hlen
    have HE := Lib.hid he
    obtain ⟨he1, he2, he3⟩ := he
    simp only at he1 he2 he3
    have hnew := dbL_snoc L zs (pre.map (·.1)) (at', st)
    obtain ⟨Z, hZ⟩ : ∃ Z, Z = dbL L zs (pre.map (·.1)) := ⟨_, rfl⟩
    rw [← hZ] at hsm hD hnew
    have Hnew := Lib.hid (show dbL L zs ((pre ++ [(⟨(at', st), HE.out⟩ : Edg n)]).map (·.1)) = dbS L Z (at', st) by rw [List.map_append]; exact hnew)
    have hZl := hD.len
    have hS4 := dbS_smp (L := L) hsm.out (e := (at', st)) (by rw [hZl]; exact HE.out)
    have S4 := Lib.hid hS4
    have z0 := smp_nth hsm.out (i := at' - 2 * st) (by omega)
    have z1 := smp_nth hsm.out (i := at' - st) (by omega)
    have z2 := smp_nth hsm.out (i := at') (by omega)
    have z3 := smp_nth hsm.out (i := at' + st) (by omega)
    have HdbS := Lib.hid (show dbS L Z (at', st) = (Z.set (at' - st) (flt (nth Z (at' - 2 * st)) (nth Z (at' - st)) (nth Z at') (nth Z (at' + st)) L).1).set at' (flt (nth Z (at' - 2 * st)) (nth Z (at' - st)) (nth Z at') (nth Z (at' + st)) L).2 from rfl)
    have hc0 := Lib.hid (fun (wx : World) (h : DB w B O g W H n c c1 a Z wx) => h.cell (i := at' - 2 * st) (by omega))
    have hc1 := Lib.hid (fun (wx : World) (h : DB w B O g W H n c c1 a Z wx) => h.cell (i := at' - st) (by omega))
    have hc2 := Lib.hid (fun (wx : World) (h : DB w B O g W H n c c1 a Z wx) => h.cell (i := at') (by omega))
    have hc3 := Lib.hid (fun (wx : World) (h : DB w B O g W H n c c1 a Z wx) => h.cell (i := at' + st) (by omega))
    have HFE := Lib.hid (fun w => filtered_any _ _ _ _ L w z0 z1 z2 z3 hL)
    generalize nth Z (at' - 2 * st) = v0 at *
    generalize nth Z (at' - st) = v1 at *
    generalize nth Z at' = v2 at *
    generalize nth Z (at' + st) = v3 at *
    obtain ⟨f1, hf1⟩ : ∃ f1, f1 = (flt v0 v1 v2 v3 L).1 := ⟨_, rfl⟩
    obtain ⟨f2, hf2⟩ : ∃ f2, f2 = (flt v0 v1 v2 v3 L).2 := ⟨_, rfl⟩
    rw [← hf1, ← hf2] at HdbS HFE
    obtain ⟨A0, hA0⟩ : ∃ A0, A0 = at' - 2 * st := ⟨_, rfl⟩
    obtain ⟨A1, hA1⟩ : ∃ A1, A1 = at' - st := ⟨_, rfl⟩
    obtain ⟨A3, hA3⟩ : ∃ A3, A3 = at' + st := ⟨_, rfl⟩
    rw [← hA0] at hc0
    rw [← hA1] at hc1 HdbS
    rw [← hA3] at hc3
    have i0 := Lib.hid (show (at' : Int) - 2 * (st : Int) = (A0 : Int) by omega)
    have i1 := Lib.hid (show (at' : Int) - (st : Int) = (A1 : Int) by omega)
    have i3 := Lib.hid (show (at' : Int) + (st : Int) = (A3 : Int) by omega)
    have l0 : A0 < n := by omega
    have l1 : A1 < n := by omega
    have l2 : at' < n := by omega
    have l3 : A3 < n := by omega
    have hne : A1 ≠ at' := by omega
    clear hf1 hf2 hA0 hA1 hA3 hnew hZ hZl hS4 z0 z1 z2 z3
    have G0 : BG w W' B O g W H n c c1 a L Z W' := ⟨hD, hl, KeepsFrom.refl _ _, rfl⟩
    clear hD hl
    gi_wp2_with fail
    refine wpIn_region_invL (by kernel_rfl) (by kernel_rfl) [(9, 10), (10, 11), (28, 0), (29, 1), (30, 2), (31, 3), (32, 4), (33, 5), (34, 6), (35, 7), (36, 8), (37, 9)] [[], [0], [], [], [2, 3], [0, 1, 2, 3, 4], [], [6], [], [6, 7, 8], [0, 1, 2, 3, 4, 5], [0, 1, 2, 3, 4, 5, 6, 7, 8, 9, 10]] (fun i own ys wx => match i with | 0 => own = .pointer (some ⟨O, 2, none⟩) | 1 => own = .slice (some ⟨g, 0, none⟩) n c1 | 2 => own = .int .i64 (at' : Nat) | 3 => own = .int .i64 (st : Nat) | 4 => own = .int .i64 (A1 : Nat) | 5 => own = .pointer (some ⟨g, A1, none⟩) | 6 => own = .pointer (some ⟨O, 2, none⟩) | 7 => own = .slice (some ⟨g, 0, none⟩) n c1 | 8 => own = .int .i64 (at' : Nat) | 9 => own = .pointer (some ⟨g, at', none⟩) | 10 => own = .pointer (some ⟨g, A1, none⟩) | 11 => own = .pointer (some ⟨g, at', none⟩) | _ => True) (fun Lx wx => BG w W' B O g W H n c c1 a L Z wx) (by kernel_rfl) (by kernel_rfl) (by kernel_rfl) ?g0_r1 ?gop_r1 ?gend_r1
    case g0_r1 => exact G0.drew
    case gop_r1 =>
      refine ⟨?_, ?_, ?_, ?_, ?_, ?_, ?_, ?_, ?_, ?_, ?_, ?_, trivial⟩
      · intro Lx xs wx hG hl ha hb hD hI Qo Kx hK hQo
        clear hl ha hb
        clear hD
        clear hI
        simp only [patchS, Nat.reduceAdd, Nat.reduceEqDiff, ↓reduceIte] at hQo ⊢
        go_wp2
        exact hK.out _ _ ⟨rfl, hG, fun _ _ _ _ _ _ h => h⟩
      · intro Lx xs wx hG hl ha hb hD hI Qo Kx hK hQo
        clear hl ha hb
        have d0 : (xs 0) = .pointer (some ⟨O, 2, none⟩) := hD 0 rfl
        clear hD
        clear hI
        simp only [patchS, Nat.reduceAdd, Nat.reduceEqDiff, ↓reduceIte] at hQo ⊢
        generalize xs 0 = y0 at *
        subst d0
        obtain ⟨-, k0, k1, k2, -⟩ := bx3 hG.db.out
        go_wp2
        exact hK.out _ _ ⟨rfl, hG, fun _ _ _ _ _ _ h => h⟩
      · intro Lx xs wx hG hl ha hb hD hI Qo Kx hK hQo
        clear hl ha hb
        clear hD
        clear hI
        simp only [patchS, Nat.reduceAdd, Nat.reduceEqDiff, ↓reduceIte] at hQo ⊢
        go_wp2
        exact hK.out _ _ ⟨rfl, hG, fun _ _ _ _ _ _ h => h⟩
      · intro Lx xs wx hG hl ha hb hD hI Qo Kx hK hQo
        clear hl ha hb
        clear hD
        clear hI
        simp only [patchS, Nat.reduceAdd, Nat.reduceEqDiff, ↓reduceIte] at hQo ⊢
        go_wp2
        exact hK.out _ _ ⟨rfl, hG, fun _ _ _ _ _ _ h => h⟩
      · intro Lx xs wx hG hl ha hb hD hI Qo Kx hK hQo
        clear hl ha hb
        have d2 : (xs 2) = .int .i64 (at' : Nat) := hD 2 rfl
        have d3 : (xs 3) = .int .i64 (st : Nat) := hD 3 rfl
        clear hD
        clear hI
        simp only [patchS, Nat.reduceAdd, Nat.reduceEqDiff, ↓reduceIte] at hQo ⊢
        generalize xs 2 = y2 at *
        generalize xs 3 = y3 at *
        subst d2
        subst d3
        go_wp2
        exact hK.out _ _ ⟨by rw [← i1.out], hG, fun _ _ _ _ _ _ h => h⟩
      · intro Lx xs wx hG hl ha hb hD hI Qo Kx hK hQo
        clear hl ha hb
        have d1 : (xs 1) = .slice (some ⟨g, 0, none⟩) n c1 := hD 1 rfl
        have d4 : (xs 4) = .int .i64 (A1 : Nat) := hD 4 rfl
        clear hD
        clear hI
        simp only [patchS, Nat.reduceAdd, Nat.reduceEqDiff, ↓reduceIte] at hQo ⊢
        generalize xs 1 = y1 at *
        generalize xs 4 = y4 at *
        subst d1
        subst d4
        go_wp2
        exact hK.out _ _ ⟨rfl, hG, fun _ _ _ _ _ _ h => h⟩
      · intro Lx xs wx hG hl ha hb hD hI Qo Kx hK hQo
        clear hl ha hb
        clear hD
        clear hI
        simp only [patchS, Nat.reduceAdd, Nat.reduceEqDiff, ↓reduceIte] at hQo ⊢
        go_wp2
        exact hK.out _ _ ⟨rfl, hG, fun _ _ _ _ _ _ h => h⟩
      · intro Lx xs wx hG hl ha hb hD hI Qo Kx hK hQo
        clear hl ha hb
        have d6 : (xs 6) = .pointer (some ⟨O, 2, none⟩) := hD 6 rfl
        clear hD
        clear hI
        simp only [patchS, Nat.reduceAdd, Nat.reduceEqDiff, ↓reduceIte] at hQo ⊢
        generalize xs 6 = y6 at *
        subst d6
        obtain ⟨-, k0, k1, k2, -⟩ := bx3 hG.db.out
        go_wp2
        exact hK.out _ _ ⟨rfl, hG, fun _ _ _ _ _ _ h => h⟩
      · intro Lx xs wx hG hl ha hb hD hI Qo Kx hK hQo
        clear hl ha hb
        clear hD
        clear hI
        simp only [patchS, Nat.reduceAdd, Nat.reduceEqDiff, ↓reduceIte] at hQo ⊢
        go_wp2
        exact hK.out _ _ ⟨rfl, hG, fun _ _ _ _ _ _ h => h⟩
      · intro Lx xs wx hG hl ha hb hD hI Qo Kx hK hQo
        clear hl ha hb
        have d7 : (xs 7) = .slice (some ⟨g, 0, none⟩) n c1 := hD 7 rfl
        have d8 : (xs 8) = .int .i64 (at' : Nat) := hD 8 rfl
        clear hD
        clear hI
        simp only [patchS, Nat.reduceAdd, Nat.reduceEqDiff, ↓reduceIte] at hQo ⊢
        generalize xs 7 = y7 at *
        generalize xs 8 = y8 at *
        subst d7
        subst d8
        go_wp2
        exact hK.out _ _ ⟨rfl, hG, fun _ _ _ _ _ _ h => h⟩
      · intro Lx xs wx hG hl ha hb hD hI Qo Kx hK hQo
        clear hl ha hb
        have d5 : (xs 5) = .pointer (some ⟨g, A1, none⟩) := hD 5 rfl
        clear hD
        clear hI
        simp only [patchS, Nat.reduceAdd, Nat.reduceEqDiff, ↓reduceIte] at hQo ⊢
        generalize xs 5 = y5 at *
        subst d5
        go_wp2
        exact hK.out _ _ ⟨rfl, hG, fun _ _ _ _ _ _ h => h⟩
      · intro Lx xs wx hG hl ha hb hD hI Qo Kx hK hQo
        clear hl ha hb
        have d9 : (xs 9) = .pointer (some ⟨g, at', none⟩) := hD 9 rfl
        clear hD
        clear hI
        simp only [patchS, Nat.reduceAdd, Nat.reduceEqDiff, ↓reduceIte] at hQo ⊢
        generalize xs 9 = y9 at *
        subst d9
        go_wp2
        exact hK.out _ _ ⟨rfl, hG, fun _ _ _ _ _ _ h => h⟩
    intro xs wx hV hG0
    obtain ⟨Lx, hL, hG⟩ := hG0
    clear hL
    have d0 : (xs 0) = .pointer (some ⟨O, 2, none⟩) := hV 0 (by decide)
    have d1 : (xs 1) = .slice (some ⟨g, 0, none⟩) n c1 := hV 1 (by decide)
    have d2 : (xs 2) = .int .i64 (at' : Nat) := hV 2 (by decide)
    have d3 : (xs 3) = .int .i64 (st : Nat) := hV 3 (by decide)
    have d4 : (xs 4) = .int .i64 (A1 : Nat) := hV 4 (by decide)
    have d5 : (xs 5) = .pointer (some ⟨g, A1, none⟩) := hV 5 (by decide)
    have d6 : (xs 6) = .pointer (some ⟨O, 2, none⟩) := hV 6 (by decide)
    have d7 : (xs 7) = .slice (some ⟨g, 0, none⟩) n c1 := hV 7 (by decide)
    have d8 : (xs 8) = .int .i64 (at' : Nat) := hV 8 (by decide)
    have d9 : (xs 9) = .pointer (some ⟨g, at', none⟩) := hV 9 (by decide)
    have d10 : (xs 10) = .pointer (some ⟨g, A1, none⟩) := hV 10 (by decide)
    have d11 : (xs 11) = .pointer (some ⟨g, at', none⟩) := hV 11 (by decide)
    clear hV
    simp only [patchS, Nat.reduceAdd, Nat.reduceEqDiff, ↓reduceIte]
    generalize xs 0 = y0 at *
    generalize xs 1 = y1 at *
    generalize xs 2 = y2 at *
    generalize xs 3 = y3 at *
    generalize xs 4 = y4 at *
    generalize xs 5 = y5 at *
    generalize xs 6 = y6 at *
    generalize xs 7 = y7 at *
    generalize xs 8 = y8 at *
    generalize xs 9 = y9 at *
    generalize xs 10 = y10 at *
    generalize xs 11 = y11 at *
    replace hG : BG w W' B O g W H n c c1 a L Z wx := hG
    clear d0 d1 d2 d3 d4 d5 d6 d7 d8 d9
    subst d10
    subst d11
    clear G0
    gi_wp2_with fail
    refine wpIn_region_invL (by kernel_rfl) (by kernel_rfl) [(38, 25), (39, 0), (40, 1), (41, 2), (42, 3), (43, 4), (44, 5), (45, 6), (46, 7), (47, 8), (48, 9), (49, 10), (50, 11), (51, 12), (52, 13), (53, 14), (54, 15), (55, 16), (56, 17), (57, 18), (58, 19), (59, 20), (60, 21), (61, 22), (62, 23), (63, 24), (64, 26), (65, 27), (66, 28), (67, 30)] [[], [], [], [2], [], [], [5], [4, 5, 6], [2, 3, 4, 5, 6, 7], [2, 3, 4, 5, 6, 7, 8], [], [10], [10, 11], [], [13], [13, 14], [], [16], [], [], [18, 19], [16, 17, 18, 19, 20], [16, 17, 18, 19, 20, 21], [], [2, 3, 4, 5, 6, 7, 8, 9, 10, 11, 12, 13, 14, 15, 16, 17, 18, 19, 20, 21, 22, 23], [2, 3, 4, 5, 6, 7, 8, 9, 10, 11, 12, 13, 14, 15, 16, 17, 18, 19, 20, 21, 22, 23, 24], [2, 3, 4, 5, 6, 7, 8, 9, 10, 11, 12, 13, 14, 15, 16, 17, 18, 19, 20, 21, 22, 23, 24, 25], [2, 3, 4, 5, 6, 7, 8, 9, 10, 11, 12, 13, 14, 15, 16, 17, 18, 19, 20, 21, 22, 23, 24, 25], [0, 2, 3, 4, 5, 6, 7, 8, 9, 10, 11, 12, 13, 14, 15, 16, 17, 18, 19, 20, 21, 22, 23, 24, 25, 26], [0, 2, 3, 4, 5, 6, 7, 8, 9, 10, 11, 12, 13, 14, 15, 16, 17, 18, 19, 20, 21, 22, 23, 24, 25, 26, 28], [0, 1, 2, 3, 4, 5, 6, 7, 8, 9, 10, 11, 12, 13, 14, 15, 16, 17, 18, 19, 20, 21, 22, 23, 24, 25, 26, 27, 28, 29], [0, 1, 2, 3, 4, 5, 6, 7, 8, 9, 10, 11, 12, 13, 14, 15, 16, 17, 18, 19, 20, 21, 22, 23, 24, 25, 26, 27, 28, 29, 30]] (fun i own ys wx => match i with | 0 => own = .pointer (some ⟨g, A1, none⟩) | 1 => own = .pointer (some ⟨g, at', none⟩) | 2 => own = .pointer (some ⟨O, 2, none⟩) | 3 => own = .slice (some ⟨g, 0, none⟩) n c1 | 4 => own = .int .i64 (at' : Nat) | 5 => own = .int .i64 (st : Nat) | 6 => own = .int .i64 (2 * (st : Int)) | 7 => own = .int .i64 (A0 : Nat) | 8 => own = .pointer (some ⟨g, A0, none⟩) | 9 => own = .int .i64 v0 | 10 => own = .pointer (some ⟨g, A1, none⟩) | 11 => own = .pointer (some ⟨g, A1, none⟩) | 12 => own = .int .i64 v1 | 13 => own = .pointer (some ⟨g, at', none⟩) | 14 => own = .pointer (some ⟨g, at', none⟩) | 15 => own = .int .i64 v2 | 16 => own = .pointer (some ⟨O, 2, none⟩) | 17 => own = .slice (some ⟨g, 0, none⟩) n c1 | 18 => own = .int .i64 (at' : Nat) | 19 => own = .int .i64 (st : Nat) | 20 => own = .int .i64 (A3 : Nat) | 21 => own = .pointer (some ⟨g, A3, none⟩) | 22 => own = .int .i64 v3 | 23 => own = .int .i64 L | 24 => own = .tuple #[.int .i64 f1, .int .i64 f2] | 25 => own = .tuple #[.int .i64 f1, .int .i64 f2] | 26 => own = .int .i64 f1 | 27 => own = .int .i64 f2 | 28 => own = .pointer (some ⟨g, A1, none⟩) | 29 => True | 30 => own = .pointer (some ⟨g, at', none⟩) | 31 => True | _ => True) (fun Lx wx => BG w W' B O g W H n c c1 a L (stZ Z A1 f1 at' f2 (Lx 29) (Lx 31)) wx) (by kernel_rfl) (by kernel_rfl) (by kernel_rfl) ?g0_r2 ?gop_r2 ?gend_r2
    case g0_r2 => exact hG.drew
    case gop_r2 =>
      refine ⟨?_, ?_, ?_, ?_, ?_, ?_, ?_, ?_, ?_, ?_, ?_, ?_, ?_, ?_, ?_, ?_, ?_, ?_, ?_, ?_, ?_, ?_, ?_, ?_, ?_, ?_, ?_, ?_, ?_, ?_, ?_, ?_, trivial⟩
      · intro Lx xs wx hG hl ha hb hD hI Qo Kx hK hQo
        have l29 : Lx 29 = false := hb 29 rfl
        have l31 : Lx 31 = false := hb 31 rfl
        clear hl ha hb
        clear hD
        clear hI
        simp only [patchS, Nat.reduceAdd, Nat.reduceEqDiff, ↓reduceIte] at hQo ⊢
        go_wp2
        exact hK.out _ _ ⟨rfl, hG, fun _ _ _ _ _ _ h => h⟩
      · intro Lx xs wx hG hl ha hb hD hI Qo Kx hK hQo
        have l31 : Lx 31 = false := hb 31 rfl
        clear hl ha hb
        clear hD
        clear hI
        simp only [patchS, Nat.reduceAdd, Nat.reduceEqDiff, ↓reduceIte] at hQo ⊢
        go_wp2
        exact hK.out _ _ ⟨rfl, hG, fun _ _ _ _ _ _ h => h⟩
      · intro Lx xs wx hG hl ha hb hD hI Qo Kx hK hQo
        have l29 : Lx 29 = false := hb 29 rfl
        have l31 : Lx 31 = false := hb 31 rfl
        clear hl ha hb
        clear hD
        clear hI
        simp only [patchS, Nat.reduceAdd, Nat.reduceEqDiff, ↓reduceIte] at hQo ⊢
        go_wp2
        exact hK.out _ _ ⟨rfl, hG, fun _ _ _ _ _ _ h => h⟩
      · intro Lx xs wx hG hl ha hb hD hI Qo Kx hK hQo
        have l29 : Lx 29 = false := hb 29 rfl
        have l31 : Lx 31 = false := hb 31 rfl
        clear hl ha hb
        have d2 : (xs 2) = .pointer (some ⟨O, 2, none⟩) := hD 2 rfl
        clear hD
        clear hI
        simp only [patchS, Nat.reduceAdd, Nat.reduceEqDiff, ↓reduceIte] at hQo ⊢
        generalize xs 2 = y2 at *
        subst d2
        obtain ⟨-, k0, k1, k2, -⟩ := bx3 hG.db.out
        go_wp2
        exact hK.out _ _ ⟨rfl, hG, fun _ _ _ _ _ _ h => h⟩
      · intro Lx xs wx hG hl ha hb hD hI Qo Kx hK hQo
        have l29 : Lx 29 = false := hb 29 rfl
        have l31 : Lx 31 = false := hb 31 rfl
        clear hl ha hb
        clear hD
        clear hI
        simp only [patchS, Nat.reduceAdd, Nat.reduceEqDiff, ↓reduceIte] at hQo ⊢
        go_wp2
        exact hK.out _ _ ⟨rfl, hG, fun _ _ _ _ _ _ h => h⟩
      · intro Lx xs wx hG hl ha hb hD hI Qo Kx hK hQo
        have l29 : Lx 29 = false := hb 29 rfl
        have l31 : Lx 31 = false := hb 31 rfl
        clear hl ha hb
        clear hD
        clear hI
        simp only [patchS, Nat.reduceAdd, Nat.reduceEqDiff, ↓reduceIte] at hQo ⊢
        go_wp2
        exact hK.out _ _ ⟨rfl, hG, fun _ _ _ _ _ _ h => h⟩
      · intro Lx xs wx hG hl ha hb hD hI Qo Kx hK hQo
        have l29 : Lx 29 = false := hb 29 rfl
        have l31 : Lx 31 = false := hb 31 rfl
        clear hl ha hb
        have d5 : (xs 5) = .int .i64 (st : Nat) := hD 5 rfl
        clear hD
        clear hI
        simp only [patchS, Nat.reduceAdd, Nat.reduceEqDiff, ↓reduceIte] at hQo ⊢
        generalize xs 5 = y5 at *
        subst d5
        go_wp2
        exact hK.out _ _ ⟨rfl, hG, fun _ _ _ _ _ _ h => h⟩
      · intro Lx xs wx hG hl ha hb hD hI Qo Kx hK hQo
        have l29 : Lx 29 = false := hb 29 rfl
        have l31 : Lx 31 = false := hb 31 rfl
        clear hl ha hb
        have d4 : (xs 4) = .int .i64 (at' : Nat) := hD 4 rfl
        have d6 : (xs 6) = .int .i64 (2 * (st : Int)) := hD 6 rfl
        clear hD
        clear hI
        simp only [patchS, Nat.reduceAdd, Nat.reduceEqDiff, ↓reduceIte] at hQo ⊢
        generalize xs 4 = y4 at *
        generalize xs 6 = y6 at *
        subst d4
        subst d6
        go_wp2
        exact hK.out _ _ ⟨by rw [← i0.out], hG, fun _ _ _ _ _ _ h => h⟩
      · intro Lx xs wx hG hl ha hb hD hI Qo Kx hK hQo
        have l29 : Lx 29 = false := hb 29 rfl
        have l31 : Lx 31 = false := hb 31 rfl
        clear hl ha hb
        have d3 : (xs 3) = .slice (some ⟨g, 0, none⟩) n c1 := hD 3 rfl
        have d7 : (xs 7) = .int .i64 (A0 : Nat) := hD 7 rfl
        clear hD
        clear hI
        simp only [patchS, Nat.reduceAdd, Nat.reduceEqDiff, ↓reduceIte] at hQo ⊢
        generalize xs 3 = y3 at *
        generalize xs 7 = y7 at *
        subst d3
        subst d7
        go_wp2
        exact hK.out _ _ ⟨rfl, hG, fun _ _ _ _ _ _ h => h⟩
      · intro Lx xs wx hG hl ha hb hD hI Qo Kx hK hQo
        have l29 : Lx 29 = false := hb 29 rfl
        have l31 : Lx 31 = false := hb 31 rfl
        clear hl ha hb
        have d8 : (xs 8) = .pointer (some ⟨g, A0, none⟩) := hD 8 rfl
        clear hD
        clear hI
        simp only [patchS, Nat.reduceAdd, Nat.reduceEqDiff, ↓reduceIte] at hQo ⊢
        generalize xs 8 = y8 at *
        subst d8
        have hG2 := hG
        rw [l29, l31] at hG2
        have hGd : DB w B O g W H n c c1 a Z wx := hG2.db
        have hcx := hc0.out wx hGd
        clear hG2 hGd
        go_wp2
        exact hK.out _ _ ⟨rfl, hG, fun _ _ _ _ _ _ h => h⟩
      · intro Lx xs wx hG hl ha hb hD hI Qo Kx hK hQo
        have l29 : Lx 29 = false := hb 29 rfl
        have l31 : Lx 31 = false := hb 31 rfl
        clear hl ha hb
        clear hD
        clear hI
        simp only [patchS, Nat.reduceAdd, Nat.reduceEqDiff, ↓reduceIte] at hQo ⊢
        go_wp2
        exact hK.out _ _ ⟨rfl, hG, fun _ _ _ _ _ _ h => h⟩
      · intro Lx xs wx hG hl ha hb hD hI Qo Kx hK hQo
        have l29 : Lx 29 = false := hb 29 rfl
        have l31 : Lx 31 = false := hb 31 rfl
        clear hl ha hb
        have d10 : (xs 10) = .pointer (some ⟨g, A1, none⟩) := hD 10 rfl
        clear hD
        clear hI
        simp only [patchS, Nat.reduceAdd, Nat.reduceEqDiff, ↓reduceIte] at hQo ⊢
        generalize xs 10 = y10 at *
        subst d10
        go_wp2
        exact hK.out _ _ ⟨rfl, hG, fun _ _ _ _ _ _ h => h⟩
      · intro Lx xs wx hG hl ha hb hD hI Qo Kx hK hQo
        have l29 : Lx 29 = false := hb 29 rfl
        have l31 : Lx 31 = false := hb 31 rfl
        clear hl ha hb
        have d11 : (xs 11) = .pointer (some ⟨g, A1, none⟩) := hD 11 rfl
        clear hD
        clear hI
        simp only [patchS, Nat.reduceAdd, Nat.reduceEqDiff, ↓reduceIte] at hQo ⊢
        generalize xs 11 = y11 at *
        subst d11
        have hG2 := hG
        rw [l29, l31] at hG2
        have hGd : DB w B O g W H n c c1 a Z wx := hG2.db
        have hcx := hc1.out wx hGd
        clear hG2 hGd
        go_wp2
        exact hK.out _ _ ⟨rfl, hG, fun _ _ _ _ _ _ h => h⟩
      · intro Lx xs wx hG hl ha hb hD hI Qo Kx hK hQo
        have l29 : Lx 29 = false := hb 29 rfl
        have l31 : Lx 31 = false := hb 31 rfl
        clear hl ha hb
        clear hD
        clear hI
        simp only [patchS, Nat.reduceAdd, Nat.reduceEqDiff, ↓reduceIte] at hQo ⊢
        go_wp2
        exact hK.out _ _ ⟨rfl, hG, fun _ _ _ _ _ _ h => h⟩
      · intro Lx xs wx hG hl ha hb hD hI Qo Kx hK hQo
        have l29 : Lx 29 = false := hb 29 rfl
        have l31 : Lx 31 = false := hb 31 rfl
        clear hl ha hb
        have d13 : (xs 13) = .pointer (some ⟨g, at', none⟩) := hD 13 rfl
        clear hD
        clear hI
        simp only [patchS, Nat.reduceAdd, Nat.reduceEqDiff, ↓reduceIte] at hQo ⊢
        generalize xs 13 = y13 at *
        subst d13
        go_wp2
        exact hK.out _ _ ⟨rfl, hG, fun _ _ _ _ _ _ h => h⟩
      · intro Lx xs wx hG hl ha hb hD hI Qo Kx hK hQo
        have l29 : Lx 29 = false := hb 29 rfl
        have l31 : Lx 31 = false := hb 31 rfl
        clear hl ha hb
        have d14 : (xs 14) = .pointer (some ⟨g, at', none⟩) := hD 14 rfl
        clear hD
        clear hI
        simp only [patchS, Nat.reduceAdd, Nat.reduceEqDiff, ↓reduceIte] at hQo ⊢
        generalize xs 14 = y14 at *
        subst d14
        have hG2 := hG
        rw [l29, l31] at hG2
        have hGd : DB w B O g W H n c c1 a Z wx := hG2.db
        have hcx := hc2.out wx hGd
        clear hG2 hGd
        go_wp2
        exact hK.out _ _ ⟨rfl, hG, fun _ _ _ _ _ _ h => h⟩
      · intro Lx xs wx hG hl ha hb hD hI Qo Kx hK hQo
        have l29 : Lx 29 = false := hb 29 rfl
        have l31 : Lx 31 = false := hb 31 rfl
        clear hl ha hb
        clear hD
        clear hI
        simp only [patchS, Nat.reduceAdd, Nat.reduceEqDiff, ↓reduceIte] at hQo ⊢
        go_wp2
        exact hK.out _ _ ⟨rfl, hG, fun _ _ _ _ _ _ h => h⟩
      · intro Lx xs wx hG hl ha hb hD hI Qo Kx hK hQo
        have l29 : Lx 29 = false := hb 29 rfl
        have l31 : Lx 31 = false := hb 31 rfl
        clear hl ha hb
        have d16 : (xs 16) = .pointer (some ⟨O, 2, none⟩) := hD 16 rfl
        clear hD
        clear hI
        simp only [patchS, Nat.reduceAdd, Nat.reduceEqDiff, ↓reduceIte] at hQo ⊢
        generalize xs 16 = y16 at *
        subst d16
        obtain ⟨-, k0, k1, k2, -⟩ := bx3 hG.db.out
        go_wp2
        exact hK.out _ _ ⟨rfl, hG, fun _ _ _ _ _ _ h => h⟩
      · intro Lx xs wx hG hl ha hb hD hI Qo Kx hK hQo
        have l29 : Lx 29 = false := hb 29 rfl
        have l31 : Lx 31 = false := hb 31 rfl
        clear hl ha hb
        clear hD
        clear hI
        simp only [patchS, Nat.reduceAdd, Nat.reduceEqDiff, ↓reduceIte] at hQo ⊢
        go_wp2
        exact hK.out _ _ ⟨rfl, hG, fun _ _ _ _ _ _ h => h⟩
      · intro Lx xs wx hG hl ha hb hD hI Qo Kx hK hQo
        have l29 : Lx 29 = false := hb 29 rfl
        have l31 : Lx 31 = false := hb 31 rfl
        clear hl ha hb
        clear hD
        clear hI
        simp only [patchS, Nat.reduceAdd, Nat.reduceEqDiff, ↓reduceIte] at hQo ⊢
        go_wp2
        exact hK.out _ _ ⟨rfl, hG, fun _ _ _ _ _ _ h => h⟩
      · intro Lx xs wx hG hl ha hb hD hI Qo Kx hK hQo
        have l29 : Lx 29 = false := hb 29 rfl
        have l31 : Lx 31 = false := hb 31 rfl
        clear hl ha hb
        have d18 : (xs 18) = .int .i64 (at' : Nat) := hD 18 rfl
        have d19 : (xs 19) = .int .i64 (st : Nat) := hD 19 rfl
        clear hD
        clear hI
        simp only [patchS, Nat.reduceAdd, Nat.reduceEqDiff, ↓reduceIte] at hQo ⊢
        generalize xs 18 = y18 at *
        generalize xs 19 = y19 at *
        subst d18
        subst d19
        go_wp2
        exact hK.out _ _ ⟨by rw [← i3.out], hG, fun _ _ _ _ _ _ h => h⟩
      · intro Lx xs wx hG hl ha hb hD hI Qo Kx hK hQo
        have l29 : Lx 29 = false := hb 29 rfl
        have l31 : Lx 31 = false := hb 31 rfl
        clear hl ha hb
        have d17 : (xs 17) = .slice (some ⟨g, 0, none⟩) n c1 := hD 17 rfl
        have d20 : (xs 20) = .int .i64 (A3 : Nat) := hD 20 rfl
        clear hD
        clear hI
        simp only [patchS, Nat.reduceAdd, Nat.reduceEqDiff, ↓reduceIte] at hQo ⊢
        generalize xs 17 = y17 at *
        generalize xs 20 = y20 at *
        subst d17
        subst d20
        go_wp2
        exact hK.out _ _ ⟨rfl, hG, fun _ _ _ _ _ _ h => h⟩
      · intro Lx xs wx hG hl ha hb hD hI Qo Kx hK hQo
        have l29 : Lx 29 = false := hb 29 rfl
        have l31 : Lx 31 = false := hb 31 rfl
        clear hl ha hb
        have d21 : (xs 21) = .pointer (some ⟨g, A3, none⟩) := hD 21 rfl
        clear hD
        clear hI
        simp only [patchS, Nat.reduceAdd, Nat.reduceEqDiff, ↓reduceIte] at hQo ⊢
        generalize xs 21 = y21 at *
        subst d21
        have hG2 := hG
        rw [l29, l31] at hG2
        have hGd : DB w B O g W H n c c1 a Z wx := hG2.db
        have hcx := hc3.out wx hGd
        clear hG2 hGd
        go_wp2
        exact hK.out _ _ ⟨rfl, hG, fun _ _ _ _ _ _ h => h⟩
      · intro Lx xs wx hG hl ha hb hD hI Qo Kx hK hQo
        have l29 : Lx 29 = false := hb 29 rfl
        have l31 : Lx 31 = false := hb 31 rfl
        clear hl ha hb
        clear hD
        clear hI
        simp only [patchS, Nat.reduceAdd, Nat.reduceEqDiff, ↓reduceIte] at hQo ⊢
        have hlc := hG.limc
        go_wp2
        exact hK.out _ _ ⟨rfl, hG, fun _ _ _ _ _ _ h => h⟩
      · intro Lx xs wx hG hl ha hb hD hI Qo Kx hK hQo
        have l29 : Lx 29 = false := hb 29 rfl
        have l31 : Lx 31 = false := hb 31 rfl
        clear hl ha hb
        have d9 : (xs 9) = .int .i64 v0 := hD 9 rfl
        have d12 : (xs 12) = .int .i64 v1 := hD 12 rfl
        have d15 : (xs 15) = .int .i64 v2 := hD 15 rfl
        have d22 : (xs 22) = .int .i64 v3 := hD 22 rfl
        have d23 : (xs 23) = .int .i64 L := hD 23 rfl
        clear hD
        clear hI
        simp only [patchS, Nat.reduceAdd, Nat.reduceEqDiff, ↓reduceIte] at hQo ⊢
        generalize xs 9 = y9 at *
        generalize xs 12 = y12 at *
        generalize xs 15 = y15 at *
        generalize xs 22 = y22 at *
        generalize xs 23 = y23 at *
        subst d9
        subst d12
        subst d15
        subst d22
        subst d23
        go_wp2_with fail
        refine (HFE.out _).mono ?_
        rintro e w7 ⟨rfl, rfl⟩
        go_wp2
        exact hK.out _ _ ⟨rfl, hG, fun _ _ _ _ _ _ h => h⟩
      · intro Lx xs wx hG hl ha hb hD hI Qo Kx hK hQo
        have l29 : Lx 29 = false := hb 29 rfl
        have l31 : Lx 31 = false := hb 31 rfl
        clear hl ha hb
        have d24 : (xs 24) = .tuple #[.int .i64 f1, .int .i64 f2] := hD 24 rfl
        clear hD
        clear hI
        simp only [patchS, Nat.reduceAdd, Nat.reduceEqDiff, ↓reduceIte] at hQo ⊢
        generalize xs 24 = y24 at *
        subst d24
        go_wp2
        exact hK.out _ _ ⟨rfl, hG, fun _ _ _ _ _ _ h => h⟩
      · intro Lx xs wx hG hl ha hb hD hI Qo Kx hK hQo
        have l29 : Lx 29 = false := hb 29 rfl
        have l31 : Lx 31 = false := hb 31 rfl
        clear hl ha hb
        have d25 : (xs 25) = .tuple #[.int .i64 f1, .int .i64 f2] := hD 25 rfl
        clear hD
        clear hI
        simp only [patchS, Nat.reduceAdd, Nat.reduceEqDiff, ↓reduceIte] at hQo ⊢
        generalize xs 25 = y25 at *
        subst d25
        go_wp2
        exact hK.out _ _ ⟨rfl, hG, fun _ _ _ _ _ _ h => h⟩
      · intro Lx xs wx hG hl ha hb hD hI Qo Kx hK hQo
        have l31 : Lx 31 = false := hb 31 rfl
        clear hl ha hb
        have d25 : (xs 25) = .tuple #[.int .i64 f1, .int .i64 f2] := hD 25 rfl
        clear hD
        clear hI
        simp only [patchS, Nat.reduceAdd, Nat.reduceEqDiff, ↓reduceIte] at hQo ⊢
        generalize xs 25 = y25 at *
        subst d25
        go_wp2
        exact hK.out _ _ ⟨rfl, hG, fun _ _ _ _ _ _ h => h⟩
      · intro Lx xs wx hG hl ha hb hD hI Qo Kx hK hQo
        have l29 : Lx 29 = false := hb 29 rfl
        have l31 : Lx 31 = false := hb 31 rfl
        clear hl ha hb
        have d0 : (xs 0) = .pointer (some ⟨g, A1, none⟩) := hD 0 rfl
        clear hD
        clear hI
        simp only [patchS, Nat.reduceAdd, Nat.reduceEqDiff, ↓reduceIte] at hQo ⊢
        generalize xs 0 = y0 at *
        subst d0
        go_wp2
        exact hK.out _ _ ⟨rfl, hG, fun _ _ _ _ _ _ h => h⟩
      · intro Lx xs wx hG hl ha hb hD hI Qo Kx hK hQo
        have l29 : Lx 29 = false := hl
        have l31 : Lx 31 = false := hb 31 rfl
        clear hl ha hb
        have d26 : (xs 26) = .int .i64 f1 := hD 26 rfl
        have d28 : (xs 28) = .pointer (some ⟨g, A1, none⟩) := hD 28 rfl
        clear hD
        clear hI
        simp only [patchS, Nat.reduceAdd, Nat.reduceEqDiff, ↓reduceIte] at hQo ⊢
        generalize xs 26 = y26 at *
        generalize xs 28 = y28 at *
        subst d26
        subst d28
        have hcx := hG.db.cell (i := A1) (by omega)
        have hfx := hG.db.frozen A1
        rw [l29] at hG
        have hG2 := hG.set A1 f1
        rw [stZ_one _ _ _ _ _ _ hne] at hG2
        go_wp2
        exact hQo undef _ (hK.out _ _ ⟨trivial, hG2, fun _ _ _ _ _ _ h => h⟩)
      · intro Lx xs wx hG hl ha hb hD hI Qo Kx hK hQo
        have l29 : Lx 29 = true := ha 29 rfl
        have l31 : Lx 31 = false := hb 31 rfl
        clear hl ha hb
        have d1 : (xs 1) = .pointer (some ⟨g, at', none⟩) := hD 1 rfl
        clear hD
        clear hI
        simp only [patchS, Nat.reduceAdd, Nat.reduceEqDiff, ↓reduceIte] at hQo ⊢
        generalize xs 1 = y1 at *
        subst d1
        go_wp2
        exact hK.out _ _ ⟨rfl, hG, fun _ _ _ _ _ _ h => h⟩
      · intro Lx xs wx hG hl ha hb hD hI Qo Kx hK hQo
        have l29 : Lx 29 = true := ha 29 rfl
        have l31 : Lx 31 = false := hl
        clear hl ha hb
        have d27 : (xs 27) = .int .i64 f2 := hD 27 rfl
        have d30 : (xs 30) = .pointer (some ⟨g, at', none⟩) := hD 30 rfl
        clear hD
        clear hI
        simp only [patchS, Nat.reduceAdd, Nat.reduceEqDiff, ↓reduceIte] at hQo ⊢
        generalize xs 27 = y27 at *
        generalize xs 30 = y30 at *
        subst d27
        subst d30
        have hcx := hG.db.cell (i := at') (by omega)
        have hfx := hG.db.frozen at'
        rw [l31] at hG
        have hG2 := hG.set at' f2
        rw [stZ_two] at hG2
        go_wp2
        exact hQo undef _ (hK.out _ _ ⟨trivial, hG2, fun _ _ _ _ _ _ h => h⟩)
    intro xs wx hV hG0
    obtain ⟨Lx, hL, hG⟩ := hG0
    have l29 : Lx 29 = true := hL 29 (by decide)
    have l31 : Lx 31 = true := hL 31 (by decide)
    clear hL
    have d0 : (xs 0) = .pointer (some ⟨g, A1, none⟩) := hV 0 (by decide)
    have d1 : (xs 1) = .pointer (some ⟨g, at', none⟩) := hV 1 (by decide)
    have d2 : (xs 2) = .pointer (some ⟨O, 2, none⟩) := hV 2 (by decide)
    have d3 : (xs 3) = .slice (some ⟨g, 0, none⟩) n c1 := hV 3 (by decide)
    have d4 : (xs 4) = .int .i64 (at' : Nat) := hV 4 (by decide)
    have d5 : (xs 5) = .int .i64 (st : Nat) := hV 5 (by decide)
    have d6 : (xs 6) = .int .i64 (2 * (st : Int)) := hV 6 (by decide)
    have d7 : (xs 7) = .int .i64 (A0 : Nat) := hV 7 (by decide)
    have d8 : (xs 8) = .pointer (some ⟨g, A0, none⟩) := hV 8 (by decide)
    have d9 : (xs 9) = .int .i64 v0 := hV 9 (by decide)
    have d10 : (xs 10) = .pointer (some ⟨g, A1, none⟩) := hV 10 (by decide)
    have d11 : (xs 11) = .pointer (some ⟨g, A1, none⟩) := hV 11 (by decide)
    have d12 : (xs 12) = .int .i64 v1 := hV 12 (by decide)
    have d13 : (xs 13) = .pointer (some ⟨g, at', none⟩) := hV 13 (by decide)
    have d14 : (xs 14) = .pointer (some ⟨g, at', none⟩) := hV 14 (by decide)
    have d15 : (xs 15) = .int .i64 v2 := hV 15 (by decide)
    have d16 : (xs 16) = .pointer (some ⟨O, 2, none⟩) := hV 16 (by decide)
    have d17 : (xs 17) = .slice (some ⟨g, 0, none⟩) n c1 := hV 17 (by decide)
    have d18 : (xs 18) = .int .i64 (at' : Nat) := hV 18 (by decide)
    have d19 : (xs 19) = .int .i64 (st : Nat) := hV 19 (by decide)
    have d20 : (xs 20) = .int .i64 (A3 : Nat) := hV 20 (by decide)
    have d21 : (xs 21) = .pointer (some ⟨g, A3, none⟩) := hV 21 (by decide)
    have d22 : (xs 22) = .int .i64 v3 := hV 22 (by decide)
    have d23 : (xs 23) = .int .i64 L := hV 23 (by decide)
    have d24 : (xs 24) = .tuple #[.int .i64 f1, .int .i64 f2] := hV 24 (by decide)
    have d25 : (xs 25) = .tuple #[.int .i64 f1, .int .i64 f2] := hV 25 (by decide)
    have d26 : (xs 26) = .int .i64 f1 := hV 26 (by decide)
    have d27 : (xs 27) = .int .i64 f2 := hV 27 (by decide)
    have d28 : (xs 28) = .pointer (some ⟨g, A1, none⟩) := hV 28 (by decide)
    have d30 : (xs 30) = .pointer (some ⟨g, at', none⟩) := hV 30 (by decide)
    clear hV
    simp only [patchS, Nat.reduceAdd, Nat.reduceEqDiff, ↓reduceIte]
    generalize xs 0 = y0 at *
    generalize xs 1 = y1 at *
    generalize xs 2 = y2 at *
    generalize xs 3 = y3 at *
    generalize xs 4 = y4 at *
    generalize xs 5 = y5 at *
    generalize xs 6 = y6 at *
    generalize xs 7 = y7 at *
    generalize xs 8 = y8 at *
    generalize xs 9 = y9 at *
    generalize xs 10 = y10 at *
    generalize xs 11 = y11 at *
    generalize xs 12 = y12 at *
    generalize xs 13 = y13 at *
    generalize xs 14 = y14 at *
    generalize xs 15 = y15 at *
    generalize xs 16 = y16 at *
    generalize xs 17 = y17 at *
    generalize xs 18 = y18 at *
    generalize xs 19 = y19 at *
    generalize xs 20 = y20 at *
    generalize xs 21 = y21 at *
    generalize xs 22 = y22 at *
    generalize xs 23 = y23 at *
    generalize xs 24 = y24 at *
    generalize xs 25 = y25 at *
    generalize xs 26 = y26 at *
    generalize xs 27 = y27 at *
    generalize xs 28 = y28 at *
    generalize xs 29 = y29 at *
    generalize xs 30 = y30 at *
    generalize xs 31 = y31 at *
    replace hG : BG w W' B O g W H n c c1 a L (stZ Z A1 f1 at' f2 (Lx 29) (Lx 31)) wx := hG
    clear d0 d1 d2 d3 d4 d5 d6 d7 d8 d9 d10 d11 d12 d13 d14 d15 d16 d17 d18 d19 d20 d21 d22 d23 d24 d25 d26 d27 d28 d30
    rw [l29, l31] at hG
    gi_wp2
    have hfin : stZ Z A1 f1 at' f2 true true = dbS L Z (at', st) := HdbS.out.symm
    rw [hfin] at hG
    have hGd := hG.db
    rw [← Hnew.out] at hGd
    rw [← Hnew.out] at S4
    exact ⟨by rw [hs1]; exact hG.kf, hG.kb, S4, hGd, hG.lim⟩
  case done =>
    rintro D ys W' hD hS ⟨hsm, hDB, hl⟩ hK
    have HS := Lib.hid hS
    clear hS hsm
    rw [HS.out] at hDB
    obtain ⟨-, o0, o1, o2, -⟩ := bx3 hDB.out
    obtain ⟨-, r0, r1, r2, f0, f1, f2⟩ := bx3 hDB.res
    have hg1 := hDB.gB
    have hw1 := hDB.wB
    have hgO2 := hDB.gO
    have hres := blk_set3 (x' := .int .i64 W) (y' := .int .i64 H) (z' := .slice (some ⟨g, 0, none⟩) n c1) hDB.res
    have hown := own_gr (own_gr (own_gr hDB.own (gr_set _ (B + 1) 0 (.int .i64 W)) (by omega)) (gr_set _ (B + 1) 1 (.int .i64 H)) (by omega)) (gr_set _ (B + 1) 2 (.slice (some ⟨g, 0, none⟩) n c1)) (by omega)
    have hext := Ext.grown (Ext.grown (Ext.grown hDB.ext (gr_set _ (B + 1) 0 (.int .i64 W)) (fun k e => by cases e; omega)) (gr_set _ (B + 1) 1 (.int .i64 H)) (fun k e => by cases e; omega)) (gr_set _ (B + 1) 2 (.slice (some ⟨g, 0, none⟩) n c1)) (fun k e => by cases e; omega)
    have hK2 : (((W'.setCell ⟨B + 1, 0, none⟩ (.int .i64 W)).setCell ⟨B + 1, 1, none⟩ (.int .i64 H)).setCell ⟨B + 1, 2, none⟩ (.slice (some ⟨g, 0, none⟩) n c1)).heap[D]? = some (.deferred (some [])) := blk_set_other (blk_set_other (blk_set_other hK (by omega)) (by omega)) (by omega)
    rw [hs1] at hD
    go_wp2
    refine ⟨by simp, .inl ⟨_, _, rfl, run_takeDeferred hK2, ?_⟩⟩
    refine ⟨_, results_cell_row rfl _ _ (B + 1) 46 #[.int .i64 W, .int .i64 H, .slice (some ⟨g, 0, none⟩) n c1] (0, 0) _ rfl (blk_putObj hres (by omega) _) Tryd.underlying46 rfl size_Picture, _, _, rfl, ?_, ext_putObj hext (by omega) _⟩
    exact owns_mono (hown.kept (grownBy_putObj' _ D (.deferred none)) (.inr (by intro e; simp [Value.ownBlock] at e; omega))) (by omega)
  case stop =>
    rintro D c pre W' _ _ h _
    exact h.elim
set_option maxRecDepth 100000 in
theorem impl_Deblock_no (p : Pic) (q : Int) (a : Option Addr) (c n : Nat) (w : World) (hv : ¬ (p.valid ∧ 0 ≤ q ∧ q ≤ 15)) (hn : n = p.px.length) (hc : n ≤ 9223372036854775807) (r : Sl w a n (p.px.map (Value.int .i64))) :
    Calls Tryd.prog 23 #[.agg #[.int .i64 p.w, .int .i64 p.h, .slice a n c], .int .i64 q] w fun e w' => e = .returned (.agg #[.int .i64 0, .int .i64 0, .slice none 0 0]) ∧ Ext w w' := by
  have HV := Lib.hid (fun (w : World) (r : Sl w a n (p.px.map (Value.int .i64))) => impl_PictureValid_any p a c n w hn hc r)
  have p0 := blk_alloc (blk_new w (.cells #[.int .i64 p.w, .int .i64 p.h, .slice a n c] 46)) (.cells #[.int .i64 0, .int .i64 0, .slice none 0 0] 46)
  have r0 := blk_new (w.alloc (.cells #[.int .i64 p.w, .int .i64 p.h, .slice a n c] 46)) (.cells #[.int .i64 0, .int .i64 0, .slice none 0 0] 46)
  have E0 := (Ext.alloc w (.cells #[.int .i64 p.w, .int .i64 p.h, .slice a n c] 46)).trans (Ext.alloc _ (.cells #[.int .i64 0, .int .i64 0, .slice none 0 0] 46))
  simp only [World.size_alloc] at r0
  have HN := Lib.hid hn
  clear hn
  go_enter Tryd.func23, Tryd.ntmps23
  go_wp2_with fail
  refine (HV.out _ (r.ext E0)).mono ?_
  rintro e w1 ⟨rfl, e1⟩
  have r1 := e1.blk r0
  have E1 := E0.trans e1
  clear p0 r0 E0 e1
  obtain ⟨-, s0, s1, s2, f0, f1, f2⟩ := bx3 r1
  have hb1 := lt_of_block r1
  have hres := blk_set3 (x' := .int .i64 0) (y' := .int .i64 0) (z' := .slice none 0 0) r1
  have hext := Ext.grown (Ext.grown (Ext.grown E1 (gr_set _ (w.heap.size + 1) 0 (.int .i64 0)) (fun k e => by cases e; omega)) (gr_set _ (w.heap.size + 1) 1 (.int .i64 0)) (fun k e => by cases e; omega)) (gr_set _ (w.heap.size + 1) 2 (.slice none 0 0)) (fun k e => by cases e; omega)
  by_cases h1 : p.valid
  · rw [decide_eq_true h1]
    have hq : q < 0 ∨ 15 < q := by
      refine Classical.byContradiction fun hq => hv ⟨h1, by omega, by omega⟩
    clear hv h1
    go_wp2_with fail
    refine (qualityValid_no _ _ hq).mono ?_
    rintro e w2 ⟨rfl, rfl⟩
    go_wp2
    exact bodyPost_ret (v := .agg #[.int .i64 0, .int .i64 0, .slice none 0 0]) (results_cell_row rfl _ _ (w.heap.size + 1) 46 #[.int .i64 0, .int .i64 0, .slice none 0 0] (0, 0) _ rfl hres Tryd.underlying46 rfl size_Picture) rfl ⟨rfl, hext⟩
  · rw [decide_eq_false h1]
    clear hv h1
    go_wp2
    exact bodyPost_ret (v := .agg #[.int .i64 0, .int .i64 0, .slice none 0 0]) (results_cell_row rfl _ _ (w.heap.size + 1) 46 #[.int .i64 0, .int .i64 0, .slice none 0 0] (0, 0) _ rfl hres Tryd.underlying46 rfl size_Picture) rfl ⟨rfl, hext⟩
theorem impl_Deblock_any (p : Pic) (q : Int) (a : Option Addr) (c n : Nat) (w : World) (hT : TabQ w) (hn : n = p.px.length) (hc : n ≤ 9223372036854775807) (r : Sl w a n (p.px.map (Value.int .i64))) :
    Calls Tryd.prog 23 #[.agg #[.int .i64 p.w, .int .i64 p.h, .slice a n c], .int .i64 q] w fun e w' => ∃ a' c', e = .returned (.agg #[.int .i64 (dbPic p q).w, .int .i64 (dbPic p q).h, .slice a' (dbPic p q).px.length c']) ∧ w'.ownsRow w.heap.size 3 1 (.slice a' (dbPic p q).px.length c') (dbPic p q).px.length ((dbPic p q).px.map (Value.int .i64)) ∧ Ext w w' := by
  unfold dbPic
  by_cases h : p.valid ∧ 0 ≤ q ∧ q ≤ 15
  · rw [if_pos h]
    obtain ⟨W, hW⟩ : ∃ W : Nat, p.w = W := ⟨p.w.toNat, by have := h.1.1.1; omega⟩
    obtain ⟨H, hH⟩ : ∃ H : Nat, p.h = H := ⟨p.h.toNat, by have := h.1.2.1.1; omega⟩
    have hnn : n = W * H := by
      have := h.1.2.2.1
      rw [← hn, hW, hH, ← Int.natCast_mul] at this
      exact Int.ofNat.inj this
    have hs1 := h.1.1
    have hs2 := h.1.2.1
    rw [hW] at hs1
    rw [hH] at hs2
    have h2 := impl_Deblock_in W H n q.toNat a c p.px w hT hs1 hs2 hnn h.1.2.2.2 r (by omega)
    rw [show ((q.toNat : Nat) : Int) = q by omega] at h2
    simp only [dbL_len, ← hn, hW, hH, Int.toNat_natCast]
    exact h2
  · rw [if_neg h]
    refine (impl_Deblock_no p q a c n w h hn hc r).mono ?_
    rintro e w' ⟨rfl, e1⟩
    exact ⟨none, 0, rfl, World.ownsRow_nil _ _ _ _, e1⟩
end Go.Proofs.YtlmoeabchiddnaaDoor
