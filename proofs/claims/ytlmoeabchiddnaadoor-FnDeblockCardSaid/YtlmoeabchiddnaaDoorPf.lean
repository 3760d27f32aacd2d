/- Pictures copied, both sides. -/
import Derived.Test.YtlmoeabchiddnaaDoorPv
import Derived.Test.YtlmoeabchiddnaaDoorApp
import Derived.Test.YtlmoeabchiddnaaDoorKeep
import Derived.Test.YtlmoeabchiddnaaDoorRegion
import Derived.Test.YtlmoeabchiddnaaDoorIa
import Derived.Deep.Cut
namespace Go.Proofs.YtlmoeabchiddnaaDoor
open Go.RowKit
set_option maxHeartbeats 1000000
theorem one_i64 (zs : List Int) : ∀ u ∈ zs.map (Value.int .i64), u.oneCell' = true := by
  intro u hu
  obtain ⟨z, -, rfl⟩ := List.mem_map.1 hu
  rfl
theorem ext_noneP {w w' : World} {r : Option Nat} (g : w.grownBy w' r) (hr : r = none) : Ext w w' := Ext.grown (Below.refl _ _) g (fun k hk => by rw [hr] at hk; cases hk)
set_option maxRecDepth 100000 in
theorem clone_any (W H : Int) (a : Option Addr) (c n : Nat) (zs : List Int) (w : World) (hn : n < 2^40) (r : Sl w a n (zs.map (Value.int .i64))) :
    Calls Tryd.prog 69 #[.agg #[.int .i64 W, .int .i64 H, .slice a n c]] w fun e w' => ∃ a' c', e = .returned (.agg #[.int .i64 W, .int .i64 H, .slice a' n c']) ∧ w'.ownsRow w.heap.size 3 1 (.slice a' n c') n (zs.map (Value.int .i64)) ∧ Ext w w' := by
  have p0 := blk_alloc (blk_new w (.cells #[.int .i64 W, .int .i64 H, .slice a n c] 46)) (.cells #[.int .i64 0, .int .i64 0, .slice none 0 0] 46)
  have r0 := blk_new (w.alloc (.cells #[.int .i64 W, .int .i64 H, .slice a n c] 46)) (.cells #[.int .i64 0, .int .i64 0, .slice none 0 0] 46)
  have E0 := (Ext.alloc w (.cells #[.int .i64 W, .int .i64 H, .slice a n c] 46)).trans (Ext.alloc _ (.cells #[.int .i64 0, .int .i64 0, .slice none 0 0] 46))
  have hs : ((w.alloc (.cells #[.int .i64 W, .int .i64 H, .slice a n c] 46)).alloc (.cells #[.int .i64 0, .int .i64 0, .slice none 0 0] 46)).heap.size = w.heap.size + 1 + 1 := by simp
  simp only [World.size_alloc] at r0
  go_enter Tryd.func69, Tryd.ntmps69
  go_upto_region 1 with fail
  try simp only [World.size_alloc]
  generalize (w.alloc (.cells #[.int .i64 W, .int .i64 H, .slice a n c] 46)).alloc (.cells #[.int .i64 0, .int .i64 0, .slice none 0 0] 46) = w0 at *
  obtain ⟨B, hB⟩ : ∃ B, B = w.heap.size := ⟨_, rfl⟩
  rw [← hB] at p0 r0 hs ⊢
  have HB := Lib.hid hB
  have hsz : B + 2 ≤ w0.heap.size := by omega
  have hwB : w.heap.size ≤ B := by omega
  clear hB hs
  have hext : ∀ (i : Nat) (own : Value) (ys : Nat → Value) (wa wb : World), Ext wa wb → (match i with | 0 => own = .pointer (some ⟨B, 0, none⟩) | 1 => own = .int .i64 W | 2 => own = .pointer (some ⟨B, 1, none⟩) | 3 => own = .int .i64 H | 4 => own = .pointer (some ⟨B, 2, none⟩) | 5 => own = .slice a n c | 6 => ∃ (a1 : Option Addr) (c1 : Nat), own = .slice a1 n c1 ∧ wa.ownsRow (B + 2) 3 1 (.slice a1 n c1) n (zs.map (Value.int .i64)) | 7 => ∃ (a1 : Option Addr) (c1 : Nat), own = .agg #[.int .i64 W, .int .i64 H, .slice a1 n c1] ∧ wa.ownsRow (B + 2) 3 1 (.slice a1 n c1) n (zs.map (Value.int .i64)) | 8 => ∃ (a1 : Option Addr) (c1 : Nat), wa.heap[B + 1]? = some (.cells #[.int .i64 W, .int .i64 H, .slice a1 n c1] 46 (0, 0)) ∧ wa.ownsRow (B + 2) 3 1 (.slice a1 n c1) n (zs.map (Value.int .i64)) | _ => True) → (match i with | 0 => own = .pointer (some ⟨B, 0, none⟩) | 1 => own = .int .i64 W | 2 => own = .pointer (some ⟨B, 1, none⟩) | 3 => own = .int .i64 H | 4 => own = .pointer (some ⟨B, 2, none⟩) | 5 => own = .slice a n c | 6 => ∃ (a1 : Option Addr) (c1 : Nat), own = .slice a1 n c1 ∧ wb.ownsRow (B + 2) 3 1 (.slice a1 n c1) n (zs.map (Value.int .i64)) | 7 => ∃ (a1 : Option Addr) (c1 : Nat), own = .agg #[.int .i64 W, .int .i64 H, .slice a1 n c1] ∧ wb.ownsRow (B + 2) 3 1 (.slice a1 n c1) n (zs.map (Value.int .i64)) | 8 => ∃ (a1 : Option Addr) (c1 : Nat), wb.heap[B + 1]? = some (.cells #[.int .i64 W, .int .i64 H, .slice a1 n c1] 46 (0, 0)) ∧ wb.ownsRow (B + 2) 3 1 (.slice a1 n c1) n (zs.map (Value.int .i64)) | _ => True) := by
    intro i own ys wa wb e h
    match i, h with
    | 0, h => exact h
    | 1, h => exact h
    | 2, h => exact h
    | 3, h => exact h
    | 4, h => exact h
    | 5, h => exact h
    | 6, h => obtain ⟨a2, c2, h1, h2⟩ := h; exact ⟨a2, c2, h1, owns_ext h2 e⟩
    | 7, h => obtain ⟨a2, c2, h1, h2⟩ := h; exact ⟨a2, c2, h1, owns_ext h2 e⟩
    | 8, h => obtain ⟨a2, c2, h1, h2⟩ := h; exact ⟨a2, c2, e.blk h1, owns_ext h2 e⟩
    | _ + 9, _ => trivial
  have Hext := Lib.hid hext
  clear hext
  refine wp_region_inv2 (by kernel_rfl) [(3, 0), (4, 1), (5, 2), (6, 3), (7, 4), (8, 5), (9, 6), (10, 7)] [[], [0], [], [2], [], [4], [4, 5], [0, 1, 2, 3, 4, 5, 6], [0, 1, 2, 3, 4, 5, 6, 7]] (fun i own ys wx => match i with | 0 => own = .pointer (some ⟨B, 0, none⟩) | 1 => own = .int .i64 W | 2 => own = .pointer (some ⟨B, 1, none⟩) | 3 => own = .int .i64 H | 4 => own = .pointer (some ⟨B, 2, none⟩) | 5 => own = .slice a n c | 6 => ∃ (a1 : Option Addr) (c1 : Nat), own = .slice a1 n c1 ∧ wx.ownsRow (B + 2) 3 1 (.slice a1 n c1) n (zs.map (Value.int .i64)) | 7 => ∃ (a1 : Option Addr) (c1 : Nat), own = .agg #[.int .i64 W, .int .i64 H, .slice a1 n c1] ∧ wx.ownsRow (B + 2) 3 1 (.slice a1 n c1) n (zs.map (Value.int .i64)) | 8 => ∃ (a1 : Option Addr) (c1 : Nat), wx.heap[B + 1]? = some (.cells #[.int .i64 W, .int .i64 H, .slice a1 n c1] 46 (0, 0)) ∧ wx.ownsRow (B + 2) 3 1 (.slice a1 n c1) n (zs.map (Value.int .i64)) | _ => True) (fun kx wx => Ext w wx ∧ B + 2 ≤ wx.heap.size ∧ wx.heap[B]? = some (.cells #[.int .i64 W, .int .i64 H, .slice a n c] 46 (0, 0)) ∧ ∃ x y z : Value, wx.heap[B + 1]? = some (.cells #[x, y, z] 46 (0, 0))) (by kernel_rfl) (by kernel_rfl) (by kernel_rfl) ?g0_r1 ?gop_r1 ?gend_r1
  case g0_r1 => exact ⟨Ext.trans_drewN E0 1, hsz, p0, _, _, _, r0⟩
  case gop_r1 =>
    refine ⟨?_, ?_, ?_, ?_, ?_, ?_, ?_, ?_, ?_, trivial⟩
    · intro kx xs wx hk hG hD hI Qo Kx hK hQo
      clear hD
      clear hI
      simp only [patchS, Nat.reduceAdd, Nat.reduceEqDiff, ↓reduceIte] at hQo ⊢
      go_wp2
      exact hK.out _ _ ⟨rfl, hG, fun _ _ _ _ _ _ h => h⟩
    · intro kx xs wx hk hG hD hI Qo Kx hK hQo
      have d0 : (xs 0) = .pointer (some ⟨B, 0, none⟩) := hD 0 rfl
      clear hD
      clear hI
      simp only [patchS, Nat.reduceAdd, Nat.reduceEqDiff, ↓reduceIte] at hQo ⊢
      generalize xs 0 = y0 at *
      subst d0
      obtain ⟨-, k0, k1, k2, -⟩ := bx3 hG.2.2.1
      go_wp2
      exact hK.out _ _ ⟨rfl, hG, fun _ _ _ _ _ _ h => h⟩
    · intro kx xs wx hk hG hD hI Qo Kx hK hQo
      clear hD
      clear hI
      simp only [patchS, Nat.reduceAdd, Nat.reduceEqDiff, ↓reduceIte] at hQo ⊢
      go_wp2
      exact hK.out _ _ ⟨rfl, hG, fun _ _ _ _ _ _ h => h⟩
    · intro kx xs wx hk hG hD hI Qo Kx hK hQo
      have d2 : (xs 2) = .pointer (some ⟨B, 1, none⟩) := hD 2 rfl
      clear hD
      clear hI
      simp only [patchS, Nat.reduceAdd, Nat.reduceEqDiff, ↓reduceIte] at hQo ⊢
      generalize xs 2 = y2 at *
      subst d2
      obtain ⟨-, k0, k1, k2, -⟩ := bx3 hG.2.2.1
      go_wp2
      exact hK.out _ _ ⟨rfl, hG, fun _ _ _ _ _ _ h => h⟩
    · intro kx xs wx hk hG hD hI Qo Kx hK hQo
      clear hD
      clear hI
      simp only [patchS, Nat.reduceAdd, Nat.reduceEqDiff, ↓reduceIte] at hQo ⊢
      go_wp2
      exact hK.out _ _ ⟨rfl, hG, fun _ _ _ _ _ _ h => h⟩
    · intro kx xs wx hk hG hD hI Qo Kx hK hQo
      have d4 : (xs 4) = .pointer (some ⟨B, 2, none⟩) := hD 4 rfl
      clear hD
      clear hI
      simp only [patchS, Nat.reduceAdd, Nat.reduceEqDiff, ↓reduceIte] at hQo ⊢
      generalize xs 4 = y4 at *
      subst d4
      obtain ⟨-, k0, k1, k2, -⟩ := bx3 hG.2.2.1
      go_wp2
      exact hK.out _ _ ⟨rfl, hG, fun _ _ _ _ _ _ h => h⟩
    · intro kx xs wx hk hG hD hI Qo Kx hK hQo
      have d5 : (xs 5) = .slice a n c := hD 5 rfl
      clear hD
      clear hI
      simp only [patchS, Nat.reduceAdd, Nat.reduceEqDiff, ↓reduceIte] at hQo ⊢
      generalize xs 5 = y5 at *
      subst d5
      refine wpList_apps _ (World.ownsRow_nil _ (B + 2) _ _) hG.2.1 rfl _ _ 29 rfl (.int .i64 0) 8 Tryd.underlying29 info_int rfl rfl a n c _ rfl (r.ext hG.1) (one_i64 zs) (by omega) (by omega) ?_
      intro v14 w14 own14 gr14
      rw [Nat.zero_add, List.nil_append] at own14
      obtain ⟨a14, c14, rfl⟩ := owns_form own14
      have e8 := ext_noneP gr14 rfl
      obtain ⟨g1, g2, g3, x, y, z, g4⟩ := hG
      exact hQo _ _ (hK.out _ _ ⟨⟨_, _, rfl, own14⟩, ⟨g1.trans e8, Nat.le_trans g2 e8.size, e8.blk g3, x, y, z, e8.blk g4⟩, fun i _ _ _ own ys h => Hext.out i own ys _ _ e8 h⟩)
    · intro kx xs wx hk hG hD hI Qo Kx hK hQo
      have d1 : (xs 1) = .int .i64 W := hD 1 rfl
      have d3 : (xs 3) = .int .i64 H := hD 3 rfl
      have d6 : ∃ (a1 : Option Addr) (c1 : Nat), (xs 6) = .slice a1 n c1 ∧ wx.ownsRow (B + 2) 3 1 (.slice a1 n c1) n (zs.map (Value.int .i64)) := hD 6 rfl
      clear hD
      clear hI
      simp only [patchS, Nat.reduceAdd, Nat.reduceEqDiff, ↓reduceIte] at hQo ⊢
      generalize xs 1 = y1 at *
      generalize xs 3 = y3 at *
      generalize xs 6 = y6 at *
      subst d1
      subst d3
      obtain ⟨a1, c1, rfl, o1⟩ := d6
      go_wp2
      exact hK.out _ _ ⟨⟨_, _, rfl, o1⟩, hG, fun _ _ _ _ _ _ h => h⟩
    · intro kx xs wx hk hG hD hI Qo Kx hK hQo
      have d7 : ∃ (a1 : Option Addr) (c1 : Nat), (xs 7) = .agg #[.int .i64 W, .int .i64 H, .slice a1 n c1] ∧ wx.ownsRow (B + 2) 3 1 (.slice a1 n c1) n (zs.map (Value.int .i64)) := hD 7 rfl
      clear hD
      clear hI
      simp only [patchS, Nat.reduceAdd, Nat.reduceEqDiff, ↓reduceIte] at hQo ⊢
      generalize xs 7 = y7 at *
      obtain ⟨a7, c7, rfl, o7⟩ := d7
      obtain ⟨g1, g2, g3, x, y, z, g4⟩ := hG
      obtain ⟨-, k0, k1, k2, f0, f1, f2⟩ := bx3 g4
      go_wp2
      have hst : ∀ (wy : World), (∀ (v : Value) (xs : List Value), wx.ownsRow (B + 2) 3 1 v n xs → wy.ownsRow (B + 2) 3 1 v n xs) → ∀ (ii : Nat), ii < 9 → ii ≠ 8 → ([[], [0], [], [2], [], [4], [4, 5], [0, 1, 2, 3, 4, 5, 6], [0, 1, 2, 3, 4, 5, 6, 7]].getD ii []).contains 8 = false → ∀ (own : Value) (ys : Nat → Value), (match ii with | 0 => own = .pointer (some ⟨B, 0, none⟩) | 1 => own = .int .i64 W | 2 => own = .pointer (some ⟨B, 1, none⟩) | 3 => own = .int .i64 H | 4 => own = .pointer (some ⟨B, 2, none⟩) | 5 => own = .slice a n c | 6 => ∃ (a1 : Option Addr) (c1 : Nat), own = .slice a1 n c1 ∧ wx.ownsRow (B + 2) 3 1 (.slice a1 n c1) n (zs.map (Value.int .i64)) | 7 => ∃ (a1 : Option Addr) (c1 : Nat), own = .agg #[.int .i64 W, .int .i64 H, .slice a1 n c1] ∧ wx.ownsRow (B + 2) 3 1 (.slice a1 n c1) n (zs.map (Value.int .i64)) | 8 => ∃ (a1 : Option Addr) (c1 : Nat), wx.heap[B + 1]? = some (.cells #[.int .i64 W, .int .i64 H, .slice a1 n c1] 46 (0, 0)) ∧ wx.ownsRow (B + 2) 3 1 (.slice a1 n c1) n (zs.map (Value.int .i64)) | _ => True) → (match ii with | 0 => own = .pointer (some ⟨B, 0, none⟩) | 1 => own = .int .i64 W | 2 => own = .pointer (some ⟨B, 1, none⟩) | 3 => own = .int .i64 H | 4 => own = .pointer (some ⟨B, 2, none⟩) | 5 => own = .slice a n c | 6 => ∃ (a1 : Option Addr) (c1 : Nat), own = .slice a1 n c1 ∧ wy.ownsRow (B + 2) 3 1 (.slice a1 n c1) n (zs.map (Value.int .i64)) | 7 => ∃ (a1 : Option Addr) (c1 : Nat), own = .agg #[.int .i64 W, .int .i64 H, .slice a1 n c1] ∧ wy.ownsRow (B + 2) 3 1 (.slice a1 n c1) n (zs.map (Value.int .i64)) | 8 => ∃ (a1 : Option Addr) (c1 : Nat), wy.heap[B + 1]? = some (.cells #[.int .i64 W, .int .i64 H, .slice a1 n c1] 46 (0, 0)) ∧ wy.ownsRow (B + 2) 3 1 (.slice a1 n c1) n (zs.map (Value.int .i64)) | _ => True) := by
        intro wy hy ii hii hne hc own ys h
        match ii, h with
        | 0, h => exact h
        | 1, h => exact h
        | 2, h => exact h
        | 3, h => exact h
        | 4, h => exact h
        | 5, h => exact h
        | 6, h => obtain ⟨a2, c2, h1, h2⟩ := h; exact ⟨a2, c2, h1, hy _ _ h2⟩
        | 7, h => obtain ⟨a2, c2, h1, h2⟩ := h; exact ⟨a2, c2, h1, hy _ _ h2⟩
        | 8, h => exact absurd rfl hne
        | _ + 9, _ => trivial
      have hz := blk_set3 (x' := .int .i64 W) (y' := .int .i64 H) (z' := .slice a7 n c7) g4
      have hg3 : (((wx.setCell ⟨B + 1, 0, none⟩ (.int .i64 W)).setCell ⟨B + 1, 1, none⟩ (.int .i64 H)).setCell ⟨B + 1, 2, none⟩ (.slice a7 n c7)).heap[B]? = _ := blk_set_other (blk_set_other (blk_set_other g3 (by omega)) (by omega)) (by omega)
      have hkeep : ∀ (v : Value) (xs : List Value), wx.ownsRow (B + 2) 3 1 v n xs → (((wx.setCell ⟨B + 1, 0, none⟩ (.int .i64 W)).setCell ⟨B + 1, 1, none⟩ (.int .i64 H)).setCell ⟨B + 1, 2, none⟩ (.slice a7 n c7)).ownsRow (B + 2) 3 1 v n xs := fun v xs h => own_gr (own_gr (own_gr h (gr_set _ _ _ _) (by omega)) (gr_set _ _ _ _) (by omega)) (gr_set _ _ _ _) (by omega)
      have hE : Ext w (((wx.setCell ⟨B + 1, 0, none⟩ (.int .i64 W)).setCell ⟨B + 1, 1, none⟩ (.int .i64 H)).setCell ⟨B + 1, 2, none⟩ (.slice a7 n c7)) := Ext.grown (Ext.grown (Ext.grown g1 (gr_set _ _ _ _) (fun k e => by cases e; omega)) (gr_set _ _ _ _) (fun k e => by cases e; omega)) (gr_set _ _ _ _) (fun k e => by cases e; omega)
      exact hQo undef _ (hK.out _ _ ⟨⟨a7, c7, hz, hkeep _ _ o7⟩, ⟨hE, by simp; omega, hg3, _, _, _, hz⟩, hst _ hkeep⟩)
  clear Hext
  intro xs wx hV hG
  have d0 : (xs 0) = .pointer (some ⟨B, 0, none⟩) := hV 0 (by decide)
  have d1 : (xs 1) = .int .i64 W := hV 1 (by decide)
  have d2 : (xs 2) = .pointer (some ⟨B, 1, none⟩) := hV 2 (by decide)
  have d3 : (xs 3) = .int .i64 H := hV 3 (by decide)
  have d4 : (xs 4) = .pointer (some ⟨B, 2, none⟩) := hV 4 (by decide)
  have d5 : (xs 5) = .slice a n c := hV 5 (by decide)
  have d6 : ∃ (a1 : Option Addr) (c1 : Nat), (xs 6) = .slice a1 n c1 ∧ wx.ownsRow (B + 2) 3 1 (.slice a1 n c1) n (zs.map (Value.int .i64)) := hV 6 (by decide)
  have d7 : ∃ (a1 : Option Addr) (c1 : Nat), (xs 7) = .agg #[.int .i64 W, .int .i64 H, .slice a1 n c1] ∧ wx.ownsRow (B + 2) 3 1 (.slice a1 n c1) n (zs.map (Value.int .i64)) := hV 7 (by decide)
  have d8 : ∃ (a1 : Option Addr) (c1 : Nat), wx.heap[B + 1]? = some (.cells #[.int .i64 W, .int .i64 H, .slice a1 n c1] 46 (0, 0)) ∧ wx.ownsRow (B + 2) 3 1 (.slice a1 n c1) n (zs.map (Value.int .i64)) := hV 8 (by decide)
  clear hV
  simp only [patchS, Nat.reduceAdd, Nat.reduceEqDiff, ↓reduceIte]
  generalize xs 0 = y0 at *
  generalize xs 1 = y1 at *
  generalize xs 2 = y2 at *
  generalize xs 3 = y3 at *
  generalize xs 4 = y4 at *
  generalize xs 5 = y5 at *
  generalize xs 6 = y6 at *
  generalize xs 7 = y7 at *
  generalize xs 8 = y8 at *
  replace hG : Ext w wx ∧ B + 2 ≤ wx.heap.size ∧ wx.heap[B]? = some (.cells #[.int .i64 W, .int .i64 H, .slice a n c] 46 (0, 0)) ∧ ∃ x y z : Value, wx.heap[B + 1]? = some (.cells #[x, y, z] 46 (0, 0)) := hG
  clear d0 d1 d2 d3 d4 d5 d6 d7
  obtain ⟨a8, c8, q8, o8⟩ := d8
  go_wp2
  exact bodyPost_ret (v := .agg #[.int .i64 W, .int .i64 H, .slice a8 n c8]) (results_cell_row rfl _ _ (B + 1) 46 #[.int .i64 W, .int .i64 H, .slice a8 n c8] (0, 0) _ rfl q8 Tryd.underlying46 rfl size_Picture) rfl ⟨a8, c8, rfl, owns_mono o8 (by omega), hG.1⟩
set_option maxRecDepth 100000 in
theorem l8Copy_any (W H : Int) (a : Option Addr) (c n : Nat) (zs : List Int) (w : World) (hn : n < 2^40) (hn0 : 0 < n) (r : Sl w a n (zs.map (Value.int .i64))) :
    Calls Tryd.prog 104 #[.agg #[.int .i64 W, .int .i64 H, .slice a n c]] w fun e w' => ∃ a' c', e = .returned (.agg #[.int .i64 W, .int .i64 H, .slice a' n c']) ∧ w'.ownsRow w.heap.size 3 1 (.slice a' n c') n (zs.map (Value.int .i64)) ∧ Ext w w' := by
  have p0 := blk_alloc (blk_new w (.cells #[.int .i64 W, .int .i64 H, .slice a n c] 46)) (.cells #[.int .i64 0, .int .i64 0, .slice none 0 0] 46)
  have r0 := blk_new (w.alloc (.cells #[.int .i64 W, .int .i64 H, .slice a n c] 46)) (.cells #[.int .i64 0, .int .i64 0, .slice none 0 0] 46)
  have E0 := (Ext.alloc w (.cells #[.int .i64 W, .int .i64 H, .slice a n c] 46)).trans (Ext.alloc _ (.cells #[.int .i64 0, .int .i64 0, .slice none 0 0] 46))
  have hs : ((w.alloc (.cells #[.int .i64 W, .int .i64 H, .slice a n c] 46)).alloc (.cells #[.int .i64 0, .int .i64 0, .slice none 0 0] 46)).heap.size = w.heap.size + 1 + 1 := by simp
  simp only [World.size_alloc] at r0
  go_enter Tryd.func104, Tryd.ntmps104
  go_upto_region 1 with fail
  try simp only [World.size_alloc]
  generalize (w.alloc (.cells #[.int .i64 W, .int .i64 H, .slice a n c] 46)).alloc (.cells #[.int .i64 0, .int .i64 0, .slice none 0 0] 46) = w0 at *
  obtain ⟨B, hB⟩ : ∃ B, B = w.heap.size := ⟨_, rfl⟩
  rw [← hB] at p0 r0 hs ⊢
  have HB := Lib.hid hB
  have hsz : B + 2 ≤ w0.heap.size := by omega
  have hwB : w.heap.size ≤ B := by omega
  clear hB hs
  have hext : ∀ (i : Nat) (own : Value) (ys : Nat → Value) (wa wb : World), Ext wa wb → (match i with | 0 => own = .pointer (some ⟨B, 0, none⟩) | 1 => own = .int .i64 W | 2 => own = .pointer (some ⟨B, 1, none⟩) | 3 => own = .int .i64 H | 4 => ∃ g : Nat, own = .slice (some ⟨g, 0, none⟩) 0 0 ∧ wa.ownsRow (B + 2) 3 1 (.slice (some ⟨g, 0, none⟩) 0 0) 0 [] | 5 => own = .pointer (some ⟨B, 2, none⟩) | 6 => own = .slice a n c | 7 => ∃ (a1 : Option Addr) (c1 : Nat), own = .slice a1 n c1 ∧ wa.ownsRow (B + 2) 3 1 (.slice a1 n c1) n (zs.map (Value.int .i64)) | 8 => ∃ (a1 : Option Addr) (c1 : Nat), own = .agg #[.int .i64 W, .int .i64 H, .slice a1 n c1] ∧ wa.ownsRow (B + 2) 3 1 (.slice a1 n c1) n (zs.map (Value.int .i64)) | 9 => ∃ (a1 : Option Addr) (c1 : Nat), wa.heap[B + 1]? = some (.cells #[.int .i64 W, .int .i64 H, .slice a1 n c1] 46 (0, 0)) ∧ wa.ownsRow (B + 2) 3 1 (.slice a1 n c1) n (zs.map (Value.int .i64)) | _ => True) → (match i with | 0 => own = .pointer (some ⟨B, 0, none⟩) | 1 => own = .int .i64 W | 2 => own = .pointer (some ⟨B, 1, none⟩) | 3 => own = .int .i64 H | 4 => ∃ g : Nat, own = .slice (some ⟨g, 0, none⟩) 0 0 ∧ wb.ownsRow (B + 2) 3 1 (.slice (some ⟨g, 0, none⟩) 0 0) 0 [] | 5 => own = .pointer (some ⟨B, 2, none⟩) | 6 => own = .slice a n c | 7 => ∃ (a1 : Option Addr) (c1 : Nat), own = .slice a1 n c1 ∧ wb.ownsRow (B + 2) 3 1 (.slice a1 n c1) n (zs.map (Value.int .i64)) | 8 => ∃ (a1 : Option Addr) (c1 : Nat), own = .agg #[.int .i64 W, .int .i64 H, .slice a1 n c1] ∧ wb.ownsRow (B + 2) 3 1 (.slice a1 n c1) n (zs.map (Value.int .i64)) | 9 => ∃ (a1 : Option Addr) (c1 : Nat), wb.heap[B + 1]? = some (.cells #[.int .i64 W, .int .i64 H, .slice a1 n c1] 46 (0, 0)) ∧ wb.ownsRow (B + 2) 3 1 (.slice a1 n c1) n (zs.map (Value.int .i64)) | _ => True) := by
    intro i own ys wa wb e h
    match i, h with
    | 0, h => exact h
    | 1, h => exact h
    | 2, h => exact h
    | 3, h => exact h
    | 4, h => obtain ⟨g, h1, h2⟩ := h; exact ⟨g, h1, owns_ext h2 e⟩
    | 5, h => exact h
    | 6, h => exact h
    | 7, h => obtain ⟨a2, c2, h1, h2⟩ := h; exact ⟨a2, c2, h1, owns_ext h2 e⟩
    | 8, h => obtain ⟨a2, c2, h1, h2⟩ := h; exact ⟨a2, c2, h1, owns_ext h2 e⟩
    | 9, h => obtain ⟨a2, c2, h1, h2⟩ := h; exact ⟨a2, c2, e.blk h1, owns_ext h2 e⟩
    | _ + 10, _ => trivial
  have Hext := Lib.hid hext
  clear hext
  refine wp_region_inv2 (by kernel_rfl) [(3, 0), (4, 1), (5, 2), (6, 3), (7, 4), (8, 5), (9, 6), (10, 7), (11, 8)] [[], [0], [], [2], [], [], [5], [4, 5, 6], [0, 1, 2, 3, 4, 5, 6, 7], [0, 1, 2, 3, 4, 5, 6, 7, 8]] (fun i own ys wx => match i with | 0 => own = .pointer (some ⟨B, 0, none⟩) | 1 => own = .int .i64 W | 2 => own = .pointer (some ⟨B, 1, none⟩) | 3 => own = .int .i64 H | 4 => ∃ g : Nat, own = .slice (some ⟨g, 0, none⟩) 0 0 ∧ wx.ownsRow (B + 2) 3 1 (.slice (some ⟨g, 0, none⟩) 0 0) 0 [] | 5 => own = .pointer (some ⟨B, 2, none⟩) | 6 => own = .slice a n c | 7 => ∃ (a1 : Option Addr) (c1 : Nat), own = .slice a1 n c1 ∧ wx.ownsRow (B + 2) 3 1 (.slice a1 n c1) n (zs.map (Value.int .i64)) | 8 => ∃ (a1 : Option Addr) (c1 : Nat), own = .agg #[.int .i64 W, .int .i64 H, .slice a1 n c1] ∧ wx.ownsRow (B + 2) 3 1 (.slice a1 n c1) n (zs.map (Value.int .i64)) | 9 => ∃ (a1 : Option Addr) (c1 : Nat), wx.heap[B + 1]? = some (.cells #[.int .i64 W, .int .i64 H, .slice a1 n c1] 46 (0, 0)) ∧ wx.ownsRow (B + 2) 3 1 (.slice a1 n c1) n (zs.map (Value.int .i64)) | _ => True) (fun kx wx => Ext w wx ∧ B + 2 ≤ wx.heap.size ∧ wx.heap[B]? = some (.cells #[.int .i64 W, .int .i64 H, .slice a n c] 46 (0, 0)) ∧ ∃ x y z : Value, wx.heap[B + 1]? = some (.cells #[x, y, z] 46 (0, 0))) (by kernel_rfl) (by kernel_rfl) (by kernel_rfl) ?g0_r2 ?gop_r2 ?gend_r2
  case g0_r2 => exact ⟨Ext.trans_drewN E0 1, hsz, p0, _, _, _, r0⟩
  case gop_r2 =>
    refine ⟨?_, ?_, ?_, ?_, ?_, ?_, ?_, ?_, ?_, ?_, trivial⟩
    · intro kx xs wx hk hG hD hI Qo Kx hK hQo
      clear hD
      clear hI
      simp only [patchS, Nat.reduceAdd, Nat.reduceEqDiff, ↓reduceIte] at hQo ⊢
      go_wp2
      exact hK.out _ _ ⟨rfl, hG, fun _ _ _ _ _ _ h => h⟩
    · intro kx xs wx hk hG hD hI Qo Kx hK hQo
      have d0 : (xs 0) = .pointer (some ⟨B, 0, none⟩) := hD 0 rfl
      clear hD
      clear hI
      simp only [patchS, Nat.reduceAdd, Nat.reduceEqDiff, ↓reduceIte] at hQo ⊢
      generalize xs 0 = y0 at *
      subst d0
      obtain ⟨-, k0, k1, k2, -⟩ := bx3 hG.2.2.1
      go_wp2
      exact hK.out _ _ ⟨rfl, hG, fun _ _ _ _ _ _ h => h⟩
    · intro kx xs wx hk hG hD hI Qo Kx hK hQo
      clear hD
      clear hI
      simp only [patchS, Nat.reduceAdd, Nat.reduceEqDiff, ↓reduceIte] at hQo ⊢
      go_wp2
      exact hK.out _ _ ⟨rfl, hG, fun _ _ _ _ _ _ h => h⟩
    · intro kx xs wx hk hG hD hI Qo Kx hK hQo
      have d2 : (xs 2) = .pointer (some ⟨B, 1, none⟩) := hD 2 rfl
      clear hD
      clear hI
      simp only [patchS, Nat.reduceAdd, Nat.reduceEqDiff, ↓reduceIte] at hQo ⊢
      generalize xs 2 = y2 at *
      subst d2
      obtain ⟨-, k0, k1, k2, -⟩ := bx3 hG.2.2.1
      go_wp2
      exact hK.out _ _ ⟨rfl, hG, fun _ _ _ _ _ _ h => h⟩
    · intro kx xs wx hk hG hD hI Qo Kx hK hQo
      clear hD
      clear hI
      simp only [patchS, Nat.reduceAdd, Nat.reduceEqDiff, ↓reduceIte] at hQo ⊢
      go_wp2
      have ha := Ext.alloc wx (.cells #[] 3)
      have o4 := World.ownsRow_made (base := B + 2) (e := 3) (size := 1) wx #[] 0 hG.2.1 (by simp) rfl
      obtain ⟨g1, g2, g3, x, y, z, g4⟩ := hG
      exact hK.out _ _ ⟨⟨_, rfl, o4⟩, ⟨g1.trans ha, Nat.le_trans g2 ha.size, ha.blk g3, x, y, z, ha.blk g4⟩, fun i _ _ _ own ys h => Hext.out i own ys _ _ ha h⟩
    · intro kx xs wx hk hG hD hI Qo Kx hK hQo
      clear hD
      clear hI
      simp only [patchS, Nat.reduceAdd, Nat.reduceEqDiff, ↓reduceIte] at hQo ⊢
      go_wp2
      exact hK.out _ _ ⟨rfl, hG, fun _ _ _ _ _ _ h => h⟩
    · intro kx xs wx hk hG hD hI Qo Kx hK hQo
      have d5 : (xs 5) = .pointer (some ⟨B, 2, none⟩) := hD 5 rfl
      clear hD
      clear hI
      simp only [patchS, Nat.reduceAdd, Nat.reduceEqDiff, ↓reduceIte] at hQo ⊢
      generalize xs 5 = y5 at *
      subst d5
      obtain ⟨-, k0, k1, k2, -⟩ := bx3 hG.2.2.1
      go_wp2
      exact hK.out _ _ ⟨rfl, hG, fun _ _ _ _ _ _ h => h⟩
    · intro kx xs wx hk hG hD hI Qo Kx hK hQo
      have d4 : ∃ g : Nat, (xs 4) = .slice (some ⟨g, 0, none⟩) 0 0 ∧ wx.ownsRow (B + 2) 3 1 (.slice (some ⟨g, 0, none⟩) 0 0) 0 [] := hD 4 rfl
      have d6 : (xs 6) = .slice a n c := hD 6 rfl
      clear hD
      clear hI
      simp only [patchS, Nat.reduceAdd, Nat.reduceEqDiff, ↓reduceIte] at hQo ⊢
      generalize xs 4 = y4 at *
      generalize xs 6 = y6 at *
      obtain ⟨g4, rfl, o4⟩ := d4
      subst d6
      have rx := r.ext hG.1
      obtain ⟨ad, hadr⟩ : ∃ ad, a = some ad := by obtain ⟨b1, o1, h1, -⟩ := rx.int hn0; exact ⟨_, h1⟩
      subst hadr
      refine wpList_appn _ rfl o4 hG.2.1 _ _ _ rfl (.int .i64 0) 8 Tryd.underlying29 info_int rfl (by decide) rfl ad n c _ rfl (by rw [rx.1]; omega) (rx.cellsOf _ hn0) (one_i64 zs) (by omega) (by omega) (by omega) ?_
      intro v14 w14 own14 e8
      rw [Nat.zero_add, List.nil_append] at own14
      obtain ⟨a14, c14, rfl⟩ := owns_form own14
      obtain ⟨g1, g2, g3, x, y, z, g4⟩ := hG
      exact hQo _ _ (hK.out _ _ ⟨⟨_, _, rfl, own14⟩, ⟨g1.trans e8, Nat.le_trans g2 e8.size, e8.blk g3, x, y, z, e8.blk g4⟩, fun i _ _ _ own ys h => Hext.out i own ys _ _ e8 h⟩)
    · intro kx xs wx hk hG hD hI Qo Kx hK hQo
      have d1 : (xs 1) = .int .i64 W := hD 1 rfl
      have d3 : (xs 3) = .int .i64 H := hD 3 rfl
      have d7 : ∃ (a1 : Option Addr) (c1 : Nat), (xs 7) = .slice a1 n c1 ∧ wx.ownsRow (B + 2) 3 1 (.slice a1 n c1) n (zs.map (Value.int .i64)) := hD 7 rfl
      clear hD
      clear hI
      simp only [patchS, Nat.reduceAdd, Nat.reduceEqDiff, ↓reduceIte] at hQo ⊢
      generalize xs 1 = y1 at *
      generalize xs 3 = y3 at *
      generalize xs 7 = y7 at *
      subst d1
      subst d3
      obtain ⟨a1, c1, rfl, o1⟩ := d7
      go_wp2
      exact hK.out _ _ ⟨⟨_, _, rfl, o1⟩, hG, fun _ _ _ _ _ _ h => h⟩
    · intro kx xs wx hk hG hD hI Qo Kx hK hQo
      have d8 : ∃ (a1 : Option Addr) (c1 : Nat), (xs 8) = .agg #[.int .i64 W, .int .i64 H, .slice a1 n c1] ∧ wx.ownsRow (B + 2) 3 1 (.slice a1 n c1) n (zs.map (Value.int .i64)) := hD 8 rfl
      clear hD
      clear hI
      simp only [patchS, Nat.reduceAdd, Nat.reduceEqDiff, ↓reduceIte] at hQo ⊢
      generalize xs 8 = y8 at *
      obtain ⟨a7, c7, rfl, o7⟩ := d8
      obtain ⟨g1, g2, g3, x, y, z, g4⟩ := hG
      obtain ⟨-, k0, k1, k2, f0, f1, f2⟩ := bx3 g4
      go_wp2
      have hst : ∀ (wy : World), (∀ (v : Value) (nn : Nat) (xs : List Value), wx.ownsRow (B + 2) 3 1 v nn xs → wy.ownsRow (B + 2) 3 1 v nn xs) → ∀ (ii : Nat), ii < 10 → ii ≠ 9 → ([[], [0], [], [2], [], [], [5], [4, 5, 6], [0, 1, 2, 3, 4, 5, 6, 7], [0, 1, 2, 3, 4, 5, 6, 7, 8]].getD ii []).contains 9 = false → ∀ (own : Value) (ys : Nat → Value), (match ii with | 0 => own = .pointer (some ⟨B, 0, none⟩) | 1 => own = .int .i64 W | 2 => own = .pointer (some ⟨B, 1, none⟩) | 3 => own = .int .i64 H | 4 => ∃ g : Nat, own = .slice (some ⟨g, 0, none⟩) 0 0 ∧ wx.ownsRow (B + 2) 3 1 (.slice (some ⟨g, 0, none⟩) 0 0) 0 [] | 5 => own = .pointer (some ⟨B, 2, none⟩) | 6 => own = .slice a n c | 7 => ∃ (a1 : Option Addr) (c1 : Nat), own = .slice a1 n c1 ∧ wx.ownsRow (B + 2) 3 1 (.slice a1 n c1) n (zs.map (Value.int .i64)) | 8 => ∃ (a1 : Option Addr) (c1 : Nat), own = .agg #[.int .i64 W, .int .i64 H, .slice a1 n c1] ∧ wx.ownsRow (B + 2) 3 1 (.slice a1 n c1) n (zs.map (Value.int .i64)) | 9 => ∃ (a1 : Option Addr) (c1 : Nat), wx.heap[B + 1]? = some (.cells #[.int .i64 W, .int .i64 H, .slice a1 n c1] 46 (0, 0)) ∧ wx.ownsRow (B + 2) 3 1 (.slice a1 n c1) n (zs.map (Value.int .i64)) | _ => True) → (match ii with | 0 => own = .pointer (some ⟨B, 0, none⟩) | 1 => own = .int .i64 W | 2 => own = .pointer (some ⟨B, 1, none⟩) | 3 => own = .int .i64 H | 4 => ∃ g : Nat, own = .slice (some ⟨g, 0, none⟩) 0 0 ∧ wy.ownsRow (B + 2) 3 1 (.slice (some ⟨g, 0, none⟩) 0 0) 0 [] | 5 => own = .pointer (some ⟨B, 2, none⟩) | 6 => own = .slice a n c | 7 => ∃ (a1 : Option Addr) (c1 : Nat), own = .slice a1 n c1 ∧ wy.ownsRow (B + 2) 3 1 (.slice a1 n c1) n (zs.map (Value.int .i64)) | 8 => ∃ (a1 : Option Addr) (c1 : Nat), own = .agg #[.int .i64 W, .int .i64 H, .slice a1 n c1] ∧ wy.ownsRow (B + 2) 3 1 (.slice a1 n c1) n (zs.map (Value.int .i64)) | 9 => ∃ (a1 : Option Addr) (c1 : Nat), wy.heap[B + 1]? = some (.cells #[.int .i64 W, .int .i64 H, .slice a1 n c1] 46 (0, 0)) ∧ wy.ownsRow (B + 2) 3 1 (.slice a1 n c1) n (zs.map (Value.int .i64)) | _ => True) := by
        intro wy hy ii hii hne hc own ys h
        match ii, h with
        | 0, h => exact h
        | 1, h => exact h
        | 2, h => exact h
        | 3, h => exact h
        | 4, h => obtain ⟨g, h1, h2⟩ := h; exact ⟨g, h1, hy _ _ _ h2⟩
        | 5, h => exact h
        | 6, h => exact h
        | 7, h => obtain ⟨a2, c2, h1, h2⟩ := h; exact ⟨a2, c2, h1, hy _ _ _ h2⟩
        | 8, h => obtain ⟨a2, c2, h1, h2⟩ := h; exact ⟨a2, c2, h1, hy _ _ _ h2⟩
        | 9, h => exact absurd rfl hne
        | _ + 10, _ => trivial
      have hz := blk_set3 (x' := .int .i64 W) (y' := .int .i64 H) (z' := .slice a7 n c7) g4
      have hg3 : (((wx.setCell ⟨B + 1, 0, none⟩ (.int .i64 W)).setCell ⟨B + 1, 1, none⟩ (.int .i64 H)).setCell ⟨B + 1, 2, none⟩ (.slice a7 n c7)).heap[B]? = _ := blk_set_other (blk_set_other (blk_set_other g3 (by omega)) (by omega)) (by omega)
      have hkeep : ∀ (v : Value) (nn : Nat) (xs : List Value), wx.ownsRow (B + 2) 3 1 v nn xs → (((wx.setCell ⟨B + 1, 0, none⟩ (.int .i64 W)).setCell ⟨B + 1, 1, none⟩ (.int .i64 H)).setCell ⟨B + 1, 2, none⟩ (.slice a7 n c7)).ownsRow (B + 2) 3 1 v nn xs := fun v nn xs h => own_gr (own_gr (own_gr h (gr_set _ _ _ _) (by omega)) (gr_set _ _ _ _) (by omega)) (gr_set _ _ _ _) (by omega)
      have hE : Ext w (((wx.setCell ⟨B + 1, 0, none⟩ (.int .i64 W)).setCell ⟨B + 1, 1, none⟩ (.int .i64 H)).setCell ⟨B + 1, 2, none⟩ (.slice a7 n c7)) := Ext.grown (Ext.grown (Ext.grown g1 (gr_set _ _ _ _) (fun k e => by cases e; omega)) (gr_set _ _ _ _) (fun k e => by cases e; omega)) (gr_set _ _ _ _) (fun k e => by cases e; omega)
      exact hQo undef _ (hK.out _ _ ⟨⟨a7, c7, hz, hkeep _ _ _ o7⟩, ⟨hE, by simp; omega, hg3, _, _, _, hz⟩, hst _ hkeep⟩)
  clear Hext
  intro xs wx hV hG
  have d0 : (xs 0) = .pointer (some ⟨B, 0, none⟩) := hV 0 (by decide)
  have d1 : (xs 1) = .int .i64 W := hV 1 (by decide)
  have d2 : (xs 2) = .pointer (some ⟨B, 1, none⟩) := hV 2 (by decide)
  have d3 : (xs 3) = .int .i64 H := hV 3 (by decide)
  have d4 : ∃ g : Nat, (xs 4) = .slice (some ⟨g, 0, none⟩) 0 0 ∧ wx.ownsRow (B + 2) 3 1 (.slice (some ⟨g, 0, none⟩) 0 0) 0 [] := hV 4 (by decide)
  have d5 : (xs 5) = .pointer (some ⟨B, 2, none⟩) := hV 5 (by decide)
  have d6 : (xs 6) = .slice a n c := hV 6 (by decide)
  have d7 : ∃ (a1 : Option Addr) (c1 : Nat), (xs 7) = .slice a1 n c1 ∧ wx.ownsRow (B + 2) 3 1 (.slice a1 n c1) n (zs.map (Value.int .i64)) := hV 7 (by decide)
  have d8 : ∃ (a1 : Option Addr) (c1 : Nat), (xs 8) = .agg #[.int .i64 W, .int .i64 H, .slice a1 n c1] ∧ wx.ownsRow (B + 2) 3 1 (.slice a1 n c1) n (zs.map (Value.int .i64)) := hV 8 (by decide)
  have d9 : ∃ (a1 : Option Addr) (c1 : Nat), wx.heap[B + 1]? = some (.cells #[.int .i64 W, .int .i64 H, .slice a1 n c1] 46 (0, 0)) ∧ wx.ownsRow (B + 2) 3 1 (.slice a1 n c1) n (zs.map (Value.int .i64)) := hV 9 (by decide)
  clear hV
  simp only [patchS, Nat.reduceAdd, Nat.reduceEqDiff, ↓reduceIte]
  generalize xs 0 = y0 at *
  generalize xs 1 = y1 at *
  generalize xs 2 = y2 at *
  generalize xs 3 = y3 at *
  generalize xs 4 = y4 at *
  generalize xs 5 = y5 at *
  generalize xs 6 = y6 at *
  generalize xs 7 = y7 at *
  generalize xs 8 = y8 at *
  generalize xs 9 = y9 at *
  replace hG : Ext w wx ∧ B + 2 ≤ wx.heap.size ∧ wx.heap[B]? = some (.cells #[.int .i64 W, .int .i64 H, .slice a n c] 46 (0, 0)) ∧ ∃ x y z : Value, wx.heap[B + 1]? = some (.cells #[x, y, z] 46 (0, 0)) := hG
  clear d0 d1 d2 d3 d4 d5 d6 d7 d8
  obtain ⟨a8, c8, q8, o8⟩ := d9
  go_wp2
  exact bodyPost_ret (v := .agg #[.int .i64 W, .int .i64 H, .slice a8 n c8]) (results_cell_row rfl _ _ (B + 1) 46 #[.int .i64 W, .int .i64 H, .slice a8 n c8] (0, 0) _ rfl q8 Tryd.underlying46 rfl size_Picture) rfl ⟨a8, c8, rfl, owns_mono o8 (by omega), hG.1⟩
end Go.Proofs.YtlmoeabchiddnaaDoor
