/- Pictures copied, both sides. | Reconstruct, both sides. | InterMacro, both sides. | The cost of a difference and the validity of the samples around a block, both sides. | The best prediction mode, both sides. -/
import Derived.Test.YtbnhaegidfbgbaaDoorQc10
import Derived.Deep.Cut
namespace Go.Proofs.YtbnhaegidfbgbaaDoor
open Go.RowKit
set_option maxHeartbeats 1000000
theorem one_i64 (zs : List Int) : ∀ u ∈ zs.map (Value.int .i64), u.oneCell' = true := by
  intro u hu
  obtain ⟨z, -, rfl⟩ := List.mem_map.1 hu
  rfl
theorem ext_noneP {w w' : World} {r : Option Nat} (g : w.grownBy w' r) (hr : r = none) : Ext w w' := Ext.grown (Below.refl _ _) g (fun k hk => by rw [hr] at hk; cases hk)
set_option maxRecDepth 100000 in
theorem clone_any (W H : Int) (a : Option Addr) (c n : Nat) (zs : List Int) (w : World) (hn : n < 2^40) (r : Sl w a n (zs.map (Value.int .i64))) :
    Calls Tryd.prog 55 #[.agg #[.int .i64 W, .int .i64 H, .slice a n c]] w fun e w' => ∃ a' c', e = .returned (.agg #[.int .i64 W, .int .i64 H, .slice a' n c']) ∧ w'.ownsRow w.heap.size 3 1 (.slice a' n c') n (zs.map (Value.int .i64)) ∧ Ext w w' := by
  have p0 := blk_alloc (blk_new w (.cells #[.int .i64 W, .int .i64 H, .slice a n c] 25)) (.cells #[.int .i64 0, .int .i64 0, .slice none 0 0] 25)
  have r0 := blk_new (w.alloc (.cells #[.int .i64 W, .int .i64 H, .slice a n c] 25)) (.cells #[.int .i64 0, .int .i64 0, .slice none 0 0] 25)
  have E0 := (Ext.alloc w (.cells #[.int .i64 W, .int .i64 H, .slice a n c] 25)).trans (Ext.alloc _ (.cells #[.int .i64 0, .int .i64 0, .slice none 0 0] 25))
  have hs : ((w.alloc (.cells #[.int .i64 W, .int .i64 H, .slice a n c] 25)).alloc (.cells #[.int .i64 0, .int .i64 0, .slice none 0 0] 25)).heap.size = w.heap.size + 1 + 1 := by simp
  simp only [World.size_alloc] at r0
  go_enter Tryd.func55, Tryd.ntmps55
  go_upto_region 1 with fail
  try simp only [World.size_alloc]
  generalize (w.alloc (.cells #[.int .i64 W, .int .i64 H, .slice a n c] 25)).alloc (.cells #[.int .i64 0, .int .i64 0, .slice none 0 0] 25) = w0 at *
  obtain ⟨B, hB⟩ : ∃ B, B = w.heap.size := ⟨_, rfl⟩
  rw [← hB] at p0 r0 hs ⊢
  have HB := Lib.hid hB
  have hsz : B + 2 ≤ w0.heap.size := by omega
  have hwB : w.heap.size ≤ B := by omega
  clear hB hs
  have hext : ∀ (i : Nat) (own : Value) (ys : Nat → Value) (wa wb : World), Ext wa wb → (match i with | 0 => own = .pointer (some ⟨B, 0, none⟩) | 1 => own = .int .i64 W | 2 => own = .pointer (some ⟨B, 1, none⟩) | 3 => own = .int .i64 H | 4 => own = .pointer (some ⟨B, 2, none⟩) | 5 => own = .slice a n c | 6 => ∃ (a1 : Option Addr) (c1 : Nat), own = .slice a1 n c1 ∧ wa.ownsRow (B + 2) 3 1 (.slice a1 n c1) n (zs.map (Value.int .i64)) | 7 => ∃ (a1 : Option Addr) (c1 : Nat), own = .agg #[.int .i64 W, .int .i64 H, .slice a1 n c1] ∧ wa.ownsRow (B + 2) 3 1 (.slice a1 n c1) n (zs.map (Value.int .i64)) | 8 => ∃ (a1 : Option Addr) (c1 : Nat), wa.heap[B + 1]? = some (.cells #[.int .i64 W, .int .i64 H, .slice a1 n c1] 25 (0, 0)) ∧ wa.ownsRow (B + 2) 3 1 (.slice a1 n c1) n (zs.map (Value.int .i64)) | _ => True) → (match i with | 0 => own = .pointer (some ⟨B, 0, none⟩) | 1 => own = .int .i64 W | 2 => own = .pointer (some ⟨B, 1, none⟩) | 3 => own = .int .i64 H | 4 => own = .pointer (some ⟨B, 2, none⟩) | 5 => own = .slice a n c | 6 => ∃ (a1 : Option Addr) (c1 : Nat), own = .slice a1 n c1 ∧ wb.ownsRow (B + 2) 3 1 (.slice a1 n c1) n (zs.map (Value.int .i64)) | 7 => ∃ (a1 : Option Addr) (c1 : Nat), own = .agg #[.int .i64 W, .int .i64 H, .slice a1 n c1] ∧ wb.ownsRow (B + 2) 3 1 (.slice a1 n c1) n (zs.map (Value.int .i64)) | 8 => ∃ (a1 : Option Addr) (c1 : Nat), wb.heap[B + 1]? = some (.cells #[.int .i64 W, .int .i64 H, .slice a1 n c1] 25 (0, 0)) ∧ wb.ownsRow (B + 2) 3 1 (.slice a1 n c1) n (zs.map (Value.int .i64)) | _ => True) := by
    intro i own ys wa wb e h
    match i, h with
    | 0, h => exact h
    | 1, h => exact h
    | 2, h => exact h
    | 3, h => exact h
    | 4, h => exact h
    | 5, h => exact h
    | 6, h => obtain ⟨a2, c2, h1, h2⟩ := h; exact ⟨a2, c2, h1, owns_ext h2 e⟩
    | 7, h => obtain ⟨a2, c2, h1, h2⟩ := h; exact ⟨a2, c2, h1, owns_ext h2 e⟩
    | 8, h => obtain ⟨a2, c2, h1, h2⟩ := h; exact ⟨a2, c2, e.blk h1, owns_ext h2 e⟩
    | _ + 9, _ => trivial
  have Hext := Lib.hid hext
  clear hext
  refine wp_region_inv2 (by kernel_rfl) [(3, 0), (4, 1), (5, 2), (6, 3), (7, 4), (8, 5), (9, 6), (10, 7)] [[], [0], [], [2], [], [4], [4, 5], [0, 1, 2, 3, 4, 5, 6], [0, 1, 2, 3, 4, 5, 6, 7]] (fun i own ys wx => match i with | 0 => own = .pointer (some ⟨B, 0, none⟩) | 1 => own = .int .i64 W | 2 => own = .pointer (some ⟨B, 1, none⟩) | 3 => own = .int .i64 H | 4 => own = .pointer (some ⟨B, 2, none⟩) | 5 => own = .slice a n c | 6 => ∃ (a1 : Option Addr) (c1 : Nat), own = .slice a1 n c1 ∧ wx.ownsRow (B + 2) 3 1 (.slice a1 n c1) n (zs.map (Value.int .i64)) | 7 => ∃ (a1 : Option Addr) (c1 : Nat), own = .agg #[.int .i64 W, .int .i64 H, .slice a1 n c1] ∧ wx.ownsRow (B + 2) 3 1 (.slice a1 n c1) n (zs.map (Value.int .i64)) | 8 => ∃ (a1 : Option Addr) (c1 : Nat), wx.heap[B + 1]? = some (.cells #[.int .i64 W, .int .i64 H, .slice a1 n c1] 25 (0, 0)) ∧ wx.ownsRow (B + 2) 3 1 (.slice a1 n c1) n (zs.map (Value.int .i64)) | _ => True) (fun kx wx => Ext w wx ∧ B + 2 ≤ wx.heap.size ∧ wx.heap[B]? = some (.cells #[.int .i64 W, .int .i64 H, .slice a n c] 25 (0, 0)) ∧ ∃ x y z : Value, wx.heap[B + 1]? = some (.cells #[x, y, z] 25 (0, 0))) (by kernel_rfl) (by kernel_rfl) (by kernel_rfl) ?g0_r1 ?gop_r1 ?gend_r1
  case g0_r1 => exact ⟨Ext.trans_drewN E0 1, hsz, p0, _, _, _, r0⟩
  case gop_r1 =>
    refine ⟨?_, ?_, ?_, ?_, ?_, ?_, ?_, ?_, ?_, trivial⟩
    · intro kx xs wx hk hG hD hI Qo Kx hK hQo
      clear hD
      clear hI
      simp only [patchS, Nat.reduceAdd, Nat.reduceEqDiff, ↓reduceIte] at hQo ⊢
      go_wp2
      exact hK.out _ _ ⟨rfl, hG, fun _ _ _ _ _ _ h => h⟩
    · intro kx xs wx hk hG hD hI Qo Kx hK hQo
      have d0 : (xs 0) = .pointer (some ⟨B, 0, none⟩) := hD 0 rfl
      clear hD
      clear hI
      simp only [patchS, Nat.reduceAdd, Nat.reduceEqDiff, ↓reduceIte] at hQo ⊢
      generalize xs 0 = y0 at *
      subst d0
      obtain ⟨-, k0, k1, k2, -⟩ := bx3 hG.2.2.1
      go_wp2
      exact hK.out _ _ ⟨rfl, hG, fun _ _ _ _ _ _ h => h⟩
    · intro kx xs wx hk hG hD hI Qo Kx hK hQo
      clear hD
      clear hI
      simp only [patchS, Nat.reduceAdd, Nat.reduceEqDiff, ↓reduceIte] at hQo ⊢
      go_wp2
      exact hK.out _ _ ⟨rfl, hG, fun _ _ _ _ _ _ h => h⟩
    · intro kx xs wx hk hG hD hI Qo Kx hK hQo
      have d2 : (xs 2) = .pointer (some ⟨B, 1, none⟩) := hD 2 rfl
      clear hD
      clear hI
      simp only [patchS, Nat.reduceAdd, Nat.reduceEqDiff, ↓reduceIte] at hQo ⊢
      generalize xs 2 = y2 at *
      subst d2
      obtain ⟨-, k0, k1, k2, -⟩ := bx3 hG.2.2.1
      go_wp2
      exact hK.out _ _ ⟨rfl, hG, fun _ _ _ _ _ _ h => h⟩
    · intro kx xs wx hk hG hD hI Qo Kx hK hQo
      clear hD
      clear hI
      simp only [patchS, Nat.reduceAdd, Nat.reduceEqDiff, ↓reduceIte] at hQo ⊢
      go_wp2
      exact hK.out _ _ ⟨rfl, hG, fun _ _ _ _ _ _ h => h⟩
    · intro kx xs wx hk hG hD hI Qo Kx hK hQo
      have d4 : (xs 4) = .pointer (some ⟨B, 2, none⟩) := hD 4 rfl
      clear hD
      clear hI
      simp only [patchS, Nat.reduceAdd, Nat.reduceEqDiff, ↓reduceIte] at hQo ⊢
      generalize xs 4 = y4 at *
      subst d4
      obtain ⟨-, k0, k1, k2, -⟩ := bx3 hG.2.2.1
      go_wp2
      exact hK.out _ _ ⟨rfl, hG, fun _ _ _ _ _ _ h => h⟩
    · intro kx xs wx hk hG hD hI Qo Kx hK hQo
      have d5 : (xs 5) = .slice a n c := hD 5 rfl
      clear hD
      clear hI
      simp only [patchS, Nat.reduceAdd, Nat.reduceEqDiff, ↓reduceIte] at hQo ⊢
      generalize xs 5 = y5 at *
      subst d5
      refine wpList_apps _ (World.ownsRow_nil _ (B + 2) _ _) hG.2.1 rfl _ _ 23 rfl (.int .i64 0) 8 Tryd.underlying23 info_int rfl rfl a n c _ rfl (r.ext hG.1) (one_i64 zs) (by omega) (by omega) ?_
      intro v14 w14 own14 gr14
      rw [Nat.zero_add, List.nil_append] at own14
      obtain ⟨a14, c14, rfl⟩ := owns_form own14
      have e8 := ext_noneP gr14 rfl
      obtain ⟨g1, g2, g3, x, y, z, g4⟩ := hG
      exact hQo _ _ (hK.out _ _ ⟨⟨_, _, rfl, own14⟩, ⟨g1.trans e8, Nat.le_trans g2 e8.size, e8.blk g3, x, y, z, e8.blk g4⟩, fun i _ _ _ own ys h => Hext.out i own ys _ _ e8 h⟩)
    · intro kx xs wx hk hG hD hI Qo Kx hK hQo
      have d1 : (xs 1) = .int .i64 W := hD 1 rfl
      have d3 : (xs 3) = .int .i64 H := hD 3 rfl
      have d6 : ∃ (a1 : Option Addr) (c1 : Nat), (xs 6) = .slice a1 n c1 ∧ wx.ownsRow (B + 2) 3 1 (.slice a1 n c1) n (zs.map (Value.int .i64)) := hD 6 rfl
      clear hD
      clear hI
      simp only [patchS, Nat.reduceAdd, Nat.reduceEqDiff, ↓reduceIte] at hQo ⊢
      generalize xs 1 = y1 at *
      generalize xs 3 = y3 at *
      generalize xs 6 = y6 at *
      subst d1
      subst d3
      obtain ⟨a1, c1, rfl, o1⟩ := d6
      go_wp2
      exact hK.out _ _ ⟨⟨_, _, rfl, o1⟩, hG, fun _ _ _ _ _ _ h => h⟩
    · intro kx xs wx hk hG hD hI Qo Kx hK hQo
      have d7 : ∃ (a1 : Option Addr) (c1 : Nat), (xs 7) = .agg #[.int .i64 W, .int .i64 H, .slice a1 n c1] ∧ wx.ownsRow (B + 2) 3 1 (.slice a1 n c1) n (zs.map (Value.int .i64)) := hD 7 rfl
      clear hD
      clear hI
      simp only [patchS, Nat.reduceAdd, Nat.reduceEqDiff, ↓reduceIte] at hQo ⊢
      generalize xs 7 = y7 at *
      obtain ⟨a7, c7, rfl, o7⟩ := d7
      obtain ⟨g1, g2, g3, x, y, z, g4⟩ := hG
      obtain ⟨-, k0, k1, k2, f0, f1, f2⟩ := bx3 g4
      go_wp2
      have hst : ∀ (wy : World), (∀ (v : Value) (xs : List Value), wx.ownsRow (B + 2) 3 1 v n xs → wy.ownsRow (B + 2) 3 1 v n xs) → ∀ (ii : Nat), ii < 9 → ii ≠ 8 → ([[], [0], [], [2], [], [4], [4, 5], [0, 1, 2, 3, 4, 5, 6], [0, 1, 2, 3, 4, 5, 6, 7]].getD ii []).contains 8 = false → ∀ (own : Value) (ys : Nat → Value), (match ii with | 0 => own = .pointer (some ⟨B, 0, none⟩) | 1 => own = .int .i64 W | 2 => own = .pointer (some ⟨B, 1, none⟩) | 3 => own = .int .i64 H | 4 => own = .pointer (some ⟨B, 2, none⟩) | 5 => own = .slice a n c | 6 => ∃ (a1 : Option Addr) (c1 : Nat), own = .slice a1 n c1 ∧ wx.ownsRow (B + 2) 3 1 (.slice a1 n c1) n (zs.map (Value.int .i64)) | 7 => ∃ (a1 : Option Addr) (c1 : Nat), own = .agg #[.int .i64 W, .int .i64 H, .slice a1 n c1] ∧ wx.ownsRow (B + 2) 3 1 (.slice a1 n c1) n (zs.map (Value.int .i64)) | 8 => ∃ (a1 : Option Addr) (c1 : Nat), wx.heap[B + 1]? = some (.cells #[.int .i64 W, .int .i64 H, .slice a1 n c1] 25 (0, 0)) ∧ wx.ownsRow (B + 2) 3 1 (.slice a1 n c1) n (zs.map (Value.int .i64)) | _ => True) → (match ii with | 0 => own = .pointer (some ⟨B, 0, none⟩) | 1 => own = .int .i64 W | 2 => own = .pointer (some ⟨B, 1, none⟩) | 3 => own = .int .i64 H | 4 => own = .pointer (some ⟨B, 2, none⟩) | 5 => own = .slice a n c | 6 => ∃ (a1 : Option Addr) (c1 : Nat), own = .slice a1 n c1 ∧ wy.ownsRow (B + 2) 3 1 (.slice a1 n c1) n (zs.map (Value.int .i64)) | 7 => ∃ (a1 : Option Addr) (c1 : Nat), own = .agg #[.int .i64 W, .int .i64 H, .slice a1 n c1] ∧ wy.ownsRow (B + 2) 3 1 (.slice a1 n c1) n (zs.map (Value.int .i64)) | 8 => ∃ (a1 : Option Addr) (c1 : Nat), wy.heap[B + 1]? = some (.cells #[.int .i64 W, .int .i64 H, .slice a1 n c1] 25 (0, 0)) ∧ wy.ownsRow (B + 2) 3 1 (.slice a1 n c1) n (zs.map (Value.int .i64)) | _ => True) := by
        intro wy hy ii hii hne hc own ys h
        match ii, h with
        | 0, h => exact h
        | 1, h => exact h
        | 2, h => exact h
        | 3, h => exact h
        | 4, h => exact h
        | 5, h => exact h
        | 6, h => obtain ⟨a2, c2, h1, h2⟩ := h; exact ⟨a2, c2, h1, hy _ _ h2⟩
        | 7, h => obtain ⟨a2, c2, h1, h2⟩ := h; exact ⟨a2, c2, h1, hy _ _ h2⟩
        | 8, h => exact absurd rfl hne
        | _ + 9, _ => trivial
      have hz := blk_set3 (x' := .int .i64 W) (y' := .int .i64 H) (z' := .slice a7 n c7) g4
      have hg3 : (((wx.setCell ⟨B + 1, 0, none⟩ (.int .i64 W)).setCell ⟨B + 1, 1, none⟩ (.int .i64 H)).setCell ⟨B + 1, 2, none⟩ (.slice a7 n c7)).heap[B]? = _ := blk_set_other (blk_set_other (blk_set_other g3 (by omega)) (by omega)) (by omega)
      have hkeep : ∀ (v : Value) (xs : List Value), wx.ownsRow (B + 2) 3 1 v n xs → (((wx.setCell ⟨B + 1, 0, none⟩ (.int .i64 W)).setCell ⟨B + 1, 1, none⟩ (.int .i64 H)).setCell ⟨B + 1, 2, none⟩ (.slice a7 n c7)).ownsRow (B + 2) 3 1 v n xs := fun v xs h => own_gr (own_gr (own_gr h (gr_set _ _ _ _) (by omega)) (gr_set _ _ _ _) (by omega)) (gr_set _ _ _ _) (by omega)
      have hE : Ext w (((wx.setCell ⟨B + 1, 0, none⟩ (.int .i64 W)).setCell ⟨B + 1, 1, none⟩ (.int .i64 H)).setCell ⟨B + 1, 2, none⟩ (.slice a7 n c7)) := Ext.grown (Ext.grown (Ext.grown g1 (gr_set _ _ _ _) (fun k e => by cases e; omega)) (gr_set _ _ _ _) (fun k e => by cases e; omega)) (gr_set _ _ _ _) (fun k e => by cases e; omega)
      exact hQo undef _ (hK.out _ _ ⟨⟨a7, c7, hz, hkeep _ _ o7⟩, ⟨hE, by simp; omega, hg3, _, _, _, hz⟩, hst _ hkeep⟩)
  clear Hext
  intro xs wx hV hG
  have d0 : (xs 0) = .pointer (some ⟨B, 0, none⟩) := hV 0 (by decide)
  have d1 : (xs 1) = .int .i64 W := hV 1 (by decide)
  have d2 : (xs 2) = .pointer (some ⟨B, 1, none⟩) := hV 2 (by decide)
  have d3 : (xs 3) = .int .i64 H := hV 3 (by decide)
  have d4 : (xs 4) = .pointer (some ⟨B, 2, none⟩) := hV 4 (by decide)
  have d5 : (xs 5) = .slice a n c := hV 5 (by decide)
  have d6 : ∃ (a1 : Option Addr) (c1 : Nat), (xs 6) = .slice a1 n c1 ∧ wx.ownsRow (B + 2) 3 1 (.slice a1 n c1) n (zs.map (Value.int .i64)) := hV 6 (by decide)
  have d7 : ∃ (a1 : Option Addr) (c1 : Nat), (xs 7) = .agg #[.int .i64 W, .int .i64 H, .slice a1 n c1] ∧ wx.ownsRow (B + 2) 3 1 (.slice a1 n c1) n (zs.map (Value.int .i64)) := hV 7 (by decide)
  have d8 : ∃ (a1 : Option Addr) (c1 : Nat), wx.heap[B + 1]? = some (.cells #[.int .i64 W, .int .i64 H, .slice a1 n c1] 25 (0, 0)) ∧ wx.ownsRow (B + 2) 3 1 (.slice a1 n c1) n (zs.map (Value.int .i64)) := hV 8 (by decide)
  clear hV
  simp only [patchS, Nat.reduceAdd, Nat.reduceEqDiff, ↓reduceIte]
  generalize xs 0 = y0 at *
  generalize xs 1 = y1 at *
  generalize xs 2 = y2 at *
  generalize xs 3 = y3 at *
  generalize xs 4 = y4 at *
  generalize xs 5 = y5 at *
  generalize xs 6 = y6 at *
  generalize xs 7 = y7 at *
  generalize xs 8 = y8 at *
  replace hG : Ext w wx ∧ B + 2 ≤ wx.heap.size ∧ wx.heap[B]? = some (.cells #[.int .i64 W, .int .i64 H, .slice a n c] 25 (0, 0)) ∧ ∃ x y z : Value, wx.heap[B + 1]? = some (.cells #[x, y, z] 25 (0, 0)) := hG
  clear d0 d1 d2 d3 d4 d5 d6 d7
  obtain ⟨a8, c8, q8, o8⟩ := d8
  go_wp2
  exact bodyPost_ret (v := .agg #[.int .i64 W, .int .i64 H, .slice a8 n c8]) (results_cell_row rfl _ _ (B + 1) 25 #[.int .i64 W, .int .i64 H, .slice a8 n c8] (0, 0) _ rfl q8 Tryd.underlying25 rfl size_Picture) rfl ⟨a8, c8, rfl, owns_mono o8 (by omega), hG.1⟩
set_option maxRecDepth 100000 in
theorem l8Copy_any (W H : Int) (a : Option Addr) (c n : Nat) (zs : List Int) (w : World) (hn : n < 2^40) (hn0 : 0 < n) (r : Sl w a n (zs.map (Value.int .i64))) :
    Calls Tryd.prog 61 #[.agg #[.int .i64 W, .int .i64 H, .slice a n c]] w fun e w' => ∃ a' c', e = .returned (.agg #[.int .i64 W, .int .i64 H, .slice a' n c']) ∧ w'.ownsRow w.heap.size 3 1 (.slice a' n c') n (zs.map (Value.int .i64)) ∧ Ext w w' := by
  have p0 := blk_alloc (blk_new w (.cells #[.int .i64 W, .int .i64 H, .slice a n c] 25)) (.cells #[.int .i64 0, .int .i64 0, .slice none 0 0] 25)
  have r0 := blk_new (w.alloc (.cells #[.int .i64 W, .int .i64 H, .slice a n c] 25)) (.cells #[.int .i64 0, .int .i64 0, .slice none 0 0] 25)
  have E0 := (Ext.alloc w (.cells #[.int .i64 W, .int .i64 H, .slice a n c] 25)).trans (Ext.alloc _ (.cells #[.int .i64 0, .int .i64 0, .slice none 0 0] 25))
  have hs : ((w.alloc (.cells #[.int .i64 W, .int .i64 H, .slice a n c] 25)).alloc (.cells #[.int .i64 0, .int .i64 0, .slice none 0 0] 25)).heap.size = w.heap.size + 1 + 1 := by simp
  simp only [World.size_alloc] at r0
  go_enter Tryd.func61, Tryd.ntmps61
  go_upto_region 1 with fail
  try simp only [World.size_alloc]
  generalize (w.alloc (.cells #[.int .i64 W, .int .i64 H, .slice a n c] 25)).alloc (.cells #[.int .i64 0, .int .i64 0, .slice none 0 0] 25) = w0 at *
  obtain ⟨B, hB⟩ : ∃ B, B = w.heap.size := ⟨_, rfl⟩
  rw [← hB] at p0 r0 hs ⊢
  have HB := Lib.hid hB
  have hsz : B + 2 ≤ w0.heap.size := by omega
  have hwB : w.heap.size ≤ B := by omega
  clear hB hs
  have hext : ∀ (i : Nat) (own : Value) (ys : Nat → Value) (wa wb : World), Ext wa wb → (match i with | 0 => own = .pointer (some ⟨B, 0, none⟩) | 1 => own = .int .i64 W | 2 => own = .pointer (some ⟨B, 1, none⟩) | 3 => own = .int .i64 H | 4 => ∃ g : Nat, own = .slice (some ⟨g, 0, none⟩) 0 0 ∧ wa.ownsRow (B + 2) 3 1 (.slice (some ⟨g, 0, none⟩) 0 0) 0 [] | 5 => own = .pointer (some ⟨B, 2, none⟩) | 6 => own = .slice a n c | 7 => ∃ (a1 : Option Addr) (c1 : Nat), own = .slice a1 n c1 ∧ wa.ownsRow (B + 2) 3 1 (.slice a1 n c1) n (zs.map (Value.int .i64)) | 8 => ∃ (a1 : Option Addr) (c1 : Nat), own = .agg #[.int .i64 W, .int .i64 H, .slice a1 n c1] ∧ wa.ownsRow (B + 2) 3 1 (.slice a1 n c1) n (zs.map (Value.int .i64)) | 9 => ∃ (a1 : Option Addr) (c1 : Nat), wa.heap[B + 1]? = some (.cells #[.int .i64 W, .int .i64 H, .slice a1 n c1] 25 (0, 0)) ∧ wa.ownsRow (B + 2) 3 1 (.slice a1 n c1) n (zs.map (Value.int .i64)) | _ => True) → (match i with | 0 => own = .pointer (some ⟨B, 0, none⟩) | 1 => own = .int .i64 W | 2 => own = .pointer (some ⟨B, 1, none⟩) | 3 => own = .int .i64 H | 4 => ∃ g : Nat, own = .slice (some ⟨g, 0, none⟩) 0 0 ∧ wb.ownsRow (B + 2) 3 1 (.slice (some ⟨g, 0, none⟩) 0 0) 0 [] | 5 => own = .pointer (some ⟨B, 2, none⟩) | 6 => own = .slice a n c | 7 => ∃ (a1 : Option Addr) (c1 : Nat), own = .slice a1 n c1 ∧ wb.ownsRow (B + 2) 3 1 (.slice a1 n c1) n (zs.map (Value.int .i64)) | 8 => ∃ (a1 : Option Addr) (c1 : Nat), own = .agg #[.int .i64 W, .int .i64 H, .slice a1 n c1] ∧ wb.ownsRow (B + 2) 3 1 (.slice a1 n c1) n (zs.map (Value.int .i64)) | 9 => ∃ (a1 : Option Addr) (c1 : Nat), wb.heap[B + 1]? = some (.cells #[.int .i64 W, .int .i64 H, .slice a1 n c1] 25 (0, 0)) ∧ wb.ownsRow (B + 2) 3 1 (.slice a1 n c1) n (zs.map (Value.int .i64)) | _ => True) := by
    intro i own ys wa wb e h
    match i, h with
    | 0, h => exact h
    | 1, h => exact h
    | 2, h => exact h
    | 3, h => exact h
    | 4, h => obtain ⟨g, h1, h2⟩ := h; exact ⟨g, h1, owns_ext h2 e⟩
    | 5, h => exact h
    | 6, h => exact h
    | 7, h => obtain ⟨a2, c2, h1, h2⟩ := h; exact ⟨a2, c2, h1, owns_ext h2 e⟩
    | 8, h => obtain ⟨a2, c2, h1, h2⟩ := h; exact ⟨a2, c2, h1, owns_ext h2 e⟩
    | 9, h => obtain ⟨a2, c2, h1, h2⟩ := h; exact ⟨a2, c2, e.blk h1, owns_ext h2 e⟩
    | _ + 10, _ => trivial
  have Hext := Lib.hid hext
  clear hext
  refine wp_region_inv2 (by kernel_rfl) [(3, 0), (4, 1), (5, 2), (6, 3), (7, 4), (8, 5), (9, 6), (10, 7), (11, 8)] [[], [0], [], [2], [], [], [5], [4, 5, 6], [0, 1, 2, 3, 4, 5, 6, 7], [0, 1, 2, 3, 4, 5, 6, 7, 8]] (fun i own ys wx => match i with | 0 => own = .pointer (some ⟨B, 0, none⟩) | 1 => own = .int .i64 W | 2 => own = .pointer (some ⟨B, 1, none⟩) | 3 => own = .int .i64 H | 4 => ∃ g : Nat, own = .slice (some ⟨g, 0, none⟩) 0 0 ∧ wx.ownsRow (B + 2) 3 1 (.slice (some ⟨g, 0, none⟩) 0 0) 0 [] | 5 => own = .pointer (some ⟨B, 2, none⟩) | 6 => own = .slice a n c | 7 => ∃ (a1 : Option Addr) (c1 : Nat), own = .slice a1 n c1 ∧ wx.ownsRow (B + 2) 3 1 (.slice a1 n c1) n (zs.map (Value.int .i64)) | 8 => ∃ (a1 : Option Addr) (c1 : Nat), own = .agg #[.int .i64 W, .int .i64 H, .slice a1 n c1] ∧ wx.ownsRow (B + 2) 3 1 (.slice a1 n c1) n (zs.map (Value.int .i64)) | 9 => ∃ (a1 : Option Addr) (c1 : Nat), wx.heap[B + 1]? = some (.cells #[.int .i64 W, .int .i64 H, .slice a1 n c1] 25 (0, 0)) ∧ wx.ownsRow (B + 2) 3 1 (.slice a1 n c1) n (zs.map (Value.int .i64)) | _ => True) (fun kx wx => Ext w wx ∧ B + 2 ≤ wx.heap.size ∧ wx.heap[B]? = some (.cells #[.int .i64 W, .int .i64 H, .slice a n c] 25 (0, 0)) ∧ ∃ x y z : Value, wx.heap[B + 1]? = some (.cells #[x, y, z] 25 (0, 0))) (by kernel_rfl) (by kernel_rfl) (by kernel_rfl) ?g0_r2 ?gop_r2 ?gend_r2
  case g0_r2 => exact ⟨Ext.trans_drewN E0 1, hsz, p0, _, _, _, r0⟩
  case gop_r2 =>
    refine ⟨?_, ?_, ?_, ?_, ?_, ?_, ?_, ?_, ?_, ?_, trivial⟩
    · intro kx xs wx hk hG hD hI Qo Kx hK hQo
      clear hD
      clear hI
      simp only [patchS, Nat.reduceAdd, Nat.reduceEqDiff, ↓reduceIte] at hQo ⊢
      go_wp2
      exact hK.out _ _ ⟨rfl, hG, fun _ _ _ _ _ _ h => h⟩
    · intro kx xs wx hk hG hD hI Qo Kx hK hQo
      have d0 : (xs 0) = .pointer (some ⟨B, 0, none⟩) := hD 0 rfl
      clear hD
      clear hI
      simp only [patchS, Nat.reduceAdd, Nat.reduceEqDiff, ↓reduceIte] at hQo ⊢
      generalize xs 0 = y0 at *
      subst d0
      obtain ⟨-, k0, k1, k2, -⟩ := bx3 hG.2.2.1
      go_wp2
      exact hK.out _ _ ⟨rfl, hG, fun _ _ _ _ _ _ h => h⟩
    · intro kx xs wx hk hG hD hI Qo Kx hK hQo
      clear hD
      clear hI
      simp only [patchS, Nat.reduceAdd, Nat.reduceEqDiff, ↓reduceIte] at hQo ⊢
      go_wp2
      exact hK.out _ _ ⟨rfl, hG, fun _ _ _ _ _ _ h => h⟩
    · intro kx xs wx hk hG hD hI Qo Kx hK hQo
      have d2 : (xs 2) = .pointer (some ⟨B, 1, none⟩) := hD 2 rfl
      clear hD
      clear hI
      simp only [patchS, Nat.reduceAdd, Nat.reduceEqDiff, ↓reduceIte] at hQo ⊢
      generalize xs 2 = y2 at *
      subst d2
      obtain ⟨-, k0, k1, k2, -⟩ := bx3 hG.2.2.1
      go_wp2
      exact hK.out _ _ ⟨rfl, hG, fun _ _ _ _ _ _ h => h⟩
    · intro kx xs wx hk hG hD hI Qo Kx hK hQo
      clear hD
      clear hI
      simp only [patchS, Nat.reduceAdd, Nat.reduceEqDiff, ↓reduceIte] at hQo ⊢
      go_wp2
      have ha := Ext.alloc wx (.cells #[] 3)
      have o4 := World.ownsRow_made (base := B + 2) (e := 3) (size := 1) wx #[] 0 hG.2.1 (by simp) rfl
      obtain ⟨g1, g2, g3, x, y, z, g4⟩ := hG
      exact hK.out _ _ ⟨⟨_, rfl, o4⟩, ⟨g1.trans ha, Nat.le_trans g2 ha.size, ha.blk g3, x, y, z, ha.blk g4⟩, fun i _ _ _ own ys h => Hext.out i own ys _ _ ha h⟩
    · intro kx xs wx hk hG hD hI Qo Kx hK hQo
      clear hD
      clear hI
      simp only [patchS, Nat.reduceAdd, Nat.reduceEqDiff, ↓reduceIte] at hQo ⊢
      go_wp2
      exact hK.out _ _ ⟨rfl, hG, fun _ _ _ _ _ _ h => h⟩
    · intro kx xs wx hk hG hD hI Qo Kx hK hQo
      have d5 : (xs 5) = .pointer (some ⟨B, 2, none⟩) := hD 5 rfl
      clear hD
      clear hI
      simp only [patchS, Nat.reduceAdd, Nat.reduceEqDiff, ↓reduceIte] at hQo ⊢
      generalize xs 5 = y5 at *
      subst d5
      obtain ⟨-, k0, k1, k2, -⟩ := bx3 hG.2.2.1
      go_wp2
      exact hK.out _ _ ⟨rfl, hG, fun _ _ _ _ _ _ h => h⟩
    · intro kx xs wx hk hG hD hI Qo Kx hK hQo
      have d4 : ∃ g : Nat, (xs 4) = .slice (some ⟨g, 0, none⟩) 0 0 ∧ wx.ownsRow (B + 2) 3 1 (.slice (some ⟨g, 0, none⟩) 0 0) 0 [] := hD 4 rfl
      have d6 : (xs 6) = .slice a n c := hD 6 rfl
      clear hD
      clear hI
      simp only [patchS, Nat.reduceAdd, Nat.reduceEqDiff, ↓reduceIte] at hQo ⊢
      generalize xs 4 = y4 at *
      generalize xs 6 = y6 at *
      obtain ⟨g4, rfl, o4⟩ := d4
      subst d6
      have rx := r.ext hG.1
      obtain ⟨ad, hadr⟩ : ∃ ad, a = some ad := by obtain ⟨b1, o1, h1, -⟩ := rx.int hn0; exact ⟨_, h1⟩
      subst hadr
      refine wpList_appn _ rfl o4 hG.2.1 _ _ _ rfl (.int .i64 0) 8 Tryd.underlying23 info_int rfl (by decide) rfl ad n c _ rfl (by rw [rx.1]; omega) (rx.cellsOf _ hn0) (one_i64 zs) (by omega) (by omega) (by omega) ?_
      intro v14 w14 own14 e8
      rw [Nat.zero_add, List.nil_append] at own14
      obtain ⟨a14, c14, rfl⟩ := owns_form own14
      obtain ⟨g1, g2, g3, x, y, z, g4⟩ := hG
      exact hQo _ _ (hK.out _ _ ⟨⟨_, _, rfl, own14⟩, ⟨g1.trans e8, Nat.le_trans g2 e8.size, e8.blk g3, x, y, z, e8.blk g4⟩, fun i _ _ _ own ys h => Hext.out i own ys _ _ e8 h⟩)
    · intro kx xs wx hk hG hD hI Qo Kx hK hQo
      have d1 : (xs 1) = .int .i64 W := hD 1 rfl
      have d3 : (xs 3) = .int .i64 H := hD 3 rfl
      have d7 : ∃ (a1 : Option Addr) (c1 : Nat), (xs 7) = .slice a1 n c1 ∧ wx.ownsRow (B + 2) 3 1 (.slice a1 n c1) n (zs.map (Value.int .i64)) := hD 7 rfl
      clear hD
      clear hI
      simp only [patchS, Nat.reduceAdd, Nat.reduceEqDiff, ↓reduceIte] at hQo ⊢
      generalize xs 1 = y1 at *
      generalize xs 3 = y3 at *
      generalize xs 7 = y7 at *
      subst d1
      subst d3
      obtain ⟨a1, c1, rfl, o1⟩ := d7
      go_wp2
      exact hK.out _ _ ⟨⟨_, _, rfl, o1⟩, hG, fun _ _ _ _ _ _ h => h⟩
    · intro kx xs wx hk hG hD hI Qo Kx hK hQo
      have d8 : ∃ (a1 : Option Addr) (c1 : Nat), (xs 8) = .agg #[.int .i64 W, .int .i64 H, .slice a1 n c1] ∧ wx.ownsRow (B + 2) 3 1 (.slice a1 n c1) n (zs.map (Value.int .i64)) := hD 8 rfl
      clear hD
      clear hI
      simp only [patchS, Nat.reduceAdd, Nat.reduceEqDiff, ↓reduceIte] at hQo ⊢
      generalize xs 8 = y8 at *
      obtain ⟨a7, c7, rfl, o7⟩ := d8
      obtain ⟨g1, g2, g3, x, y, z, g4⟩ := hG
      obtain ⟨-, k0, k1, k2, f0, f1, f2⟩ := bx3 g4
      go_wp2
      have hst : ∀ (wy : World), (∀ (v : Value) (nn : Nat) (xs : List Value), wx.ownsRow (B + 2) 3 1 v nn xs → wy.ownsRow (B + 2) 3 1 v nn xs) → ∀ (ii : Nat), ii < 10 → ii ≠ 9 → ([[], [0], [], [2], [], [], [5], [4, 5, 6], [0, 1, 2, 3, 4, 5, 6, 7], [0, 1, 2, 3, 4, 5, 6, 7, 8]].getD ii []).contains 9 = false → ∀ (own : Value) (ys : Nat → Value), (match ii with | 0 => own = .pointer (some ⟨B, 0, none⟩) | 1 => own = .int .i64 W | 2 => own = .pointer (some ⟨B, 1, none⟩) | 3 => own = .int .i64 H | 4 => ∃ g : Nat, own = .slice (some ⟨g, 0, none⟩) 0 0 ∧ wx.ownsRow (B + 2) 3 1 (.slice (some ⟨g, 0, none⟩) 0 0) 0 [] | 5 => own = .pointer (some ⟨B, 2, none⟩) | 6 => own = .slice a n c | 7 => ∃ (a1 : Option Addr) (c1 : Nat), own = .slice a1 n c1 ∧ wx.ownsRow (B + 2) 3 1 (.slice a1 n c1) n (zs.map (Value.int .i64)) | 8 => ∃ (a1 : Option Addr) (c1 : Nat), own = .agg #[.int .i64 W, .int .i64 H, .slice a1 n c1] ∧ wx.ownsRow (B + 2) 3 1 (.slice a1 n c1) n (zs.map (Value.int .i64)) | 9 => ∃ (a1 : Option Addr) (c1 : Nat), wx.heap[B + 1]? = some (.cells #[.int .i64 W, .int .i64 H, .slice a1 n c1] 25 (0, 0)) ∧ wx.ownsRow (B + 2) 3 1 (.slice a1 n c1) n (zs.map (Value.int .i64)) | _ => True) → (match ii with | 0 => own = .pointer (some ⟨B, 0, none⟩) | 1 => own = .int .i64 W | 2 => own = .pointer (some ⟨B, 1, none⟩) | 3 => own = .int .i64 H | 4 => ∃ g : Nat, own = .slice (some ⟨g, 0, none⟩) 0 0 ∧ wy.ownsRow (B + 2) 3 1 (.slice (some ⟨g, 0, none⟩) 0 0) 0 [] | 5 => own = .pointer (some ⟨B, 2, none⟩) | 6 => own = .slice a n c | 7 => ∃ (a1 : Option Addr) (c1 : Nat), own = .slice a1 n c1 ∧ wy.ownsRow (B + 2) 3 1 (.slice a1 n c1) n (zs.map (Value.int .i64)) | 8 => ∃ (a1 : Option Addr) (c1 : Nat), own = .agg #[.int .i64 W, .int .i64 H, .slice a1 n c1] ∧ wy.ownsRow (B + 2) 3 1 (.slice a1 n c1) n (zs.map (Value.int .i64)) | 9 => ∃ (a1 : Option Addr) (c1 : Nat), wy.heap[B + 1]? = some (.cells #[.int .i64 W, .int .i64 H, .slice a1 n c1] 25 (0, 0)) ∧ wy.ownsRow (B + 2) 3 1 (.slice a1 n c1) n (zs.map (Value.int .i64)) | _ => True) := by
        intro wy hy ii hii hne hc own ys h
        match ii, h with
        | 0, h => exact h
        | 1, h => exact h
        | 2, h => exact h
        | 3, h => exact h
        | 4, h => obtain ⟨g, h1, h2⟩ := h; exact ⟨g, h1, hy _ _ _ h2⟩
        | 5, h => exact h
        | 6, h => exact h
        | 7, h => obtain ⟨a2, c2, h1, h2⟩ := h; exact ⟨a2, c2, h1, hy _ _ _ h2⟩
        | 8, h => obtain ⟨a2, c2, h1, h2⟩ := h; exact ⟨a2, c2, h1, hy _ _ _ h2⟩
        | 9, h => exact absurd rfl hne
        | _ + 10, _ => trivial
      have hz := blk_set3 (x' := .int .i64 W) (y' := .int .i64 H) (z' := .slice a7 n c7) g4
      have hg3 : (((wx.setCell ⟨B + 1, 0, none⟩ (.int .i64 W)).setCell ⟨B + 1, 1, none⟩ (.int .i64 H)).setCell ⟨B + 1, 2, none⟩ (.slice a7 n c7)).heap[B]? = _ := blk_set_other (blk_set_other (blk_set_other g3 (by omega)) (by omega)) (by omega)
      have hkeep : ∀ (v : Value) (nn : Nat) (xs : List Value), wx.ownsRow (B + 2) 3 1 v nn xs → (((wx.setCell ⟨B + 1, 0, none⟩ (.int .i64 W)).setCell ⟨B + 1, 1, none⟩ (.int .i64 H)).setCell ⟨B + 1, 2, none⟩ (.slice a7 n c7)).ownsRow (B + 2) 3 1 v nn xs := fun v nn xs h => own_gr (own_gr (own_gr h (gr_set _ _ _ _) (by omega)) (gr_set _ _ _ _) (by omega)) (gr_set _ _ _ _) (by omega)
      have hE : Ext w (((wx.setCell ⟨B + 1, 0, none⟩ (.int .i64 W)).setCell ⟨B + 1, 1, none⟩ (.int .i64 H)).setCell ⟨B + 1, 2, none⟩ (.slice a7 n c7)) := Ext.grown (Ext.grown (Ext.grown g1 (gr_set _ _ _ _) (fun k e => by cases e; omega)) (gr_set _ _ _ _) (fun k e => by cases e; omega)) (gr_set _ _ _ _) (fun k e => by cases e; omega)
      exact hQo undef _ (hK.out _ _ ⟨⟨a7, c7, hz, hkeep _ _ _ o7⟩, ⟨hE, by simp; omega, hg3, _, _, _, hz⟩, hst _ hkeep⟩)
  clear Hext
  intro xs wx hV hG
  have d0 : (xs 0) = .pointer (some ⟨B, 0, none⟩) := hV 0 (by decide)
  have d1 : (xs 1) = .int .i64 W := hV 1 (by decide)
  have d2 : (xs 2) = .pointer (some ⟨B, 1, none⟩) := hV 2 (by decide)
  have d3 : (xs 3) = .int .i64 H := hV 3 (by decide)
  have d4 : ∃ g : Nat, (xs 4) = .slice (some ⟨g, 0, none⟩) 0 0 ∧ wx.ownsRow (B + 2) 3 1 (.slice (some ⟨g, 0, none⟩) 0 0) 0 [] := hV 4 (by decide)
  have d5 : (xs 5) = .pointer (some ⟨B, 2, none⟩) := hV 5 (by decide)
  have d6 : (xs 6) = .slice a n c := hV 6 (by decide)
  have d7 : ∃ (a1 : Option Addr) (c1 : Nat), (xs 7) = .slice a1 n c1 ∧ wx.ownsRow (B + 2) 3 1 (.slice a1 n c1) n (zs.map (Value.int .i64)) := hV 7 (by decide)
  have d8 : ∃ (a1 : Option Addr) (c1 : Nat), (xs 8) = .agg #[.int .i64 W, .int .i64 H, .slice a1 n c1] ∧ wx.ownsRow (B + 2) 3 1 (.slice a1 n c1) n (zs.map (Value.int .i64)) := hV 8 (by decide)
  have d9 : ∃ (a1 : Option Addr) (c1 : Nat), wx.heap[B + 1]? = some (.cells #[.int .i64 W, .int .i64 H, .slice a1 n c1] 25 (0, 0)) ∧ wx.ownsRow (B + 2) 3 1 (.slice a1 n c1) n (zs.map (Value.int .i64)) := hV 9 (by decide)
  clear hV
  simp only [patchS, Nat.reduceAdd, Nat.reduceEqDiff, ↓reduceIte]
  generalize xs 0 = y0 at *
  generalize xs 1 = y1 at *
  generalize xs 2 = y2 at *
  generalize xs 3 = y3 at *
  generalize xs 4 = y4 at *
  generalize xs 5 = y5 at *
  generalize xs 6 = y6 at *
  generalize xs 7 = y7 at *
  generalize xs 8 = y8 at *
  generalize xs 9 = y9 at *
  replace hG : Ext w wx ∧ B + 2 ≤ wx.heap.size ∧ wx.heap[B]? = some (.cells #[.int .i64 W, .int .i64 H, .slice a n c] 25 (0, 0)) ∧ ∃ x y z : Value, wx.heap[B + 1]? = some (.cells #[x, y, z] 25 (0, 0)) := hG
  clear d0 d1 d2 d3 d4 d5 d6 d7 d8
  obtain ⟨a8, c8, q8, o8⟩ := d9
  go_wp2
  exact bodyPost_ret (v := .agg #[.int .i64 W, .int .i64 H, .slice a8 n c8]) (results_cell_row rfl _ _ (B + 1) 25 #[.int .i64 W, .int .i64 H, .slice a8 n c8] (0, 0) _ rfl q8 Tryd.underlying25 rfl size_Picture) rfl ⟨a8, c8, rfl, owns_mono o8 (by omega), hG.1⟩
end Go.Proofs.YtbnhaegidfbgbaaDoor
namespace Go.Proofs.YtbnhaegidfbgbaaDoor
open Go.RowKit
set_option maxHeartbeats 1000000
/-- The reconstructed picture. -/
noncomputable def recP (ref p : Pic) (x y : Int) (m : Mac) (q top : Int) : Pic := if okR ref p x y m q top then ⟨p.w, p.h, bldS ref p x.toNat y.toNat m q.toNat top 4⟩ else pic0
end Go.Proofs.YtbnhaegidfbgbaaDoor
namespace Go.Proofs.YtbnhaegidfbgbaaDoor
open Go.RowKit
set_option maxHeartbeats 1000000
theorem spl_pre (pre L ys : List Int) (j : Nat) : spl (pre ++ L) (pre.length + j) ys = pre ++ spl L j ys := by
  unfold spl
  rw [List.take_length_add_append, Nat.add_assoc, List.drop_length_add_append]
  simp
theorem Mac.spl_lv {m : Mac} (h : m.ok) (j : Nat) (ys : List Int) : spl m.zs (7 + j) ys = Mac.zs { m with lv := spl m.lv j ys } := by
  have e : m.zs = (m.kind :: m.x :: m.y :: m.modes) ++ m.lv := by simp [Mac.zs]
  have l : (m.kind :: m.x :: m.y :: m.modes).length = 7 := by simp [h.modes]
  rw [e, ← l, spl_pre]
  simp [Mac.zs]
theorem zeroq_M : (Tryd.prog.info? 34).map (·.zero) = some (some (.agg (ic (zl 71)))) := by kernel_rfl
theorem zeroc_M : Tryd.zeroCells34 = ic (zl 71) := by kernel_rfl
theorem mac0_zz : mac0.zs = zl 71 := by decide
/-- The levels of an inter macroblock, of the first k blocks. -/
def intL (t r : Pic) (x y : Nat) (vx vy : Int) (q : Nat) : Nat → List Int
  | 0 => zl 64
  | k + 1 => spl (intL t r x y vx vy q k) (k * 16) (cod (dif (prt t ((x + k % 2 * 4 : Nat) : Int) ((y + k / 2 * 4 : Nat) : Int)) (pof (blkL r x y vx vy) (k % 2 * 4) (k / 2 * 4))) q)
/-- The arguments of InterMacro are valid. -/
def okI (t r : Pic) (x y vx vy q : Int) : Prop := alikeP t r ∧ placeP t x y ∧ vv vx vy ∧ (0 ≤ q ∧ q ≤ 15)
noncomputable instance (t r : Pic) (x y vx vy q : Int) : Decidable (okI t r x y vx vy q) := Classical.propDecidable _
noncomputable def interP (t r : Pic) (x y vx vy q : Int) : Mac := if okI t r x y vx vy q then ⟨1, vx, vy, zero4, intL t r x.toNat y.toNat vx vy q.toNat 4⟩ else mac0
def macI (vx vy : Int) (L : List Int) : Mac := ⟨1, vx, vy, zero4, L⟩
end Go.Proofs.YtbnhaegidfbgbaaDoor
namespace Go.Proofs.YtbnhaegidfbgbaaDoor
open Go.RowKit
set_option maxHeartbeats 1000000
def absZ (n : Int) : Int := if n < 0 then -n else n
theorem absZ_ge (n : Int) : 0 ≤ absZ n := by unfold absZ; split <;> omega
theorem absZ_le {n B : Int} (h : -B ≤ n ∧ n ≤ B) : absZ n ≤ B := by unfold absZ; split <;> omega
def sumA (c : List Int) (k : Nat) : Int := sumZ (fun i => absZ (nth c i)) k
theorem sumA_succ (c : List Int) (k : Nat) : sumA c (k + 1) = sumA c k + absZ (nth c k) := rfl
theorem sumA_zero (c : List Int) : sumA c 0 = 0 := rfl
theorem sumA_rng {c : List Int} {B : Int} {k : Nat} (h : ∀ i, i < k → -B ≤ nth c i ∧ nth c i ≤ B) : 0 ≤ sumA c k ∧ sumA c k ≤ k * B := by
  induction k with
  | zero => simp [sumA_zero]
  | succ k ih =>
    have h1 := ih (fun i hi => h i (by omega))
    have h2 := absZ_ge (nth c k)
    have h3 := absZ_le (h k (by omega))
    rw [sumA_succ, show ((k + 1 : Nat) : Int) * B = k * B + B by rw [Int.natCast_add, Int.add_mul]; simp]
    omega
def tcost (a b : List Int) : Int := sumA (had (dif a b)) 16 / 4
theorem tcost_rng {a b : List Int} (ha : smp a) (hb : smp b) (la : a.length = 16) (lb : b.length = 16) : 0 ≤ tcost a b ∧ tcost a b ≤ 16320 := by
  have := sumA_rng (c := had (dif a b)) (B := 4080) (k := 16) (fun i hi => had_255 (dif_len a b) (dif_rng ha hb la lb) hi)
  unfold tcost
  omega
theorem IB.sl {w : World} {b T n : Nat} {zs : List Int} (h : IB w b T zs) (hl : zs.length = n) : Sl w (some ⟨b, 0, none⟩) n (zs.map (Value.int .i64)) := by
  refine ⟨by simp [hl], fun i hi => ⟨b, 0, rfl, ?_⟩⟩
  rw [Nat.zero_add, h.cell (i := i) (by omega)]
  simp [nth, show i < zs.length by omega]
theorem EB.sl_ab {w : World} {b : Nat} {e : Ed} (h : EB w b e) (l : e.ln) : Sl w (some ⟨b, 0, none⟩) 4 (e.ab.map (Value.int .i64)) := by
  have := l.ab
  refine ⟨by simp [this], fun i hi => ⟨b, 0, rfl, ?_⟩⟩
  rw [Nat.zero_add, h.ab l hi]
  simp [nth, show i < e.ab.length by omega]
theorem EB.sl_lf {w : World} {b : Nat} {e : Ed} (h : EB w b e) (l : e.ln) : Sl w (some ⟨b, 4, none⟩) 4 (e.lf.map (Value.int .i64)) := by
  have := l.lf
  refine ⟨by simp [this], fun i hi => ⟨b, 4, rfl, ?_⟩⟩
  rw [h.lf l hi]
  simp [nth, show i < e.lf.length by omega]
set_option maxRecDepth 100000 in
theorem impl_TransformCost_any (za zb : List Int) (w : World) (hx : za.length = 16) (hy : zb.length = 16) (sx : smp za) (sy : smp zb) :
    Calls Tryd.prog 106 #[.agg (ic za), .agg (ic zb)] w fun e w' => e = .returned (.int .i64 (tcost za zb)) ∧ Ext w w' := by
  have Hx := Lib.hid hx
  have Hy := Lib.hid hy
  have Sx := Lib.hid sx
  have Sy := Lib.hid sy
  have Dx := Lib.hid (show decide (smp za) = true from decide_eq_true sx)
  have Dy := Lib.hid (show decide (smp zb) = true from decide_eq_true sy)
  have Bx := Lib.hid (smp_bd sx)
  have By := Lib.hid (smp_bd sy)
  have HL := Lib.hid (dif_len za zb)
  have HR := Lib.hid (dif_rng sx sy hx hy)
  have HH := Lib.hid (had_len (dif za zb))
  have HB := Lib.hid (fun k (hk : k < 16) => had_255 (dif_len za zb) (dif_rng sx sy hx hy) hk)
  clear hx hy sx sy
  have a2 := Ext.alloc (w.alloc (.cells (ic za) 31)) (.cells (ic zb) 31)
  have p0 := (IB.new w 31 za).ext a2
  have p1 := IB.new (w.alloc (.cells (ic za) 31)) 31 zb
  have E1 := (Ext.alloc w (.cells (ic za) 31)).trans a2
  simp only [World.size_alloc] at p1
  clear a2
  go_enter Tryd.func106, Tryd.ntmps106
  go_wp2_with fail
  obtain ⟨B, hB⟩ : ∃ B, B = w.heap.size := ⟨_, rfl⟩
  try simp only [World.size_alloc]
  rw [← hB] at p0 p1 ⊢
  have hwB : w.heap.size ≤ B := by omega
  have HB0 := Lib.hid hB
  clear hB
  refine (samplesIn_any (some ⟨B, 0, none⟩) 16 16 za _ (by omega) (p0.sl Hx.out)).mono ?_
  rw [Dx.out]
  rintro e w0 ⟨rfl, rfl⟩
  go_wp2_with fail
  refine (samplesIn_any (some ⟨B + 1, 0, none⟩) 16 16 zb _ (by omega) (p1.sl Hy.out)).mono ?_
  rw [Dy.out]
  rintro e w0 ⟨rfl, rfl⟩
  go_wp2_with (first | (refine wpList_iload 31 _ rfl rfl p0 0 16 rfl _ Tryd.underlying31 rfl size_A16 (by rw [Hx.out]; omega) _ (by rw [sub_all _ _ (Hx.out)]) ?_) | (refine wpList_iload 31 _ rfl rfl p1 0 16 rfl _ Tryd.underlying31 rfl size_A16 (by rw [Hy.out]; omega) _ (by rw [sub_all _ _ (Hy.out)]) ?_))
  refine (difference_any za zb _ Hx.out Hy.out Bx.out By.out).mono ?_
  rintro e w1 ⟨rfl, e1⟩
  have E2 := E1.trans e1
  clear p0 p1 E1 e1
  go_wp2_with fail
  refine (hadamard_any (dif za zb) _ HL.out (inB_bdA (M := 1048576) (by omega) HR.out (by omega))).mono ?_
  rintro e w2 ⟨rfl, e2⟩
  have E3 := E2.trans e2
  clear E2 e2
  go_wp2_with fail
  go_loopw [20, 5] (fun i s wr => ∃ k : Nat, k ≤ 16 ∧ i = .int .i64 k ∧ s = .int .i64 (sumA (had (dif za zb)) k) ∧ Ext w wr) (fun i _ _ => 16 - (intOf i).toNat)
  case atStart => exact ⟨0, by omega, rfl, rfl, E3⟩
  case round =>
    obtain ⟨k, hk, rfl, rfl, E4⟩ := hrel
    clear E3
    have hsr := sumA_rng (c := had (dif za zb)) (B := 4080) (k := k) (fun i hi => HB.out i (by omega))
    by_cases hlt : k < 16
    · have hd : decide ((k : Int) < 16) = true := by simp; omega
      have hbk := HB.out k hlt
      have Hsu := Lib.hid (sumA_succ (had (dif za zb)) k)
      go_wp2_with (refine wpList_iindex _ _ _ rfl rfl (had (dif za zb)) rfl k 16 _ rfl rfl _ Tryd.underlying31 Tryd.underlying3 size_int hlt HH.out ?_)
      obtain ⟨z, hz⟩ : ∃ z, z = nth (had (dif za zb)) k := ⟨_, rfl⟩
      obtain ⟨S, hS⟩ : ∃ S, S = sumA (had (dif za zb)) k := ⟨_, rfl⟩
      rw [← hz] at hbk Hsu ⊢
      rw [← hS] at hsr Hsu ⊢
      have ha1 := absZ_ge z
      have ha2 := absZ_le hbk
      clear hz hS
      have h40 : S ≤ 65280 := by omega
      refine (impl_abs_any z _ (by omega) (by omega)).mono ?_
      rw [show (if z < 0 then -z else z) = absZ z from rfl]
      rintro e w5 ⟨rfl, rfl⟩
      go_wp2
      go_roundw
      case rel => exact ⟨k + 1, by omega, by go_num, by rw [Hsu.out], E4⟩
      case measure => simp [intOf]; omega
    · obtain rfl : k = 16 := by omega
      have Htc := Lib.hid (show tcost za zb = sumA (had (dif za zb)) 16 / 4 from rfl)
      obtain ⟨S, hS⟩ : ∃ S, S = sumA (had (dif za zb)) 16 := ⟨_, rfl⟩
      rw [← hS] at hsr Htc ⊢
      clear hS
      go_wp2
      go_ret
      exact ⟨by rw [Htc.out]; rfl, E4⟩
set_option maxRecDepth 100000 in
theorem spec_TransformCost_any (za zb : List Int) (w : World) (hx : za.length = 16) (hy : zb.length = 16) (sx : smp za) (sy : smp zb) :
    Calls Tryd.prog 137 #[.agg (ic za), .agg (ic zb)] w fun e w' => e = .returned (.int .i64 (tcost za zb)) ∧ Ext w w' := by
  have Hx := Lib.hid hx
  have Hy := Lib.hid hy
  have Sx := Lib.hid (fun k (hk : k < 16) => smp_nth sx (i := k) (by omega))
  have Sy := Lib.hid (fun k (hk : k < 16) => smp_nth sy (i := k) (by omega))
  have HL := Lib.hid (dif_len za zb)
  have HR := Lib.hid (dif_rng sx sy hx hy)
  have HH := Lib.hid (had_len (dif za zb))
  have HB := Lib.hid (fun k (hk : k < 16) => had_255 (dif_len za zb) (dif_rng sx sy hx hy) hk)
  clear hx hy sx sy
  have hz0 : (List.replicate 16 (0 : Int)).length = 16 := by simp
  have Hz0 := Lib.hid hz0
  clear hz0
  have a2 := Ext.alloc (w.alloc (.cells (ic za) 31)) (.cells (ic zb) 31)
  have a3 := Ext.alloc ((w.alloc (.cells (ic za) 31)).alloc (.cells (ic zb) 31)) (.cells (ic (List.replicate 16 0)) 31)
  have p0 := ((IB.new w 31 za).ext a2).ext a3
  have p1 := (IB.new (w.alloc (.cells (ic za) 31)) 31 zb).ext a3
  have p2 := IB.new ((w.alloc (.cells (ic za) 31)).alloc (.cells (ic zb) 31)) 31 (List.replicate 16 0)
  have E1 := ((Ext.alloc w (.cells (ic za) 31)).trans a2).trans a3
  simp only [World.size_alloc] at p1 p2
  clear a2 a3
  go_enter Tryd.func137, Tryd.ntmps137
  go_wp2_with fail
  try simp only [World.size_alloc]
  obtain ⟨B, hB⟩ : ∃ B, B = w.heap.size := ⟨_, rfl⟩
  rw [← hB] at p0 p1 p2 ⊢
  have hwB : w.heap.size ≤ B := by omega
  have HB0 := Lib.hid hB
  clear hB
  go_loopw [6] (fun i wr => ∃ k : Nat, k ≤ 16 ∧ i = .int .i64 k ∧ Ext w wr ∧ IB wr B 31 za ∧ IB wr (B + 1) 31 zb ∧ IB wr (B + 1 + 1) 31 (mixI (dif za zb) (List.replicate 16 0) k)) (fun i _ => 16 - (intOf i).toNat)
  case atStart => exact ⟨0, by omega, rfl, E1, p0, p1, by rw [mixI_zero]; exact p2⟩
  case round =>
    obtain ⟨k, hk, rfl, E4, r0, r1, r2⟩ := hrel
    clear p0 p1 p2 E1
    by_cases hlt : k < 16
    · have hd : decide ((k : Int) < 16) = true := by simp; omega
      have b0 := Sx.out k hlt
      have b1 := Sy.out k hlt
      have hset := mixI_set (dif za zb) (List.replicate 16 0) k 16 HL.out Hz0.out hlt
      rw [nth_dif _ _ hlt] at hset
      have Hset := Lib.hid hset
      have c0 := r0.cell (i := k) (by rw [Hx.out]; exact hlt)
      have c1 := r1.cell (i := k) (by rw [Hy.out]; exact hlt)
      clear hset
      have C0 := Lib.hid c0
      have C1 := Lib.hid c1
      have HM := Lib.hid (mixI_len (dif za zb) (List.replicate 16 0) k 16 HL.out Hz0.out)
      generalize nth za k = u at *
      generalize nth zb k = v at *
      have G0 : Ext w wr ∧ IB wr B 31 za ∧ IB wr (B + 1) 31 zb ∧ IB wr (B + 1 + 1) 31 (mixI (dif za zb) (List.replicate 16 0) k) := ⟨E4, r0, r1, r2⟩
      have HcU := Lib.hid (fun (wx : World) (h : IB wx B 31 za) => (h.cell (i := k) (by rw [Hx.out]; exact hlt)).trans ((r0.cell (i := k) (by rw [Hx.out]; exact hlt)).symm.trans C0.out))
      have HcV := Lib.hid (fun (wx : World) (h : IB wx (B + 1) 31 zb) => (h.cell (i := k) (by rw [Hy.out]; exact hlt)).trans ((r1.cell (i := k) (by rw [Hy.out]; exact hlt)).symm.trans C1.out))
      clear E4 r0 r1 r2
      go_wp2_with fail
      refine (l1In_yes _ _ _ _ b0.1 b0.2).mono ?_
      rintro e w0 ⟨rfl, rfl⟩
      go_wp2_with fail
      refine (l1In_yes _ _ _ _ b1.1 b1.2).mono ?_
      rintro e w0 ⟨rfl, rfl⟩
      clear c0 c1
      go_wp2_with fail
      refine wp_region_invL (by kernel_rfl) [(27, 0), (28, 1), (29, 2), (30, 3), (31, 4), (32, 5), (33, 6), (34, 7), (35, 8)] [[], [], [1], [1, 2], [], [4], [4, 5], [1, 2, 3, 4, 5, 6], [0, 1, 2, 3, 4, 5, 6, 7], [0, 1, 2, 3, 4, 5, 6, 7, 8]] (fun i own ys wx => match i with | 0 => own = .int .i64 (k : Nat) | 1 => own = .int .i64 (k : Nat) | 2 => own = .pointer (some ⟨B, k, none⟩) | 3 => own = .int .i64 u | 4 => own = .int .i64 (k : Nat) | 5 => own = .pointer (some ⟨B + 1, k, none⟩) | 6 => own = .int .i64 v | 7 => own = .int .i64 (u - v) | 8 => own = .pointer (some ⟨B + 1 + 1, k, none⟩) | 9 => True | _ => True) (fun Lx wx => Ext w wx ∧ IB wx B 31 za ∧ IB wx (B + 1) 31 zb ∧ IB wx (B + 1 + 1) 31 (if Lx 9 = true then mixI (dif za zb) (List.replicate 16 0) (k + 1) else mixI (dif za zb) (List.replicate 16 0) k)) (by kernel_rfl) (by kernel_rfl) (by kernel_rfl) ?g0_r1 ?gop_r1 ?gend_r1
      case g0_r1 => exact ⟨Ext.trans_drewN G0.1 1, G0.2.1.drewN 1, G0.2.2.1.drewN 1, G0.2.2.2.drewN 1⟩
      case gop_r1 =>
        refine ⟨?_, ?_, ?_, ?_, ?_, ?_, ?_, ?_, ?_, ?_, trivial⟩
        · intro Lx xs wx hG hl ha hb hD hI Qo Kx hK hQo
          have l9 : Lx 9 = false := hb 9 rfl
          clear hl ha hb
          clear hD
          clear hI
          simp only [patchS, Nat.reduceAdd, Nat.reduceEqDiff, ↓reduceIte] at hQo ⊢
          go_wp2
          exact hK.out _ _ ⟨rfl, hG, fun _ _ _ _ _ _ h => h⟩
        · intro Lx xs wx hG hl ha hb hD hI Qo Kx hK hQo
          have l9 : Lx 9 = false := hb 9 rfl
          clear hl ha hb
          clear hD
          clear hI
          simp only [patchS, Nat.reduceAdd, Nat.reduceEqDiff, ↓reduceIte] at hQo ⊢
          go_wp2
          exact hK.out _ _ ⟨rfl, hG, fun _ _ _ _ _ _ h => h⟩
        · intro Lx xs wx hG hl ha hb hD hI Qo Kx hK hQo
          have l9 : Lx 9 = false := hb 9 rfl
          clear hl ha hb
          have d1 : (xs 1) = .int .i64 (k : Nat) := hD 1 rfl
          clear hD
          clear hI
          simp only [patchS, Nat.reduceAdd, Nat.reduceEqDiff, ↓reduceIte] at hQo ⊢
          generalize xs 1 = y1 at *
          subst d1
          go_wp2
          exact hK.out _ _ ⟨rfl, hG, fun _ _ _ _ _ _ h => h⟩
        · intro Lx xs wx hG hl ha hb hD hI Qo Kx hK hQo
          have l9 : Lx 9 = false := hb 9 rfl
          clear hl ha hb
          have d2 : (xs 2) = .pointer (some ⟨B, k, none⟩) := hD 2 rfl
          clear hD
          clear hI
          simp only [patchS, Nat.reduceAdd, Nat.reduceEqDiff, ↓reduceIte] at hQo ⊢
          generalize xs 2 = y2 at *
          subst d2
          have cx := HcU.out wx hG.2.1
          go_wp2
          exact hK.out _ _ ⟨rfl, hG, fun _ _ _ _ _ _ h => h⟩
        · intro Lx xs wx hG hl ha hb hD hI Qo Kx hK hQo
          have l9 : Lx 9 = false := hb 9 rfl
          clear hl ha hb
          clear hD
          clear hI
          simp only [patchS, Nat.reduceAdd, Nat.reduceEqDiff, ↓reduceIte] at hQo ⊢
          go_wp2
          exact hK.out _ _ ⟨rfl, hG, fun _ _ _ _ _ _ h => h⟩
        · intro Lx xs wx hG hl ha hb hD hI Qo Kx hK hQo
          have l9 : Lx 9 = false := hb 9 rfl
          clear hl ha hb
          have d4 : (xs 4) = .int .i64 (k : Nat) := hD 4 rfl
          clear hD
          clear hI
          simp only [patchS, Nat.reduceAdd, Nat.reduceEqDiff, ↓reduceIte] at hQo ⊢
          generalize xs 4 = y4 at *
          subst d4
          go_wp2
          exact hK.out _ _ ⟨rfl, hG, fun _ _ _ _ _ _ h => h⟩
        · intro Lx xs wx hG hl ha hb hD hI Qo Kx hK hQo
          have l9 : Lx 9 = false := hb 9 rfl
          clear hl ha hb
          have d5 : (xs 5) = .pointer (some ⟨B + 1, k, none⟩) := hD 5 rfl
          clear hD
          clear hI
          simp only [patchS, Nat.reduceAdd, Nat.reduceEqDiff, ↓reduceIte] at hQo ⊢
          generalize xs 5 = y5 at *
          subst d5
          have cx := HcV.out wx hG.2.2.1
          go_wp2
          exact hK.out _ _ ⟨rfl, hG, fun _ _ _ _ _ _ h => h⟩
        · intro Lx xs wx hG hl ha hb hD hI Qo Kx hK hQo
          have l9 : Lx 9 = false := hb 9 rfl
          clear hl ha hb
          have d3 : (xs 3) = .int .i64 u := hD 3 rfl
          have d6 : (xs 6) = .int .i64 v := hD 6 rfl
          clear hD
          clear hI
          simp only [patchS, Nat.reduceAdd, Nat.reduceEqDiff, ↓reduceIte] at hQo ⊢
          generalize xs 3 = y3 at *
          generalize xs 6 = y6 at *
          subst d3
          subst d6
          go_wp2
          exact hK.out _ _ ⟨rfl, hG, fun _ _ _ _ _ _ h => h⟩
        · intro Lx xs wx hG hl ha hb hD hI Qo Kx hK hQo
          have l9 : Lx 9 = false := hb 9 rfl
          clear hl ha hb
          have d0 : (xs 0) = .int .i64 (k : Nat) := hD 0 rfl
          clear hD
          clear hI
          simp only [patchS, Nat.reduceAdd, Nat.reduceEqDiff, ↓reduceIte] at hQo ⊢
          generalize xs 0 = y0 at *
          subst d0
          go_wp2
          exact hK.out _ _ ⟨rfl, hG, fun _ _ _ _ _ _ h => h⟩
        · intro Lx xs wx hG hl ha hb hD hI Qo Kx hK hQo
          have l9 : Lx 9 = false := hl
          clear hl ha hb
          have d7 : (xs 7) = .int .i64 (u - v) := hD 7 rfl
          have d8 : (xs 8) = .pointer (some ⟨B + 1 + 1, k, none⟩) := hD 8 rfl
          clear hD
          clear hI
          simp only [patchS, Nat.reduceAdd, Nat.reduceEqDiff, ↓reduceIte] at hQo ⊢
          generalize xs 7 = y7 at *
          generalize xs 8 = y8 at *
          subst d7
          subst d8
          rw [l9, ifF] at hG
          have cx := hG.2.2.2.cell (i := k) (by rw [HM.out]; exact hlt)
          have fx := hG.2.2.2.frozen k
          have s2 := hG.2.2.2.set k (u - v)
          rw [Hset.out] at s2
          have gE := Ext.grown hG.1 (gr_set _ (B + 1 + 1) k (.int .i64 (u - v))) (fun q hq => by cases hq; omega)
          have g0' := hG.2.1.set_other (c := B + 1 + 1) (i := k) (v := .int .i64 (u - v)) (by omega)
          have g1' := hG.2.2.1.set_other (c := B + 1 + 1) (i := k) (v := .int .i64 (u - v)) (by omega)
          go_wp2
          exact hQo undef _ (hK.out _ _ ⟨trivial, ⟨gE, g0', g1', s2⟩, fun _ _ _ _ _ _ h => h⟩)
      intro xs wx hV hG0
      obtain ⟨Lx, hL, hG⟩ := hG0
      have l9 : Lx 9 = true := hL 9 (by decide)
      clear hL
      have d0 : (xs 0) = .int .i64 (k : Nat) := hV 0 (by decide)
      have d1 : (xs 1) = .int .i64 (k : Nat) := hV 1 (by decide)
      have d2 : (xs 2) = .pointer (some ⟨B, k, none⟩) := hV 2 (by decide)
      have d3 : (xs 3) = .int .i64 u := hV 3 (by decide)
      have d4 : (xs 4) = .int .i64 (k : Nat) := hV 4 (by decide)
      have d5 : (xs 5) = .pointer (some ⟨B + 1, k, none⟩) := hV 5 (by decide)
      have d6 : (xs 6) = .int .i64 v := hV 6 (by decide)
      have d7 : (xs 7) = .int .i64 (u - v) := hV 7 (by decide)
      have d8 : (xs 8) = .pointer (some ⟨B + 1 + 1, k, none⟩) := hV 8 (by decide)
      clear hV
      simp only [patchS, Nat.reduceAdd, Nat.reduceEqDiff, ↓reduceIte]
      generalize xs 0 = y0 at *
      generalize xs 1 = y1 at *
      generalize xs 2 = y2 at *
      generalize xs 3 = y3 at *
      generalize xs 4 = y4 at *
      generalize xs 5 = y5 at *
      generalize xs 6 = y6 at *
      generalize xs 7 = y7 at *
      generalize xs 8 = y8 at *
      generalize xs 9 = y9 at *
      replace hG : Ext w wx ∧ IB wx B 31 za ∧ IB wx (B + 1) 31 zb ∧ IB wx (B + 1 + 1) 31 (if Lx 9 = true then mixI (dif za zb) (List.replicate 16 0) (k + 1) else mixI (dif za zb) (List.replicate 16 0) k) := hG
      clear d0 d1 d2 d3 d4 d5 d6 d7 d8
      rw [l9, ifT] at hG
      clear G0 HcU HcV
      obtain ⟨E5, s0, s1, s2⟩ := hG
      go_wp2
      go_roundw
      case rel => exact ⟨k + 1, by omega, by go_num, E5, s0, s1, s2⟩
      case measure => simp [intOf]; omega
    · obtain rfl : k = 16 := by omega
      rw [mixI_all _ _ 16 HL.out Hz0.out] at r2
      go_wp2_with (refine wpList_iload 31 _ rfl rfl r2 0 16 rfl _ Tryd.underlying31 rfl size_A16 (by rw [HL.out]; omega) _ (by rw [sub_all _ _ (HL.out)]) ?_)
      refine (l3Apply_any (dif za zb) _ HL.out (inB_bdA (M := 1048576) (by omega) HR.out (by omega))).mono ?_
      rintro e w2 ⟨rfl, e2⟩
      have E5 := E4.trans e2
      have q2 := IB.new w2 31 (List.replicate 16 0)
      have E6 := E5.trans (Ext.alloc w2 (.cells (ic (List.replicate 16 0)) 31))
      have hs2 := E5.size
      clear r0 r1 r2 E4 E5 e2
      go_wp2_with (refine wpList_istore 31 _ _ rfl rfl q2 0 16 rfl _ rfl _ rfl size_A16 (HH.out) (by simp) ?_; intro w3 i3 g3; refine Hid.out ?_)
      rw [spl_all (by rw [HH.out]; simp)] at i3
      have E7 : Ext w w3 := Ext.grown E6 g3 (fun k e => by cases e; omega)
      obtain ⟨O, hO⟩ : ∃ O, O = w2.heap.size := ⟨_, rfl⟩
      rw [← hO] at i3 ⊢
      have HO := Lib.hid hO
      clear hO q2 E6 g3 hs2
      refine Lib.hid ?_
      go_wp2_with fail
      go_loopw [9, 8] (fun i s wr => ∃ k : Nat, k ≤ 16 ∧ i = .int .i64 k ∧ s = .int .i64 (sumA (had (dif za zb)) k) ∧ Ext w wr ∧ IB wr O 31 (had (dif za zb))) (fun i _ _ => 16 - (intOf i).toNat)
      case atStart => exact ⟨0, by omega, rfl, rfl, E7, i3⟩
      case round =>
        obtain ⟨k, hk, rfl, rfl, E8, r0⟩ := hrel
        clear E7 i3
        have hsr := sumA_rng (c := had (dif za zb)) (B := 4080) (k := k) (fun i hi => HB.out i (by omega))
        by_cases hlt : k < 16
        · have hd : decide ((k : Int) < 16) = true := by simp; omega
          have hbk := HB.out k hlt
          have Hsu := Lib.hid (sumA_succ (had (dif za zb)) k)
          have c0 := r0.cell (i := k) (by rw [HH.out]; exact hlt)
          have Cr := Lib.hid (fun (wx : World) (h : IB wx O 31 (had (dif za zb))) => h.cell (i := k) (by rw [HH.out]; exact hlt))
          obtain ⟨z, hz⟩ : ∃ z, z = nth (had (dif za zb)) k := ⟨_, rfl⟩
          obtain ⟨S, hS⟩ : ∃ S, S = sumA (had (dif za zb)) k := ⟨_, rfl⟩
          rw [← hz] at hbk Hsu c0
          simp only [← hz] at Cr
          rw [← hS] at hsr Hsu ⊢
          have ha1 := absZ_ge z
          have ha2 := absZ_le hbk
          clear hz hS
          have h40 : S ≤ 65280 := by omega
          have hmx : (max z (-z) : Int) = absZ z := by unfold absZ; split <;> omega
          have Hmx := Lib.hid hmx
          clear hmx c0
          have G0 : Ext w wr ∧ IB wr O 31 (had (dif za zb)) := ⟨E8, r0⟩
          clear E8 r0
          go_wp2_with fail
          refine wp_region_invL (by kernel_rfl) [(8, 10), (42, 0), (43, 1), (44, 2), (45, 3), (46, 4), (47, 5), (48, 6), (49, 7), (50, 8), (51, 9)] [[], [], [1], [1, 2], [], [4], [4, 5], [4, 5, 6], [1, 2, 3, 4, 5, 6, 7], [0, 1, 2, 3, 4, 5, 6, 7, 8], [0, 1, 2, 3, 4, 5, 6, 7, 8, 9]] (fun i own ys wx => match i with | 0 => own = .int .i64 S | 1 => own = .int .i64 (k : Nat) | 2 => own = .pointer (some ⟨O, k, none⟩) | 3 => own = .int .i64 z | 4 => own = .int .i64 (k : Nat) | 5 => own = .pointer (some ⟨O, k, none⟩) | 6 => own = .int .i64 z | 7 => own = .int .i64 (-z) | 8 => own = .int .i64 (absZ z) | 9 => own = .int .i64 (S + absZ z) | 10 => own = .int .i64 (S + absZ z) | _ => True) (fun Lx wx => Ext w wx ∧ IB wx O 31 (had (dif za zb))) (by kernel_rfl) (by kernel_rfl) (by kernel_rfl) ?g0_r2 ?gop_r2 ?gend_r2
          case g0_r2 => exact ⟨Ext.trans_drewN G0.1 1, G0.2.drewN 1⟩
          case gop_r2 =>
            refine ⟨?_, ?_, ?_, ?_, ?_, ?_, ?_, ?_, ?_, ?_, ?_, trivial⟩
            · intro Lx xs wx hG hl ha hb hD hI Qo Kx hK hQo
              clear hl ha hb
              clear hD
              have i10 := hI 10 8 rfl rfl
              simp only [List.getD_cons_succ, List.getD_cons_zero] at i10
              clear hI
              simp only [patchS, Nat.reduceAdd, Nat.reduceEqDiff, ↓reduceIte] at hQo ⊢
              rw [i10] at hQo ⊢
              clear i10
              go_wp2
              exact hK.out _ _ ⟨rfl, hG, fun _ _ _ _ _ _ h => h⟩
            · intro Lx xs wx hG hl ha hb hD hI Qo Kx hK hQo
              clear hl ha hb
              clear hD
              clear hI
              simp only [patchS, Nat.reduceAdd, Nat.reduceEqDiff, ↓reduceIte] at hQo ⊢
              go_wp2
              exact hK.out _ _ ⟨rfl, hG, fun _ _ _ _ _ _ h => h⟩
            · intro Lx xs wx hG hl ha hb hD hI Qo Kx hK hQo
              clear hl ha hb
              have d1 : (xs 1) = .int .i64 (k : Nat) := hD 1 rfl
              clear hD
              clear hI
              simp only [patchS, Nat.reduceAdd, Nat.reduceEqDiff, ↓reduceIte] at hQo ⊢
              generalize xs 1 = y1 at *
              subst d1
              go_wp2
              exact hK.out _ _ ⟨rfl, hG, fun _ _ _ _ _ _ h => h⟩
            · intro Lx xs wx hG hl ha hb hD hI Qo Kx hK hQo
              clear hl ha hb
              have d2 : (xs 2) = .pointer (some ⟨O, k, none⟩) := hD 2 rfl
              clear hD
              clear hI
              simp only [patchS, Nat.reduceAdd, Nat.reduceEqDiff, ↓reduceIte] at hQo ⊢
              generalize xs 2 = y2 at *
              subst d2
              have cx := Cr.out wx hG.2
              go_wp2
              exact hK.out _ _ ⟨rfl, hG, fun _ _ _ _ _ _ h => h⟩
            · intro Lx xs wx hG hl ha hb hD hI Qo Kx hK hQo
              clear hl ha hb
              clear hD
              clear hI
              simp only [patchS, Nat.reduceAdd, Nat.reduceEqDiff, ↓reduceIte] at hQo ⊢
              go_wp2
              exact hK.out _ _ ⟨rfl, hG, fun _ _ _ _ _ _ h => h⟩
            · intro Lx xs wx hG hl ha hb hD hI Qo Kx hK hQo
              clear hl ha hb
              have d4 : (xs 4) = .int .i64 (k : Nat) := hD 4 rfl
              clear hD
              clear hI
              simp only [patchS, Nat.reduceAdd, Nat.reduceEqDiff, ↓reduceIte] at hQo ⊢
              generalize xs 4 = y4 at *
              subst d4
              go_wp2
              exact hK.out _ _ ⟨rfl, hG, fun _ _ _ _ _ _ h => h⟩
            · intro Lx xs wx hG hl ha hb hD hI Qo Kx hK hQo
              clear hl ha hb
              have d5 : (xs 5) = .pointer (some ⟨O, k, none⟩) := hD 5 rfl
              clear hD
              clear hI
              simp only [patchS, Nat.reduceAdd, Nat.reduceEqDiff, ↓reduceIte] at hQo ⊢
              generalize xs 5 = y5 at *
              subst d5
              have cx := Cr.out wx hG.2
              go_wp2
              exact hK.out _ _ ⟨rfl, hG, fun _ _ _ _ _ _ h => h⟩
            · intro Lx xs wx hG hl ha hb hD hI Qo Kx hK hQo
              clear hl ha hb
              have d6 : (xs 6) = .int .i64 z := hD 6 rfl
              clear hD
              clear hI
              simp only [patchS, Nat.reduceAdd, Nat.reduceEqDiff, ↓reduceIte] at hQo ⊢
              generalize xs 6 = y6 at *
              subst d6
              go_wp2
              exact hK.out _ _ ⟨rfl, hG, fun _ _ _ _ _ _ h => h⟩
            · intro Lx xs wx hG hl ha hb hD hI Qo Kx hK hQo
              clear hl ha hb
              have d3 : (xs 3) = .int .i64 z := hD 3 rfl
              have d7 : (xs 7) = .int .i64 (-z) := hD 7 rfl
              clear hD
              clear hI
              simp only [patchS, Nat.reduceAdd, Nat.reduceEqDiff, ↓reduceIte] at hQo ⊢
              generalize xs 3 = y3 at *
              generalize xs 7 = y7 at *
              subst d3
              subst d7
              go_wp2
              · exact hK.out _ _ ⟨by first | rfl | (unfold absZ; congr 1; split <;> omega), hG, fun _ _ _ _ _ _ h => h⟩
              · exact hK.out _ _ ⟨by first | rfl | (unfold absZ; congr 1; split <;> omega), hG, fun _ _ _ _ _ _ h => h⟩
            · intro Lx xs wx hG hl ha hb hD hI Qo Kx hK hQo
              clear hl ha hb
              have d0 : (xs 0) = .int .i64 S := hD 0 rfl
              have d8 : (xs 8) = .int .i64 (absZ z) := hD 8 rfl
              clear hD
              clear hI
              simp only [patchS, Nat.reduceAdd, Nat.reduceEqDiff, ↓reduceIte] at hQo ⊢
              generalize xs 0 = y0 at *
              generalize xs 8 = y8 at *
              subst d0
              subst d8
              go_wp2
              exact hK.out _ _ ⟨rfl, hG, fun _ _ _ _ _ _ h => h⟩
            · intro Lx xs wx hG hl ha hb hD hI Qo Kx hK hQo
              clear hl ha hb
              have d9 : (xs 9) = .int .i64 (S + absZ z) := hD 9 rfl
              clear hD
              clear hI
              simp only [patchS, Nat.reduceAdd, Nat.reduceEqDiff, ↓reduceIte] at hQo ⊢
              generalize xs 9 = y9 at *
              subst d9
              go_wp2
              exact hK.out _ _ ⟨rfl, hG, fun _ _ _ _ _ _ h => h⟩
          intro xs wx hV hG0
          obtain ⟨Lx, hL, hG⟩ := hG0
          clear hL
          have d0 : (xs 0) = .int .i64 S := hV 0 (by decide)
          have d1 : (xs 1) = .int .i64 (k : Nat) := hV 1 (by decide)
          have d2 : (xs 2) = .pointer (some ⟨O, k, none⟩) := hV 2 (by decide)
          have d3 : (xs 3) = .int .i64 z := hV 3 (by decide)
          have d4 : (xs 4) = .int .i64 (k : Nat) := hV 4 (by decide)
          have d5 : (xs 5) = .pointer (some ⟨O, k, none⟩) := hV 5 (by decide)
          have d6 : (xs 6) = .int .i64 z := hV 6 (by decide)
          have d7 : (xs 7) = .int .i64 (-z) := hV 7 (by decide)
          have d8 : (xs 8) = .int .i64 (absZ z) := hV 8 (by decide)
          have d9 : (xs 9) = .int .i64 (S + absZ z) := hV 9 (by decide)
          have d10 : (xs 10) = .int .i64 (S + absZ z) := hV 10 (by decide)
          clear hV
          simp only [patchS, Nat.reduceAdd, Nat.reduceEqDiff, ↓reduceIte]
          generalize xs 0 = y0 at *
          generalize xs 1 = y1 at *
          generalize xs 2 = y2 at *
          generalize xs 3 = y3 at *
          generalize xs 4 = y4 at *
          generalize xs 5 = y5 at *
          generalize xs 6 = y6 at *
          generalize xs 7 = y7 at *
          generalize xs 8 = y8 at *
          generalize xs 9 = y9 at *
          generalize xs 10 = y10 at *
          replace hG : Ext w wx ∧ IB wx O 31 (had (dif za zb)) := hG
          clear d0 d1 d2 d3 d4 d5 d6 d7 d8 d9
          subst d10
          obtain ⟨E9, s0⟩ := hG
          clear G0 Cr
          go_wp2
          go_roundw
          case rel => exact ⟨k + 1, by omega, by go_num, by rw [Hsu.out], E9, s0⟩
          case measure => simp [intOf]; omega
        · obtain rfl : k = 16 := by omega
          have Htc := Lib.hid (show tcost za zb = sumA (had (dif za zb)) 16 / 4 from rfl)
          obtain ⟨S, hS⟩ : ∃ S, S = sumA (had (dif za zb)) 16 := ⟨_, rfl⟩
          rw [← hS] at hsr Htc ⊢
          clear hS
          go_wp2
          go_ret
          exact ⟨by rw [Htc.out]; rfl, E8⟩
set_option maxRecDepth 100000 in
theorem impl_EdgesValid_any (ed : Ed) (w : World) (ok : ed.ok) :
    Calls Tryd.prog 105 #[.agg (edC ed)] w fun e w' => e = .returned (.bool true) ∧ Ext w w' := by
  have Da := Lib.hid (show decide (smp ed.ab) = true from decide_eq_true ok.sab)
  have Dl := Lib.hid (show decide (smp ed.lf) = true from decide_eq_true ok.slf)
  have hco := ok.sco
  have L := Lib.hid ok.ln
  clear ok
  have p0 := EB.new w ed
  have E1 := Ext.alloc w (.cells (edC ed) 97)
  have cc := p0.co L.out
  have sa := p0.sl_ab L.out
  have sl := p0.sl_lf L.out
  have Sa := Lib.hid sa
  have S2 := Lib.hid sl
  clear sa sl
  go_enter Tryd.func105, Tryd.ntmps105
  go_wp2_with fail
  refine (samplesIn_any _ _ 4 ed.ab _ (by omega) Sa.out).mono ?_
  rw [Da.out]
  rintro e w0 ⟨rfl, rfl⟩
  go_wp2_with fail
  refine (samplesIn_any _ _ 4 ed.lf _ (by omega) S2.out).mono ?_
  rw [Dl.out]
  rintro e w0 ⟨rfl, rfl⟩
  go_wp2_with fail
  refine (sampleValid_yes ed.co _ hco.1 hco.2).mono ?_
  rintro e w0 ⟨rfl, rfl⟩
  go_wp2
  go_ret
  exact ⟨rfl, E1⟩
set_option maxRecDepth 100000 in
theorem spec_EdgesValid_any (ed : Ed) (w : World) (ok : ed.ok) :
    Calls Tryd.prog 136 #[.agg (edC ed)] w fun e w' => e = .returned (.bool true) ∧ Ext w w' := by
  have Ha := Lib.hid (fun k (hk : k < 4) => smp_nth ok.sab (i := k) (by have := ok.ab; omega))
  have Hf := Lib.hid (fun k (hk : k < 4) => smp_nth ok.slf (i := k) (by have := ok.lf; omega))
  have hco := ok.sco
  have L := Lib.hid ok.ln
  clear ok
  have p0 := EB.new w ed
  have E1 := Ext.alloc w (.cells (edC ed) 97)
  have cc := p0.co L.out
  have ca := Lib.hid (fun k (hk : k < 4) => p0.ab L.out hk)
  have cl := Lib.hid (fun k (hk : k < 4) => p0.lf L.out hk)
  go_enter Tryd.func136, Tryd.ntmps136
  go_wp2_with fail
  refine (l1In_yes _ _ _ _ hco.1 hco.2).mono ?_
  rintro e w0 ⟨rfl, rfl⟩
  go_wp2_with fail
  go_loop [4, 3] (fun i s => ∃ k : Nat, k ≤ 4 ∧ i = .int .i64 k ∧ s = .bool true) (fun i _ => 4 - (intOf i).toNat)
  case atStart => exact ⟨0, by omega, rfl, rfl⟩
  case round =>
    obtain ⟨k, hk, rfl, rfl⟩ := hrel
    by_cases hlt : k < 4
    · have hd : decide ((k : Int) < 4) = true := by simp; omega
      have b0 := Ha.out k hlt
      have b1 := Hf.out k hlt
      have c0 := ca.out k hlt
      have c1 := cl.out k hlt
      generalize nth ed.ab k = u at *
      generalize nth ed.lf k = v at *
      go_wp2_with fail
      refine (l1In_yes _ _ _ _ b0.1 b0.2).mono ?_
      rintro e w0 ⟨rfl, rfl⟩
      go_wp2_with fail
      refine (l1In_yes _ _ _ _ b1.1 b1.2).mono ?_
      rintro e w0 ⟨rfl, rfl⟩
      go_wp2
      go_round
      case rel => exact ⟨k + 1, by omega, by go_num, rfl⟩
      case measure => simp [intOf]; omega
    · obtain rfl : k = 4 := by omega
      go_wp2
      go_ret
      exact ⟨rfl, E1⟩
end Go.Proofs.YtbnhaegidfbgbaaDoor
namespace Go.Proofs.YtbnhaegidfbgbaaDoor
open Go.RowKit
set_option maxHeartbeats 1000000
/-- The best of the first modes, and its cost. -/
def bb (a : List Int) (e : Ed) : Nat → Nat × Int
  | 0 => (0, 0)
  | k + 1 => if k = 0 ∨ tcost a (prd k e) < (bb a e k).2 then (k, tcost a (prd k e)) else bb a e k
theorem bb_yes {a : List Int} {e : Ed} {k : Nat} (h : k = 0 ∨ tcost a (prd k e) < (bb a e k).2) : bb a e (k + 1) = (k, tcost a (prd k e)) := by
  show (if _ then _ else _) = _
  rw [if_pos h]
theorem bb_no {a : List Int} {e : Ed} {k : Nat} (h0 : ¬ k = 0) (h : ¬ tcost a (prd k e) < (bb a e k).2) : bb a e (k + 1) = bb a e k := by
  show (if _ then _ else _) = _
  rw [if_neg (by omega)]
theorem bb_le (a : List Int) (e : Ed) : ∀ k : Nat, (bb a e (k + 1)).1 ≤ k
  | 0 => by rw [bb_yes (.inl rfl)]; exact Nat.le_refl _
  | k + 1 => by
    by_cases h : tcost a (prd (k + 1) e) < (bb a e (k + 1)).2
    · rw [bb_yes (.inr h)]; exact Nat.le_refl _
    · rw [bb_no (by omega) h]
      exact Nat.le_succ_of_le (bb_le a e k)
def bst (a : List Int) (e : Ed) : Nat := (bb a e 5).1
theorem bst_le (a : List Int) (e : Ed) : bst a e ≤ 4 := bb_le a e 4
set_option maxRecDepth 100000 in
theorem impl_BestIntra_any (za : List Int) (ed : Ed) (w : World) (hx : za.length = 16) (sx : smp za) (ok : ed.ok) :
    Calls Tryd.prog 72 #[.agg (ic za), .agg (edC ed)] w fun e w' => e = .returned (.int .i64 (bst za ed : Nat)) ∧ Ext w w' := by
  have Hx := Lib.hid hx
  have Sx := Lib.hid sx
  have Dx := Lib.hid (show decide (smp za) = true from decide_eq_true sx)
  have OK := Lib.hid ok
  have HC := Lib.hid (fun k => tcost_rng sx (prd_smp k ok) hx (prd_len k ed))
  have h00 := (tcost_rng sx sx hx hx).1
  have h01 : decide (tcost za za < 0) = false := decide_eq_false (by omega)
  have H01 := Lib.hid h01
  have HSt := Lib.hid (show bst za ed = (bb za ed 5).1 from rfl)
  clear hx sx ok h00 h01
  have a2 := Ext.alloc (w.alloc (.cells (ic za) 31)) (.cells (edC ed) 97)
  have p0 := (IB.new w 31 za).ext a2
  have p1 := EB.new (w.alloc (.cells (ic za) 31)) ed
  have E1 := (Ext.alloc w (.cells (ic za) 31)).trans a2
  simp only [World.size_alloc] at p1
  clear a2
  go_enter Tryd.func72, Tryd.ntmps72
  go_wp2_with fail
  obtain ⟨B, hB⟩ : ∃ B, B = w.heap.size := ⟨_, rfl⟩
  try simp only [World.size_alloc]
  rw [← hB] at p0 p1 ⊢
  have hwB : w.heap.size ≤ B := by omega
  have HB0 := Lib.hid hB
  clear hB
  refine (samplesIn_any (some ⟨B, 0, none⟩) 16 16 za _ (by omega) (p0.sl Hx.out)).mono ?_
  rw [Dx.out]
  rintro e w0 ⟨rfl, rfl⟩
  go_wp2_with (refine wpList_cload 97 _ rfl rfl p1 rfl _ Tryd.underlying97 rfl 11 size_Edges (edC_size OK.out.ln) ?_)
  refine (impl_EdgesValid_any ed _ OK.out).mono ?_
  rintro e w1 ⟨rfl, e1⟩
  have q0 := p0.ext e1
  have q1 := p1.ext e1
  have E2 := E1.trans e1
  clear p0 p1 E1 e1
  go_wp2_with fail
  go_loopw [7, 5, 6] (fun i s t wr => ∃ k : Nat, k ≤ 5 ∧ i = .int .i64 k ∧ s = .int .i64 ((bb za ed k).1 : Nat) ∧ t = .int .i64 (bb za ed k).2 ∧ Ext w wr ∧ IB wr B 31 za ∧ EB wr (B + 1) ed) (fun i _ _ _ => 5 - (intOf i).toNat)
  case atStart => exact ⟨0, by omega, rfl, rfl, rfl, E2, q0, q1⟩
  case round =>
    obtain ⟨k, hk, rfl, rfl, rfl, E4, r0, r1⟩ := hrel
    clear E2 q0 q1
    by_cases hlt : k ≤ 4
    · have hd : decide ((k : Int) ≤ 4) = true := by simp; omega
      have hCr := HC.out k
      have Hy := Lib.hid (fun h => bb_yes (a := za) (e := ed) (k := k) h)
      have Hn := Lib.hid (fun h0 h => bb_no (a := za) (e := ed) (k := k) h0 h)
      obtain ⟨C, hC⟩ : ∃ C, C = tcost za (prd k ed) := ⟨_, rfl⟩
      obtain ⟨S, hS⟩ : ∃ S, S = (bb za ed k).2 := ⟨_, rfl⟩
      obtain ⟨b, hb⟩ : ∃ b, b = (bb za ed k).1 := ⟨_, rfl⟩
      have Heq := Lib.hid (show bb za ed k = ((bb za ed k).1, (bb za ed k).2) from rfl)
      rw [← hC] at hCr Hy Hn
      rw [← hS] at Hy Hn Heq ⊢
      rw [← hb] at Heq ⊢
      have HCe := Lib.hid hC
      clear hC hS hb
      have G0 : Ext w wr ∧ IB wr B 31 za ∧ EB wr (B + 1) ed := ⟨E4, r0, r1⟩
      clear E4 r0 r1
      go_wp2_with fail
      refine wp_region_invL (by kernel_rfl) [(8, 5), (21, 0), (22, 1), (23, 2), (24, 3), (25, 4)] [[], [], [], [1, 2], [0, 1, 2, 3], [0, 1, 2, 3, 4]] (fun i own ys wx => match i with | 0 => own = .agg (ic za) | 1 => own = .agg (edC ed) | 2 => own = .int .i64 (k : Nat) | 3 => own = .agg (ic (prd k ed)) | 4 => own = .int .i64 C | 5 => own = .int .i64 C | _ => True) (fun Lx wx => Ext w wx ∧ IB wx B 31 za ∧ EB wx (B + 1) ed) (by kernel_rfl) (by kernel_rfl) (by kernel_rfl) ?g0_r1 ?gop_r1 ?gend_r1
      case g0_r1 => exact ⟨Ext.trans_drewN G0.1 1, G0.2.1.drewN 1, G0.2.2.ext (Ext.drewN _ 1)⟩
      case gop_r1 =>
        refine ⟨?_, ?_, ?_, ?_, ?_, ?_, trivial⟩
        · intro Lx xs wx hG hl ha hb hD hI Qo Kx hK hQo
          clear hl ha hb
          clear hD
          clear hI
          simp only [patchS, Nat.reduceAdd, Nat.reduceEqDiff, ↓reduceIte] at hQo ⊢
          go_wp2_with (refine wpList_iload 31 _ rfl rfl hG.2.1 0 16 rfl _ Tryd.underlying31 rfl size_A16 (by rw [Hx.out]; omega) _ (by rw [sub_all _ _ (Hx.out)]) ?_)
          exact hK.out _ _ ⟨rfl, hG, fun _ _ _ _ _ _ h => h⟩
        · intro Lx xs wx hG hl ha hb hD hI Qo Kx hK hQo
          clear hl ha hb
          clear hD
          clear hI
          simp only [patchS, Nat.reduceAdd, Nat.reduceEqDiff, ↓reduceIte] at hQo ⊢
          go_wp2_with (refine wpList_cload 97 _ rfl rfl hG.2.2 rfl _ Tryd.underlying97 rfl 11 size_Edges (edC_size OK.out.ln) ?_)
          exact hK.out _ _ ⟨rfl, hG, fun _ _ _ _ _ _ h => h⟩
        · intro Lx xs wx hG hl ha hb hD hI Qo Kx hK hQo
          clear hl ha hb
          clear hD
          clear hI
          simp only [patchS, Nat.reduceAdd, Nat.reduceEqDiff, ↓reduceIte] at hQo ⊢
          go_wp2
          exact hK.out _ _ ⟨rfl, hG, fun _ _ _ _ _ _ h => h⟩
        · intro Lx xs wx hG hl ha hb hD hI Qo Kx hK hQo
          clear hl ha hb
          have d1 : (xs 1) = .agg (edC ed) := hD 1 rfl
          have d2 : (xs 2) = .int .i64 (k : Nat) := hD 2 rfl
          clear hD
          clear hI
          simp only [patchS, Nat.reduceAdd, Nat.reduceEqDiff, ↓reduceIte] at hQo ⊢
          generalize xs 1 = y1 at *
          generalize xs 2 = y2 at *
          subst d1
          subst d2
          go_wp2_with fail
          refine (predict_any ed k _ OK.out (by omega)).mono ?_
          rintro e w9 ⟨rfl, e9⟩
          go_wp2
          exact hK.out _ _ ⟨rfl, ⟨hG.1.trans e9, hG.2.1.ext e9, hG.2.2.ext e9⟩, fun _ _ _ _ _ _ h => h⟩
        · intro Lx xs wx hG hl ha hb hD hI Qo Kx hK hQo
          clear hl ha hb
          have d0 : (xs 0) = .agg (ic za) := hD 0 rfl
          have d3 : (xs 3) = .agg (ic (prd k ed)) := hD 3 rfl
          clear hD
          clear hI
          simp only [patchS, Nat.reduceAdd, Nat.reduceEqDiff, ↓reduceIte] at hQo ⊢
          generalize xs 0 = y0 at *
          generalize xs 3 = y3 at *
          subst d0
          subst d3
          go_wp2_with fail
          refine (impl_TransformCost_any za (prd k ed) _ Hx.out (prd_len _ _) Sx.out (prd_smp _ OK.out)).mono ?_
          rintro e w9 ⟨rfl, e9⟩
          rw [← HCe.out]
          go_wp2
          exact hK.out _ _ ⟨rfl, ⟨hG.1.trans e9, hG.2.1.ext e9, hG.2.2.ext e9⟩, fun _ _ _ _ _ _ h => h⟩
        · intro Lx xs wx hG hl ha hb hD hI Qo Kx hK hQo
          clear hl ha hb
          have d4 : (xs 4) = .int .i64 C := hD 4 rfl
          clear hD
          clear hI
          simp only [patchS, Nat.reduceAdd, Nat.reduceEqDiff, ↓reduceIte] at hQo ⊢
          generalize xs 4 = y4 at *
          subst d4
          go_wp2
          exact hK.out _ _ ⟨rfl, hG, fun _ _ _ _ _ _ h => h⟩
      intro xs wx hV hG0
      obtain ⟨Lx, hL, hG⟩ := hG0
      clear hL
      have d0 : (xs 0) = .agg (ic za) := hV 0 (by decide)
      have d1 : (xs 1) = .agg (edC ed) := hV 1 (by decide)
      have d2 : (xs 2) = .int .i64 (k : Nat) := hV 2 (by decide)
      have d3 : (xs 3) = .agg (ic (prd k ed)) := hV 3 (by decide)
      have d4 : (xs 4) = .int .i64 C := hV 4 (by decide)
      have d5 : (xs 5) = .int .i64 C := hV 5 (by decide)
      clear hV
      simp only [patchS, Nat.reduceAdd, Nat.reduceEqDiff, ↓reduceIte]
      generalize xs 0 = y0 at *
      generalize xs 1 = y1 at *
      generalize xs 2 = y2 at *
      generalize xs 3 = y3 at *
      generalize xs 4 = y4 at *
      generalize xs 5 = y5 at *
      replace hG : Ext w wx ∧ IB wx B 31 za ∧ EB wx (B + 1) ed := hG
      clear d0 d1 d2 d3 d4
      subst d5
      obtain ⟨E5, s0, s1⟩ := hG
      clear G0
      by_cases h0 : k = 0
      · have g0 : ((k : Int) == 0) = true := by simp; omega
        · go_wp2
          go_roundw
          case rel =>
            have hn := Hy.out (.inl h0)
            exact ⟨k + 1, by omega, by go_num, by rw [hn], by rw [hn], E5, s0, s1⟩
          case measure => simp [intOf]; omega
      · have g0 : ((k : Int) == 0) = false := by simp; omega
        by_cases h1 : C < S
        · have g1 : decide (C < S) = true := decide_eq_true h1
          go_wp2
          go_roundw
          case rel =>
            have hn := Hy.out (.inr h1)
            exact ⟨k + 1, by omega, by go_num, by rw [hn], by rw [hn], E5, s0, s1⟩
          case measure => simp [intOf]; omega
        · have g1 : decide (C < S) = false := decide_eq_false h1
          go_wp2
          go_roundw
          case rel =>
            have hn := Hn.out h0 (by omega)
            exact ⟨k + 1, by omega, by go_num, by rw [hn, Heq.out], by rw [hn, Heq.out], E5, s0, s1⟩
          case measure => simp [intOf]; omega
    · obtain rfl : k = 5 := by omega
      
      go_wp2
      go_ret
      exact ⟨by rw [HSt.out]; rfl, E4⟩
set_option maxRecDepth 100000 in
theorem spec_BestIntra_any (za : List Int) (ed : Ed) (w : World) (hx : za.length = 16) (sx : smp za) (ok : ed.ok) :
    Calls Tryd.prog 104 #[.agg (ic za), .agg (edC ed)] w fun e w' => e = .returned (.int .i64 (bst za ed : Nat)) ∧ Ext w w' := by
  have Hx := Lib.hid hx
  have Sx := Lib.hid sx
  have Dx := Lib.hid (show decide (smp za) = true from decide_eq_true sx)
  have OK := Lib.hid ok
  have HC := Lib.hid (fun k => tcost_rng sx (prd_smp k ok) hx (prd_len k ed))
  have h00 := (tcost_rng sx sx hx hx).1
  have h01 : decide (tcost za za < 0) = false := decide_eq_false (by omega)
  have H01 := Lib.hid h01
  have HSt := Lib.hid (show bst za ed = (bb za ed 5).1 from rfl)
  clear hx sx ok h00 h01
  have a2 := Ext.alloc (w.alloc (.cells (ic za) 31)) (.cells (edC ed) 97)
  have p0 := (IB.new w 31 za).ext a2
  have p1 := EB.new (w.alloc (.cells (ic za) 31)) ed
  have E1 := (Ext.alloc w (.cells (ic za) 31)).trans a2
  simp only [World.size_alloc] at p1
  clear a2
  go_enter Tryd.func104, Tryd.ntmps104
  go_wp2_with (refine wpList_cload 97 _ rfl rfl p1 rfl _ Tryd.underlying97 rfl 11 size_Edges (edC_size OK.out.ln) ?_)
  obtain ⟨B, hB⟩ : ∃ B, B = w.heap.size := ⟨_, rfl⟩
  try simp only [World.size_alloc]
  rw [← hB] at p0 p1 ⊢
  have hwB : w.heap.size ≤ B := by omega
  have HB0 := Lib.hid hB
  clear hB
  refine (spec_EdgesValid_any ed _ OK.out).mono ?_
  rintro e w0 ⟨rfl, e0⟩
  have q0 := p0.ext e0
  have q1 := p1.ext e0
  have F1 := E1.trans e0
  clear p0 p1 E1 e0
  have p0 := q0
  have p1 := q1
  have E1 := F1
  clear q0 q1 F1
  go_wp2_with (refine wpList_iload 31 _ rfl rfl p0 0 16 rfl _ Tryd.underlying31 rfl size_A16 (by rw [Hx.out]; omega) _ (by rw [sub_all _ _ (Hx.out)]) ?_)
  refine (spec_TransformCost_any za za _ Hx.out Hx.out Sx.out Sx.out).mono ?_
  have h01 := H01.out
  generalize tcost za za = C0 at *
  rintro e w1 ⟨rfl, e1⟩
  have q0 := p0.ext e1
  have q1 := p1.ext e1
  have E2 := E1.trans e1
  clear p0 p1 E1 e1
  go_wp2_with fail
  go_loopw [7, 5, 6] (fun i s t wr => ∃ k : Nat, k ≤ 5 ∧ i = .int .i64 k ∧ s = .int .i64 (if k = 0 then (-1 : Int) else ((bb za ed k).1 : Nat)) ∧ t = .int .i64 (bb za ed k).2 ∧ Ext w wr ∧ IB wr B 31 za ∧ EB wr (B + 1) ed) (fun i _ _ _ => 5 - (intOf i).toNat)
  case atStart => exact ⟨0, by omega, rfl, rfl, rfl, E2, q0, q1⟩
  case round =>
    obtain ⟨k, hk, rfl, rfl, rfl, E4, r0, r1⟩ := hrel
    clear E2 q0 q1
    obtain ⟨b, hb⟩ : ∃ b : Int, b = (if k = 0 then (-1 : Int) else ((bb za ed k).1 : Nat)) := ⟨_, rfl⟩
    rw [← hb]
    have Hb0 := Lib.hid (show k = 0 → b = -1 from fun h => by rw [hb, if_pos h])
    have Hb1 := Lib.hid (show ¬ k = 0 → b = ((bb za ed k).1 : Nat) from fun h => by rw [hb, if_neg h])
    clear hb
    by_cases hlt : k ≤ 4
    · have hd : decide ((k : Int) ≤ 4) = true := by simp; omega
      have hCr := HC.out k
      have Hy := Lib.hid (fun h => bb_yes (a := za) (e := ed) (k := k) h)
      have Hn := Lib.hid (fun h0 h => bb_no (a := za) (e := ed) (k := k) h0 h)
      obtain ⟨C, hC⟩ : ∃ C, C = tcost za (prd k ed) := ⟨_, rfl⟩
      obtain ⟨S, hS⟩ : ∃ S, S = (bb za ed k).2 := ⟨_, rfl⟩
      
      have Heq := Lib.hid (show bb za ed k = ((bb za ed k).1, (bb za ed k).2) from rfl)
      rw [← hC] at hCr Hy Hn
      rw [← hS] at Hy Hn Heq ⊢
      
      have HCe := Lib.hid hC
      clear hC hS
      have G0 : Ext w wr ∧ IB wr B 31 za ∧ EB wr (B + 1) ed := ⟨E4, r0, r1⟩
      clear E4 r0 r1
      go_wp2_with fail
      refine wp_region_invL (by kernel_rfl) [(8, 5), (23, 0), (24, 1), (25, 2), (26, 3), (27, 4)] [[], [], [], [1, 2], [0, 1, 2, 3], [0, 1, 2, 3, 4]] (fun i own ys wx => match i with | 0 => own = .agg (ic za) | 1 => own = .int .i64 (k : Nat) | 2 => own = .agg (edC ed) | 3 => own = .agg (ic (prd k ed)) | 4 => own = .int .i64 C | 5 => own = .int .i64 C | _ => True) (fun Lx wx => Ext w wx ∧ IB wx B 31 za ∧ EB wx (B + 1) ed) (by kernel_rfl) (by kernel_rfl) (by kernel_rfl) ?g0_r2 ?gop_r2 ?gend_r2
      case g0_r2 => exact ⟨Ext.trans_drewN G0.1 1, G0.2.1.drewN 1, G0.2.2.ext (Ext.drewN _ 1)⟩
      case gop_r2 =>
        refine ⟨?_, ?_, ?_, ?_, ?_, ?_, trivial⟩
        · intro Lx xs wx hG hl ha hb hD hI Qo Kx hK hQo
          clear hl ha hb
          clear hD
          clear hI
          simp only [patchS, Nat.reduceAdd, Nat.reduceEqDiff, ↓reduceIte] at hQo ⊢
          go_wp2_with (refine wpList_iload 31 _ rfl rfl hG.2.1 0 16 rfl _ Tryd.underlying31 rfl size_A16 (by rw [Hx.out]; omega) _ (by rw [sub_all _ _ (Hx.out)]) ?_)
          exact hK.out _ _ ⟨rfl, hG, fun _ _ _ _ _ _ h => h⟩
        · intro Lx xs wx hG hl ha hb hD hI Qo Kx hK hQo
          clear hl ha hb
          clear hD
          clear hI
          simp only [patchS, Nat.reduceAdd, Nat.reduceEqDiff, ↓reduceIte] at hQo ⊢
          go_wp2
          exact hK.out _ _ ⟨rfl, hG, fun _ _ _ _ _ _ h => h⟩
        · intro Lx xs wx hG hl ha hb hD hI Qo Kx hK hQo
          clear hl ha hb
          clear hD
          clear hI
          simp only [patchS, Nat.reduceAdd, Nat.reduceEqDiff, ↓reduceIte] at hQo ⊢
          go_wp2_with (refine wpList_cload 97 _ rfl rfl hG.2.2 rfl _ Tryd.underlying97 rfl 11 size_Edges (edC_size OK.out.ln) ?_)
          exact hK.out _ _ ⟨rfl, hG, fun _ _ _ _ _ _ h => h⟩
        · intro Lx xs wx hG hl ha hb hD hI Qo Kx hK hQo
          clear hl ha hb
          have d1 : (xs 1) = .int .i64 (k : Nat) := hD 1 rfl
          have d2 : (xs 2) = .agg (edC ed) := hD 2 rfl
          clear hD
          clear hI
          simp only [patchS, Nat.reduceAdd, Nat.reduceEqDiff, ↓reduceIte] at hQo ⊢
          generalize xs 1 = y1 at *
          generalize xs 2 = y2 at *
          subst d1
          subst d2
          go_wp2_with fail
          refine (l6Predict_any ed k _ OK.out (by omega)).mono ?_
          rintro e w9 ⟨rfl, e9⟩
          go_wp2
          exact hK.out _ _ ⟨rfl, ⟨hG.1.trans e9, hG.2.1.ext e9, hG.2.2.ext e9⟩, fun _ _ _ _ _ _ h => h⟩
        · intro Lx xs wx hG hl ha hb hD hI Qo Kx hK hQo
          clear hl ha hb
          have d0 : (xs 0) = .agg (ic za) := hD 0 rfl
          have d3 : (xs 3) = .agg (ic (prd k ed)) := hD 3 rfl
          clear hD
          clear hI
          simp only [patchS, Nat.reduceAdd, Nat.reduceEqDiff, ↓reduceIte] at hQo ⊢
          generalize xs 0 = y0 at *
          generalize xs 3 = y3 at *
          subst d0
          subst d3
          go_wp2_with fail
          refine (spec_TransformCost_any za (prd k ed) _ Hx.out (prd_len _ _) Sx.out (prd_smp _ OK.out)).mono ?_
          rintro e w9 ⟨rfl, e9⟩
          rw [← HCe.out]
          go_wp2
          exact hK.out _ _ ⟨rfl, ⟨hG.1.trans e9, hG.2.1.ext e9, hG.2.2.ext e9⟩, fun _ _ _ _ _ _ h => h⟩
        · intro Lx xs wx hG hl ha hb hD hI Qo Kx hK hQo
          clear hl ha hb
          have d4 : (xs 4) = .int .i64 C := hD 4 rfl
          clear hD
          clear hI
          simp only [patchS, Nat.reduceAdd, Nat.reduceEqDiff, ↓reduceIte] at hQo ⊢
          generalize xs 4 = y4 at *
          subst d4
          go_wp2
          exact hK.out _ _ ⟨rfl, hG, fun _ _ _ _ _ _ h => h⟩
      intro xs wx hV hG0
      obtain ⟨Lx, hL, hG⟩ := hG0
      clear hL
      have d0 : (xs 0) = .agg (ic za) := hV 0 (by decide)
      have d1 : (xs 1) = .int .i64 (k : Nat) := hV 1 (by decide)
      have d2 : (xs 2) = .agg (edC ed) := hV 2 (by decide)
      have d3 : (xs 3) = .agg (ic (prd k ed)) := hV 3 (by decide)
      have d4 : (xs 4) = .int .i64 C := hV 4 (by decide)
      have d5 : (xs 5) = .int .i64 C := hV 5 (by decide)
      clear hV
      simp only [patchS, Nat.reduceAdd, Nat.reduceEqDiff, ↓reduceIte]
      generalize xs 0 = y0 at *
      generalize xs 1 = y1 at *
      generalize xs 2 = y2 at *
      generalize xs 3 = y3 at *
      generalize xs 4 = y4 at *
      generalize xs 5 = y5 at *
      replace hG : Ext w wx ∧ IB wx B 31 za ∧ EB wx (B + 1) ed := hG
      clear d0 d1 d2 d3 d4
      subst d5
      obtain ⟨E5, s0, s1⟩ := hG
      clear G0
      by_cases h0 : k = 0
      · have g0 : decide (b < 0) = true := by have := Hb0.out h0; simp; omega
        · go_wp2
          go_roundw
          case rel =>
            have hn := Hy.out (.inl h0)
            exact ⟨k + 1, by omega, by go_num, by rw [if_neg (by omega), hn], by rw [hn], E5, s0, s1⟩
          case measure => simp [intOf]; omega
      · have g0 : decide (b < 0) = false := by have := Hb1.out h0; simp; omega
        by_cases h1 : C < S
        · have g1 : decide (C < S) = true := decide_eq_true h1
          go_wp2
          go_roundw
          case rel =>
            have hn := Hy.out (.inr h1)
            exact ⟨k + 1, by omega, by go_num, by rw [if_neg (by omega), hn], by rw [hn], E5, s0, s1⟩
          case measure => simp [intOf]; omega
        · have g1 : decide (C < S) = false := decide_eq_false h1
          go_wp2
          go_roundw
          case rel =>
            have hn := Hn.out h0 (by omega)
            exact ⟨k + 1, by omega, by go_num, by rw [if_neg (by omega), hn, Hb1.out h0], by rw [hn, Heq.out], E5, s0, s1⟩
          case measure => simp [intOf]; omega
    · obtain rfl : k = 5 := by omega
      have hb5 := Hb1.out (by omega)
      go_wp2
      go_ret
      exact ⟨by rw [HSt.out, ← hb5]; rfl, E4⟩
end Go.Proofs.YtbnhaegidfbgbaaDoor
