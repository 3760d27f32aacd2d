/- DropLayers, both sides. -/
import Derived.Test.YtmokncpppmchfaaDoorJ7
import Derived.Test.YtmokncpppmchfaaDoorC1
namespace Go.Proofs.YtmokncpppmchfaaDoor
open Go.RowKit
set_option maxHeartbeats 1000000
/-- What is left of coded pictures. -/
def dropR (r : Nat → Cd) (l : Nat) (K : Int) (i : Nat) : Cd := if ((layerN i l : Nat) : Int) ≤ K then r i else cd0
theorem dropR_y {r : Nat → Cd} {l : Nat} {K : Int} {i : Nat} (h : ((layerN i l : Nat) : Int) ≤ K) : dropR r l K i = r i := if_pos h
theorem dropR_n {r : Nat → Cd} {l : Nat} {K : Int} {i : Nat} (h : ¬ ((layerN i l : Nat) : Int) ≤ K) : dropR r l K i = cd0 := if_neg h
theorem sumN_le {g h : Nat → Nat} (e : ∀ i, g i ≤ h i) : ∀ n, sumN g n ≤ sumN h n
  | 0 => Nat.le_refl _
  | n + 1 => Nat.add_le_add (sumN_le e n) (e n)
theorem okC.drop {r : Nat → Cd} {n : Nat} (h : okC r n) (l : Nat) (K : Int) : okC (dropR r l K) n := by
  refine ⟨h.1, Nat.le_trans (sumN_le (fun i => ?_) n) h.2⟩
  show szC (dropR r l K i) ≤ szC (r i)
  unfold dropR
  split
  · exact Nat.le_refl _
  · exact Nat.zero_le _
theorem made_at {z : Array Value} (h : z.size = 5) {i j n : Nat} (hi : i < n) (hj : j < 5) : (madeCells z (n * 5)).toList[i * 5 + j]? = some z[j]! := by
  have h1 : i * 5 + j < n * 5 := by omega
  have h2 : (i * 5 + j) % 5 = j := by omega
  simp [madeCells, h1, h, h2]
theorem rc_zero {i n : Nat} (hi : i < n) : RC (madeCells #[.int .i64 0, .int .i64 0, .bool false, .int .i64 0, .slice none 0 0] (n * 5)).toList (i * 5) cd0 none 0 := by
  refine ⟨made_at rfl hi (by omega : 0 < 5), made_at rfl hi (by omega : 1 < 5), made_at rfl hi (by omega : 2 < 5), made_at rfl hi (by omega : 3 < 5), made_at rfl hi (by omega : 4 < 5)⟩
theorem RC.far {cs : List Value} {o q : Nat} {x : Cd} {a : Option Addr} {c : Nat} {u0 u1 u2 u3 u4 : Value} (h : RC cs q x a c) (hq : q + 4 < o ∨ o + 4 < q) : RC (((((cs.set o u0).set (o + 1) u1).set (o + 2) u2).set (o + 3) u3).set (o + 4) u4) q x a c := by
  obtain ⟨h0, h1, h2, h3, h4⟩ := h
  refine ⟨?_, ?_, ?_, ?_, ?_⟩ <;> (rw [List.getElem?_set_ne (by omega), List.getElem?_set_ne (by omega), List.getElem?_set_ne (by omega), List.getElem?_set_ne (by omega), List.getElem?_set_ne (by omega)]; assumption)
set_option maxRecDepth 100000 in
theorem spec_DropLayers_yes (a : Option Addr) (n c l : Nat) (y : Int) (r : Nat → Cd) (w : World) (ok : okC r n) (R : CP w a n r) (hn : n ≤ 8) (hl1 : 1 ≤ l) (hl2 : l ≤ 4) :
    Calls Tryd.prog 6 #[.slice a n c, .int .i64 l, .int .i64 y] w fun e w' => ∃ a' c' cs, e = .returned (.slice a' n c') ∧ CE w' w.heap.size w'.heap.size (.slice a' n c') n n (dropR r l y) cs ∧ Ext w w' := by
  have Hok := Lib.hid ok
  clear ok
  go_enter Tryd.func6, Tryd.ntmps6
  go_wp2_with fail
  refine (l1In_yes _ _ _ _ (by omega) (by omega)).mono ?_
  rintro e w' ⟨rfl, rfl⟩
  go_wp2_with fail
  have EA := Ext.alloc w (.cells #[] 38)
  have oA := World.ownsRow_made (base := w.heap.size) (e := 38) (size := 5) w #[] 0 (Nat.le_refl _) (by simp) rfl
  have hsA := EA.size
  have hcl0 := hsA
  go_loopw [7, 8] (fun v ix wr => ∃ (k : Nat) (cs : List Value), k ≤ n ∧ ix = .int .i64 (k : Nat) ∧ Ext w wr ∧ w.heap.size ≤ wr.heap.size ∧ CE wr w.heap.size wr.heap.size v k k (dropR r l y) cs) (fun _ ix _ => n - (intOf ix).toNat)
  case atStart => exact ⟨0, _, by omega, rfl, EA, hsA, CE.zero _ oA hsA⟩
  case round =>
    obtain ⟨k, cs, hk, rfl, E2, hs2, S2⟩ := hrel
    clear EA oA hsA hcl0
    obtain ⟨al, cl, rfl⟩ := owns_form S2.own
    by_cases hlt : k < n
    · obtain ⟨C, hC⟩ : ∃ C, C = wr.heap.size := ⟨_, rfl⟩
      have p1 := blk_new wr (.cells #[.int .i64 0, .int .i64 0, .bool false, .int .i64 0, .slice none 0 0] 38)
      rw [← hC] at p1
      have E3 := Ext.alloc wr (.cells #[.int .i64 0, .int .i64 0, .bool false, .int .i64 0, .slice none 0 0] 38)
      have hC4 : C < (wr.alloc (.cells #[.int .i64 0, .int .i64 0, .bool false, .int .i64 0, .slice none 0 0] 38)).heap.size := by simp; omega
      have Hq := Lib.hid (⟨p1, E3, hC4⟩ : _ ∧ _ ∧ _)
      clear p1 E3 hC4
      go_upto_region 8 with fail
      obtain ⟨p1, E3, hC4⟩ := Hq.out
      clear Hq
      rw [← hC]
      have hCw : wr.heap.size ≤ C := by omega
      have HCe := Lib.hid hC
      clear hC
      generalize wr.alloc (.cells #[.int .i64 0, .int .i64 0, .bool false, .int .i64 0, .slice none 0 0] 38) = w3 at *
      go_wp2_with fail
      refine (spec_LayerOf_yes k l _ (by omega) hl1 hl2).mono ?_
      rintro e w4 ⟨rfl, rfl⟩
      by_cases hL : ((layerN k l : Nat) : Int) ≤ y
      · have hd := dropR_y (r := r) hL
        have HL := Lib.hid hL
        obtain ⟨b1, o1, rfl, a2, c2, ⟨h1', h2', h3', h4', h5'⟩, h6, h7, h8⟩ := R k hlt
        have E23 := E2.trans E3
        have h1 := cell_ext E23 h1'
        have h2 := cell_ext E23 h2'
        have h3 := cell_ext E23 h3'
        have h4 := cell_ext E23 h4'
        have h5 := cell_ext E23 h5'
        have hok := Hok.out.at hlt
        have Hcl := Lib.hid (fun (wz : World) (e : Ext w wz) => l20Copy_any (r k).w (r k).h (r k).q (r k).i a2 (r k).n c2 (r k).f wz hok.1 (fun i hi => by have := sumN_mem (g := ln (r k).f) hi; simp only [ln] at this; omega) (h6.ext e))
        obtain ⟨P, hP⟩ : ∃ P, P = r k := ⟨_, rfl⟩
        have HP := Lib.hid (show dropR r l y k = P by rw [hd, hP])
        rw [← hP] at h1 h2 h3 h4 h5 Hcl
        obtain ⟨xw, xh, xi, xq, m, f⟩ := P
        simp only at h1 h2 h3 h4 h5 Hcl
        have hdc : decide (((layerN k l : Nat) : Int) ≤ y) = true := by simpa using hL
        clear h6 h7 h8 hP hok h1' h2' h3' h4' h5' hd
        clear hL
        go_wp2_with fail
        refine (Hcl.out _ E23).mono ?_
        rintro e w2 ⟨a3, c3, ss, rfl, s3, e3⟩
        have p2 := e3.blk p1
        have p3 := blk_set5 (y0 := .int .i64 xw) (y1 := .int .i64 xh) (y2 := .bool xi) (y3 := .int .i64 xq) (y4 := .slice a3 m c3) p2
        have g3 := gs5 w2 C 0 1 2 3 4 (.int .i64 xw) (.int .i64 xh) (.bool xi) (.int .i64 xq) (.slice a3 m c3)
        have E4 : Ext wr _ := Ext.grown (E3.trans e3) g3 (fun q e => by cases e; omega)
        have s4 := SSk.gr s3 g3 hC4
        have s5 := s4.mono E3.size
        obtain ⟨fq0, fq1, fq2, fq3, fq4⟩ := fz5 p2
        obtain ⟨-, q0, q1, q2, q3, q4⟩ := bx5 p2
        have HH := Lib.hid (⟨p3, g3.size, E4, s5⟩ : _ ∧ _ ∧ _ ∧ _)
        clear p1 p3 g3 E4 s4 s5 h1 h2 h3 h4 h5 s3
        go_upto_region 10 with fail
        clear fq0 fq1 fq2 fq3 fq4 q0 q1 q2 q3 q4 p2
        obtain ⟨p3, g3, E4, s5⟩ := HH.out
        clear HH
        have s6 := s5.up g3
        generalize World.setCell _ _ _ = w5 at *
        obtain ⟨-, q0, q1, q2, q3, q4⟩ := bx5 p3
        have S3 := S2.ext E4
        have hs3 : w.heap.size ≤ w5.heap.size := Nat.le_trans hs2 E4.size
        have E5 := E2.trans E4
        have o3 := S3.own
        have H3 := Lib.hid S3
        have H4 := Lib.hid s6
        have hsz3 := E4.size
        clear e3 s5 s6 S3 S2 E2 E3 E23 E4 p3 g3
        go_wp2_with (at_builtin; refine wpList_app5 _ o3 hs3 _ _ _ _ _ rfl _ _ 24 rfl (.agg #[.int .i64 0, .int .i64 0, .bool false, .int .i64 0, .slice none 0 0]) 56 Tryd.underlying24 info_Coded rfl rfl rfl (by intro u hu; simp at hu; rcases hu with rfl | rfl | rfl | rfl | rfl <;> rfl) (by omega) (by omega) ?_; intro v6 w6 own6 gr6; refine Hid.out ?_)
        have S6 := CE.app (hi' := w5.heap.size) (a1 := a3) (c1 := c3) (ss := ss) H3.out (by rw [HP.out]; exact H4.out) hsz3 (by rw [HP.out]; exact own6) gr6
        have E6 : Ext w w6 := Ext.grown E5 gr6 (owns_ge o3)
        have S7 := S6.up gr6.size
        have hs6 := E6.size
        clear S6 own6 o3 H3 H4 E5
        refine Lib.hid ?_
        go_wp2
        go_roundw
        case rel => exact ⟨k + 1, _, by omega, by go_num, E6, hs6, S7⟩
        case measure => simp [intOf]; omega
      · have HP := Lib.hid (dropR_n (r := r) hL)
        have hdc : decide (((layerN k l : Nat) : Int) ≤ y) = false := by simpa using hL
        have HL := Lib.hid hL
        clear hL
        obtain ⟨-, q0, q1, q2, q3, q4⟩ := bx5 p1
        have S3 := S2.ext E3
        have hs3 : w.heap.size ≤ w3.heap.size := Nat.le_trans hs2 E3.size
        have E5 := E2.trans E3
        have o3 := S3.own
        have H3 := Lib.hid S3
        have H4 := Lib.hid (SSk.nil w3 wr.heap.size w3.heap.size cd0.f E3.size)
        have hsz3 := E3.size
        clear S3 S2 E2 E3 p1
        go_wp2_with (at_builtin; refine wpList_app5 _ o3 hs3 _ _ _ _ _ rfl _ _ 24 rfl (.agg #[.int .i64 0, .int .i64 0, .bool false, .int .i64 0, .slice none 0 0]) 56 Tryd.underlying24 info_Coded rfl rfl rfl (by intro u hu; simp at hu; rcases hu with rfl | rfl | rfl | rfl | rfl <;> rfl) (by omega) (by omega) ?_; intro v6 w6 own6 gr6; refine Hid.out ?_)
        have S6 := CE.app (hi' := w3.heap.size) (a1 := none) (c1 := 0) (ss := []) H3.out (by rw [HP.out]; exact H4.out) hsz3 (by rw [HP.out]; exact own6) gr6
        have E6 : Ext w w6 := Ext.grown E5 gr6 (owns_ge o3)
        have S7 := S6.up gr6.size
        have hs6 := E6.size
        clear S6 own6 o3 H3 H4 E5
        refine Lib.hid ?_
        go_wp2
        go_roundw
        case rel => exact ⟨k + 1, _, by omega, by go_num, E6, hs6, S7⟩
        case measure => simp [intOf]; omega
    · obtain rfl : k = n := by omega
      go_wp2
      go_ret
      exact ⟨_, _, cs, rfl, S2, E2⟩
set_option maxRecDepth 100000 in
theorem impl_DropLayers_yes (a : Option Addr) (n c l : Nat) (y : Int) (r : Nat → Cd) (w : World) (hT : Tab w) (ok : okC r n) (R : CP w a n r) (hn : n ≤ 8) (hl1 : 1 ≤ l) (hl2 : l ≤ 4) :
    Calls Tryd.prog 8 #[.slice a n c, .int .i64 l, .int .i64 y] w fun e w' => ∃ a' c' cs, e = .returned (.slice a' n c') ∧ CE w' w.heap.size w'.heap.size (.slice a' n c') n n (dropR r l y) cs ∧ Ext w w' := by
  obtain ⟨i0, hi, hz0, hz1, hz2⟩ := info_parts info_Coded
  have Hok := Lib.hid ok
  clear ok
  go_enter Tryd.func8, Tryd.ntmps8
  go_wp2_with fail
  refine (layersValid_t _ _ (by omega) (by omega)).mono ?_
  rintro e w1 ⟨rfl, rfl⟩
  go_wp2_with (at_make; refine wpList_make_full _ rfl _ _ 24 rfl w.heap.size 38 i0 (.agg #[.int .i64 0, .int .i64 0, .bool false, .int .i64 0, .slice none 0 0]) 5 Tryd.underlying24 hi hz0 hz1 .i64 .i64 _ _ n rfl rfl rfl rfl (by rw [hz2]; omega) (by unfold maxLen; omega) (Nat.le_refl _) ?_; intro w1 hown hgrow)
  have E1 : Ext w w1 := (Ext.grown (Below.refl _ _) hgrow (by simp))
  have hs1 : w.heap.size < w1.heap.size := (hown.lt w.heap.size rfl).2
  go_loopw [23] (fun i wr => ∃ (k : Nat) (cs : List Value), k ≤ n ∧ i = .int .i64 (k : Nat) ∧ Ext w wr ∧ w.heap.size < wr.heap.size ∧ CE wr w.heap.size wr.heap.size (.slice (some ⟨w.heap.size, 0, none⟩) n n) n k (dropR r l y) cs ∧ ∀ i, k ≤ i → i < n → RC cs (i * 5) cd0 none 0) (fun i _ => n - (intOf i).toNat)
  case atStart => exact ⟨0, _, by omega, rfl, E1, hs1, CE.zero _ hown (by omega), fun i _ hi => rc_zero hi⟩
  case round =>
    obtain ⟨k, cs, hk, rfl, E2, hs2, S2, hz⟩ := hrel
    clear hown E1 hgrow hs1
    by_cases hlt : k < n
    · obtain ⟨b1, o1, rfl, a2, c2, ⟨h1', h2', h3', h4', h5'⟩, h6, h7, h8⟩ := R k hlt
      have h1 := cell_ext E2 h1'
      have h2 := cell_ext E2 h2'
      have h3 := cell_ext E2 h3'
      have h4 := cell_ext E2 h4'
      have h5 := cell_ext E2 h5'
      have hok := Hok.out.at hlt
      have Hcl := Lib.hid (fun (wz : World) (e : Ext w wz) => clone_any (r k).w (r k).h (r k).q (r k).i a2 (r k).n c2 (r k).f wz hok.1 (fun i hi => by have := sumN_mem (g := ln (r k).f) hi; simp only [ln] at this; omega) (h6.ext e))
      obtain ⟨P, hP⟩ : ∃ P, P = r k := ⟨_, rfl⟩
      have HP := Lib.hid hP
      rw [← hP] at h1 h2 h3 h4 h5 Hcl
      obtain ⟨xw, xh, xi, xq, m, f⟩ := P
      simp only at h1 h2 h3 h4 h5 Hcl
      clear h6 h7 h8 hP hok h1' h2' h3' h4' h5'
      obtain ⟨C, hC⟩ : ∃ C, C = wr.heap.size := ⟨_, rfl⟩
      have p1 := blk_new wr (.cells #[.int .i64 xw, .int .i64 xh, .bool xi, .int .i64 xq, .slice a2 m c2] 38)
      rw [← hC] at p1
      have E3 := Ext.alloc wr (.cells #[.int .i64 xw, .int .i64 xh, .bool xi, .int .i64 xq, .slice a2 m c2] 38)
      have Hq := Lib.hid (⟨p1, E3⟩ : _ ∧ _)
      clear p1 E3
      go_upto_region 7 with fail
      obtain ⟨p1, E3⟩ := Hq.out
      clear Hq
      rw [← hC]
      have hCw : wr.heap.size ≤ C := by omega
      clear hC h1 h2 h3 h4 h5
      generalize wr.alloc (.cells #[.int .i64 xw, .int .i64 xh, .bool xi, .int .i64 xq, .slice a2 m c2] 38) = w3 at *
      have E23 := E2.trans E3
      go_wp2_with fail
      refine (impl_LayerOf_yes k l _ (hT.ext E23) (by omega) hl1 hl2).mono ?_
      rintro e w4 ⟨rfl, rfl⟩
      have S3 := S2.ext E3
      have hs3 : w.heap.size < w3.heap.size := Nat.lt_of_lt_of_le hs2 E3.size
      by_cases hL : ((layerN k l : Nat) : Int) ≤ y
      · have HD := Lib.hid (show dropR r l y k = ⟨xw, xh, xi, xq, m, f⟩ by rw [dropR_y hL, HP.out])
        have hdc : decide (((layerN k l : Nat) : Int) ≤ y) = true := by simpa using hL
        clear hL
        obtain ⟨-, q0, q1, q2, q3, q4⟩ := bx5 p1
        clear p1 S2
        have Hz := Lib.hid hz
        clear hz
        go_wp2_with fail
        refine (Hcl.out _ E23).mono ?_
        rintro e w2 ⟨a3, c3, ss, rfl, s3, e3⟩
        clear q0 q1 q2 q3 q4
        have S4 := S3.ext e3
        obtain ⟨us, hu⟩ := id S4
        have ownH := hu.1
        have hcl : cs.length = n * 5 := ownH.1
        obtain ⟨u0, d0, -⟩ := owns_at ownH (j := k * 5) (by omega)
        obtain ⟨u1, d1, -⟩ := owns_at ownH (j := k * 5 + 1) (by omega)
        obtain ⟨u2, d2, -⟩ := owns_at ownH (j := k * 5 + 2) (by omega)
        obtain ⟨u3, d3, -⟩ := owns_at ownH (j := k * 5 + 3) (by omega)
        obtain ⟨u4, d4, -⟩ := owns_at ownH (j := k * 5 + 4) (by omega)
        have f0 := ownH.frozenAt (k * 5)
        have f1 := ownH.frozenAt (k * 5 + 1)
        have f2 := ownH.frozenAt (k * 5 + 2)
        have f3 := ownH.frozenAt (k * 5 + 3)
        have f4 := ownH.frozenAt (k * 5 + 4)
        have hs4 : w.heap.size < w2.heap.size := Nat.lt_of_lt_of_le hs3 e3.size
        have E4 := E23.trans e3
        have s4 : SSg w2 wr.heap.size w2.heap.size (.slice a3 m c3) m f ss := SSk.mono s3 E3.size
        have S5 : CE (put5 w2 w.heap.size (k * 5) (.int .i64 xw) (.int .i64 xh) (.bool xi) (.int .i64 xq) (.slice a3 m c3)) w.heap.size w2.heap.size (.slice (some ⟨w.heap.size, 0, none⟩) n n) n (k + 1) (dropR r l y) _ :=
          CE.snoc (a1 := a3) (c1 := c3) (ss := ss) S4 (by rw [HD.out]; exact s4) (Nat.le_trans E3.size e3.size) (put5_cells (o := k * 5) (u0 := .int .i64 xw) (u1 := .int .i64 xh) (u2 := .bool xi) (u3 := .int .i64 xq) (u4 := .slice a3 m c3) ownH) (put5_grown _ _ _ _ _ _ _ _) (fun o ho => by
          rw [List.getElem?_set_ne (by omega), List.getElem?_set_ne (by omega), List.getElem?_set_ne (by omega), List.getElem?_set_ne (by omega), List.getElem?_set_ne (by omega)]) (by
          rw [HD.out]
          refine ⟨?_, ?_, ?_, ?_, ?_⟩ <;> simp [List.getElem?_set] <;> omega)
        have G5 := put5_grown w2 w.heap.size (k * 5) (.int .i64 xw) (.int .i64 xh) (.bool xi) (.int .i64 xq) (.slice a3 m c3)
        have HS4 := Lib.hid (⟨S5.up G5.size, Ext.grown E4 G5 (by simp)⟩ : CE (put5 w2 w.heap.size (k * 5) (.int .i64 xw) (.int .i64 xh) (.bool xi) (.int .i64 xq) (.slice a3 m c3)) w.heap.size (put5 w2 w.heap.size (k * 5) (.int .i64 xw) (.int .i64 xh) (.bool xi) (.int .i64 xq) (.slice a3 m c3)).heap.size (.slice (some ⟨w.heap.size, 0, none⟩) n n) n (k + 1) (dropR r l y) _ ∧ Ext w (put5 w2 w.heap.size (k * 5) (.int .i64 xw) (.int .i64 xh) (.bool xi) (.int .i64 xq) (.slice a3 m c3)))
        have Hz2 := Lib.hid (fun i (h1 : k + 1 ≤ i) (h2 : i < n) => RC.far (o := k * 5) (u0 := .int .i64 xw) (u1 := .int .i64 xh) (u2 := .bool xi) (u3 := .int .i64 xq) (u4 := .slice a3 m c3) (Hz.out i (by omega) h2) (by omega))
        clear G5
        clear e3 S3 S4 S5 s3 s4 hu ownH E2 E3 E23 E4
        go_wp2
        go_roundw
        case rel => exact ⟨k + 1, _, by omega, by go_num, HS4.out.2, by simpa using hs4, HS4.out.1, Hz2.out⟩
        case measure => simp [intOf]; omega
      · have HD := Lib.hid (dropR_n (r := r) hL)
        have hdc : decide (((layerN k l : Nat) : Int) ≤ y) = false := by simpa using hL
        clear hL
        have hz2 := hz k (Nat.le_refl _) hlt
        have S5 : CE w3 w.heap.size w3.heap.size (.slice (some ⟨w.heap.size, 0, none⟩) n n) n (k + 1) (dropR r l y) cs :=
          CE.snoc (a1 := none) (c1 := 0) (ss := []) S3 (by rw [HD.out]; exact SSk.nil w3 wr.heap.size w3.heap.size cd0.f E3.size) E3.size S3.own (World.grownBy.refl _ _) (fun o ho => rfl) (by rw [HD.out]; exact hz2)
        have HS5 := Lib.hid S5
        have Hz := Lib.hid hz
        clear S5 S3 S2 hz2 p1 hz
        go_wp2
        go_roundw
        case rel => exact ⟨k + 1, _, by omega, by go_num, E23, hs3, HS5.out, fun i h1 h2 => Hz.out i (by omega) h2⟩
        case measure => simp [intOf]; omega
    · obtain rfl : k = n := by omega
      go_wp2
      go_ret
      exact ⟨_, _, cs, rfl, S2, E2⟩
theorem spec_DropLayers_no (a : Option Addr) (n c : Nat) (x y : Int) (w : World) (h : ¬ (n ≤ 8 ∧ 1 ≤ x ∧ x ≤ 4)) :
    Calls Tryd.prog 6 #[.slice a n c, .int .i64 x, .int .i64 y] w fun e w' => e = .returned (.slice (some ⟨w.heap.size, 0, none⟩) 0 0) ∧ Ext w w' := by
  by_cases h1 : 8 < n
  · clear h
    go_enter Tryd.func6, Tryd.ntmps6
    go_wp2
    go_ret
    exact ⟨rfl, Ext.alloc _ _⟩
  · have h2 : x < 1 ∨ 4 < x := by omega
    clear h
    go_enter Tryd.func6, Tryd.ntmps6
    go_wp2_with fail
    refine (l1In_no _ _ _ _ (by omega)).mono ?_
    rintro e w' ⟨rfl, rfl⟩
    go_wp2
    go_ret
    exact ⟨rfl, Ext.alloc _ _⟩
theorem impl_DropLayers_no (a : Option Addr) (n c : Nat) (x y : Int) (w : World) (h : ¬ (n ≤ 8 ∧ 1 ≤ x ∧ x ≤ 4)) :
    Calls Tryd.prog 8 #[.slice a n c, .int .i64 x, .int .i64 y] w fun e w' => e = .returned (.slice none 0 0) ∧ w = w' := by
  by_cases h1 : 8 < n
  · clear h
    go_enter Tryd.func8, Tryd.ntmps8
    go_wp2
    go_ret
    exact ⟨rfl, rfl⟩
  · have h2 := Lib.hid (show x < 1 ∨ 4 < x by omega)
    clear h
    go_enter Tryd.func8, Tryd.ntmps8
    go_wp2_with fail
    refine (layersValid_f _ _ h2.out).mono ?_
    rintro e w' ⟨rfl, rfl⟩
    go_wp2
    go_ret
    exact ⟨rfl, rfl⟩
end Go.Proofs.YtmokncpppmchfaaDoor
