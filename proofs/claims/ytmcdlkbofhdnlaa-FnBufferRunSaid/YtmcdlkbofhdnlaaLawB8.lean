/- FnBufferRun: the walk of the law. -/
import Derived.Test.YtmcdlkbofhdnlaaM2
import Derived.Test.YtmcdlkbofhdnlaaD4
import Derived.Test.YtmcdlkbofhdnlaaV
namespace Go.Proofs.Ytmcdlkbofhdnlaa
open Go.RowKit
set_option maxHeartbeats 400000

theorem byte_range {zs : List Int} (h : ∀ z ∈ zs, (Lit.int .u8 z).wf = true) : ∀ z ∈ zs, 0 ≤ z ∧ z ≤ 255 := by
  intro z hz
  have := h z hz
  simp [Lit.wf, IntKind.min, IntKind.max, IntKind.signed, IntKind.bits] at this
  omega
theorem Sl.take {w : World} {a : Option Addr} {n h : Nat} {xs : List Int} (s : Sl w a n (xs.map (Value.int .i64))) (hh : h ≤ n) : Sl w a h ((xs.take h).map (Value.int .i64)) := by
  have hl := s.int_len
  refine ⟨by simp; omega, fun i hi => ?_⟩
  obtain ⟨b, off, h1, h2⟩ := s.int (show i < n by omega)
  exact ⟨b, off, h1, by rw [h2, getD_map_int _ _ _ (by simp; omega)]; simp [nth, hi]⟩
theorem Sl.drop {w : World} {b off n h : Nat} {xs : List Int} (s : Sl w (some ⟨b, off, none⟩) n (xs.map (Value.int .i64))) (hh : h ≤ n) : Sl w (some ⟨b, off + h, none⟩) (n - h) ((xs.drop h).map (Value.int .i64)) := by
  have hl := s.int_len
  refine ⟨by simp; omega, fun i hi => ?_⟩
  obtain ⟨b', off', h1, h2⟩ := s.int (show h + i < n by omega)
  simp only [Option.some.injEq, Addr.mk.injEq, and_true] at h1
  obtain ⟨rfl, rfl⟩ := h1
  exact ⟨_, _, rfl, by rw [getD_map_int _ _ _ (by simp; omega), Nat.add_assoc, h2]; simp [nth]⟩

set_option maxRecDepth 100000 in
set_option maxHeartbeats 4000000 in
theorem law_FnBufferRun (a : Option Addr) (c n : Nat) (zs : List Int) (w : World) (hn0 : n ≤ c ∧ c ≤ maxLen) (sl : Sl w a n (zs.map (Value.int .u8))) (wf : ∀ z ∈ zs, (Lit.int .u8 z).wf = true) :
    Calls Try.prog 6 #[.slice a n c] w fun e w' => e = .returned (.bool true) ∧ Ext w w' := by
  have hn : n ≤ c ∧ c ≤ 9223372036854775807 := ⟨hn0.1, hn0.2⟩
  clear hn0
  have hz := Lib.hid (byte_range wf)
  clear wf
  by_cases hbig : 1048576 < n
  · go_enter Try.func6, Try.ntmps6
    go_wp2
    go_ret
    refine ⟨rfl, ?_⟩
    (repeat (first | with_reducible exact Below.refl _ _ | assumption | with_reducible refine below_drewN ?_ _ | with_reducible refine Below.drew ?_ | with_reducible refine Below.setCell ?_ (by simp <;> omega) _ | with_reducible refine Ext.trans ?_ (Ext.alloc _ _)))
  go_enter Try.func6, Try.ntmps6
  go_wp2_with fail
  refine (DrawBufferRun_any a c n zs _ hn.1 hn.2 (sl.ext (by (repeat (first | with_reducible exact Below.refl _ _ | assumption | with_reducible refine below_drewN ?_ _ | with_reducible refine Below.drew ?_ | with_reducible refine Below.setCell ?_ (by simp <;> omega) _ | with_reducible refine Ext.trans ?_ (Ext.alloc _ _))))) hz.out).mono ?_
  rintro e w1 ⟨s, r, f, a2, c2, lx, rfl, ⟨hs0, hs1⟩, ⟨hr0, hr1⟩, ⟨hf0, hf1⟩, s2, hlen, hc1, hc2, e1⟩
  have E1 : Ext w w1 := by refine Ext.trans ?_ e1; (repeat (first | with_reducible exact Below.refl _ _ | assumption | with_reducible refine below_drewN ?_ _ | with_reducible refine Below.drew ?_ | with_reducible refine Below.setCell ?_ (by simp <;> omega) _ | with_reducible refine Ext.trans ?_ (Ext.alloc _ _)))
  clear sl hz e1
  unfold maxLen at hc2
  obtain ⟨m, hm⟩ : ∃ m, m = lx.length := ⟨_, rfl⟩
  rw [← hm] at s2 hlen hc1 ⊢
  have Hm := Lib.hid hm
  clear hm
  have p1 := blk_new w1 (.cells #[.int .i64 s, .int .i64 r, .int .i64 f] 38)
  have s3 := s2.ext (Ext.alloc w1 (.cells #[.int .i64 s, .int .i64 r, .int .i64 f] 38))
  go_wp2_with fail
  refine (impl_BufferRun_any s r f a2 c2 m lx _ (by omega) s3).mono ?_
  rintro e w2 ⟨he, e2⟩
  obtain ⟨N, hN⟩ : ∃ N, N = brunN s r f lx := ⟨_, rfl⟩
  obtain ⟨X, hX⟩ : ∃ X, X = brunB s r f lx := ⟨_, rfl⟩
  have HN := Lib.hid hN
  have HX := Lib.hid hX
  rw [← hX, ← hN] at he
  clear hX hN
  obtain ⟨X0, X1, X2⟩ := X
  subst he
  unfold btV
  have E2 : Ext w w2 := (E1.trans (Ext.alloc _ _)).trans e2
  have s4 := s3.ext e2
  have p2 := e2.blk p1
  clear p1 E1 e2 s3 s2
  have s5 := s4.ext (Ext.alloc w2 (.cells #[.int .i64 X0, .int .i64 X1, .int .i64 X2] 38))
  have q2 := blk_new w2 (.cells #[.int .i64 X0, .int .i64 X1, .int .i64 X2] 38)
  have p3 := blk_alloc p2 (.cells #[.int .i64 X0, .int .i64 X1, .int .i64 X2] 38)
  generalize w1.heap.size = B1 at *
  obtain ⟨m0, m1, m2, m3, m4, m5, m6⟩ := bx3 p2
  go_wp2_with fail
  refine (spec_BufferRun_any s r f a2 c2 m lx _ (by omega) s5).mono ?_
  rintro e w3 ⟨he, e3⟩
  rw [← HX.out, ← HN.out] at he
  subst he
  unfold btV
  have E3 : Ext w w3 := (E2.trans (Ext.alloc _ _)).trans e3
  have p4 := blk_alloc (e3.blk p3) (.cells #[.int .i64 X0, .int .i64 X1, .int .i64 X2] 38)
  have q4 := blk_alloc (e3.blk q2) (.cells #[.int .i64 X0, .int .i64 X1, .int .i64 X2] 38)
  have p5 := e3.blk p3
  have q5 := e3.blk q2
  have s6 := s5.ext e3
  clear p2 p3 q2 m0 m1 m2 m3 m4 m5 m6 E2 e3 s4 s5
  generalize w2.heap.size = B2 at *
  obtain ⟨m0, m1, m2, m3, m4, m5, m6⟩ := bx3 p5
  obtain ⟨n0, n1, n2, n3, n4, n5, n6⟩ := bx3 q5
  have E4 := E3.trans (Ext.alloc w3 (.cells #[.int .i64 X0, .int .i64 X1, .int .i64 X2] 38))
  have s7 := s6.ext (Ext.alloc w3 (.cells #[.int .i64 X0, .int .i64 X1, .int .i64 X2] 38))
  by_cases hv : vbuf s r f
  · have hN2 : N = ((brun s r f lx).1 : Nat) := by rw [HN.out]; exact if_pos hv
    have hX2 : (X0, X1, X2) = (s, r, (brun s r f lx).2) := by rw [HX.out]; exact if_pos hv
    simp only [Prod.mk.injEq] at hX2
    obtain ⟨rfl, rfl, hX3⟩ := hX2
    have HX3 := Lib.hid hX3
    generalize hk : (brun X0 X1 f lx).1 = K at *
    subst hN2
    have Hk := Lib.hid hk
    clear hk hX3
    go_wp2_with fail
    refine (spec_BufferValid_yes X0 X1 f _ hv).mono ?_
    rintro e w5 ⟨rfl, e5⟩
    have E5 := E4.trans e5
    have p6 := e5.blk p4
    have q6 := e5.blk q4
    have s8 := s7.ext e5
    clear s6 s7 E3 E4 p4 p5 q4 q5 m0 m1 m2 m3 m4 m5 m6 n0 n1 n2 n3 n4 n5 n6 e5 HN HX
    obtain ⟨m0, m1, m2, m3, m4, m5, m6⟩ := bx3 p6
    obtain ⟨n0, n1, n2, n3, n4, n5, n6⟩ := bx3 q6
    obtain ⟨H, hH⟩ : ∃ H, H = m / 2 := ⟨_, rfl⟩
    have hHI : (m : Int) / 2 = (H : Int) := by rw [hH]; simp
    have hHm : H ≤ m := by omega
    clear hH
    go_wp2_with fail
    clear hHI
    obtain ⟨⟨K2, F2⟩, hK2⟩ : ∃ X, X = brun X0 X1 f (lx.take H) := ⟨_, rfl⟩
    have HK2 := Lib.hid hK2
    clear hK2
    have hext : ∀ (i : Nat) (own : Value) (ys : Nat → Value) (wa wb : World), Ext wa wb → (match i with | 0 => own = .agg #[.int .i64 X0, .int .i64 X1, .int .i64 f] | 1 => own = .slice a2 m c2 | 2 => own = .int .i64 H | 3 => own = .slice a2 H c2 | 4 => own = .tuple #[.int .i64 K2, .agg #[.int .i64 X0, .int .i64 X1, .int .i64 F2]] | 5 => own = .tuple #[.int .i64 K2, .agg #[.int .i64 X0, .int .i64 X1, .int .i64 F2]] | 6 => own = .int .i64 K2 | 7 => own = .agg #[.int .i64 X0, .int .i64 X1, .int .i64 F2] | 8 => ∃ q x y z, own = .pointer (some ⟨q, 0, none⟩) ∧ w5.heap.size ≤ q ∧ wa.heap[q]? = some (.cells #[x, y, z] 38 (0, 0)) | 9 => own = .int .i64 K2 | 10 => ∃ q, ys 8 = .pointer (some ⟨q, 0, none⟩) ∧ w5.heap.size ≤ q ∧ wa.heap[q]? = some (.cells #[.int .i64 X0, .int .i64 X1, .int .i64 F2] 38 (0, 0)) | _ => True) → (match i with | 0 => own = .agg #[.int .i64 X0, .int .i64 X1, .int .i64 f] | 1 => own = .slice a2 m c2 | 2 => own = .int .i64 H | 3 => own = .slice a2 H c2 | 4 => own = .tuple #[.int .i64 K2, .agg #[.int .i64 X0, .int .i64 X1, .int .i64 F2]] | 5 => own = .tuple #[.int .i64 K2, .agg #[.int .i64 X0, .int .i64 X1, .int .i64 F2]] | 6 => own = .int .i64 K2 | 7 => own = .agg #[.int .i64 X0, .int .i64 X1, .int .i64 F2] | 8 => ∃ q x y z, own = .pointer (some ⟨q, 0, none⟩) ∧ w5.heap.size ≤ q ∧ wb.heap[q]? = some (.cells #[x, y, z] 38 (0, 0)) | 9 => own = .int .i64 K2 | 10 => ∃ q, ys 8 = .pointer (some ⟨q, 0, none⟩) ∧ w5.heap.size ≤ q ∧ wb.heap[q]? = some (.cells #[.int .i64 X0, .int .i64 X1, .int .i64 F2] 38 (0, 0)) | _ => True) := by
      intro i own ys wa wb e h
      match i, h with
      | 0, h => exact h
      | 1, h => exact h
      | 2, h => exact h
      | 3, h => exact h
      | 4, h => exact h
      | 5, h => exact h
      | 6, h => exact h
      | 7, h => exact h
      | 8, h => obtain ⟨q, x, y, z, h1, h2, h3⟩ := h; exact ⟨q, x, y, z, h1, h2, e.blk h3⟩
      | 9, h => exact h
      | 10, h => obtain ⟨q, h1, h2, h3⟩ := h; exact ⟨q, h1, h2, e.blk h3⟩
      | _ + 11, _ => trivial
    have Hext := Lib.hid hext
    clear hext
    refine wp_region_inv2 (by kernel_rfl) [(10, 9), (11, 8), (61, 5), (62, 0), (63, 1), (64, 2), (65, 3), (66, 4), (67, 6), (68, 7)] [[], [], [], [1, 2], [0, 1, 2, 3], [0, 1, 2, 3, 4], [0, 1, 2, 3, 4, 5], [0, 1, 2, 3, 4, 5], [], [0, 1, 2, 3, 4, 5, 6, 8], [0, 1, 2, 3, 4, 5, 6, 7, 8, 9]] (fun i own ys wx => match i with | 0 => own = .agg #[.int .i64 X0, .int .i64 X1, .int .i64 f] | 1 => own = .slice a2 m c2 | 2 => own = .int .i64 H | 3 => own = .slice a2 H c2 | 4 => own = .tuple #[.int .i64 K2, .agg #[.int .i64 X0, .int .i64 X1, .int .i64 F2]] | 5 => own = .tuple #[.int .i64 K2, .agg #[.int .i64 X0, .int .i64 X1, .int .i64 F2]] | 6 => own = .int .i64 K2 | 7 => own = .agg #[.int .i64 X0, .int .i64 X1, .int .i64 F2] | 8 => ∃ q x y z, own = .pointer (some ⟨q, 0, none⟩) ∧ w5.heap.size ≤ q ∧ wx.heap[q]? = some (.cells #[x, y, z] 38 (0, 0)) | 9 => own = .int .i64 K2 | 10 => ∃ q, ys 8 = .pointer (some ⟨q, 0, none⟩) ∧ w5.heap.size ≤ q ∧ wx.heap[q]? = some (.cells #[.int .i64 X0, .int .i64 X1, .int .i64 F2] 38 (0, 0)) | _ => True) (fun kx wx => Ext w5 wx) (by kernel_rfl) (by kernel_rfl) (by kernel_rfl) ?g0_r1 ?gop_r1 ?gend_r1
    case g0_r1 => exact Ext.drewN _ 1
    case gop_r1 =>
      refine ⟨?_, ?_, ?_, ?_, ?_, ?_, ?_, ?_, ?_, ?_, ?_, trivial⟩
      · intro kx xs wx hk hG hD Qo Kx hK hQo
        clear hD
        simp only [patchS, Nat.reduceAdd, Nat.reduceEqDiff, ↓reduceIte] at hQo ⊢
        have c2' := (cell_ext hG m1)
        have c3' := (cell_ext hG m2)
        have c4' := (cell_ext hG m3)
        go_wp2
        exact hK.out _ _ ⟨rfl, hG, fun _ _ _ _ _ _ h => h⟩
      · intro kx xs wx hk hG hD Qo Kx hK hQo
        clear hD
        simp only [patchS, Nat.reduceAdd, Nat.reduceEqDiff, ↓reduceIte] at hQo ⊢
        go_wp2
        exact hK.out _ _ ⟨rfl, hG, fun _ _ _ _ _ _ h => h⟩
      · intro kx xs wx hk hG hD Qo Kx hK hQo
        clear hD
        simp only [patchS, Nat.reduceAdd, Nat.reduceEqDiff, ↓reduceIte] at hQo ⊢
        go_wp2
        exact hK.out _ _ ⟨rfl, hG, fun _ _ _ _ _ _ h => h⟩
      · intro kx xs wx hk hG hD Qo Kx hK hQo
        have d1 : (xs 1) = .slice a2 m c2 := hD 1 rfl
        have d2 : (xs 2) = .int .i64 H := hD 2 rfl
        clear hD
        simp only [patchS, Nat.reduceAdd, Nat.reduceEqDiff, ↓reduceIte] at hQo ⊢
        generalize xs 1 = y1 at *
        generalize xs 2 = y2 at *
        subst d1
        subst d2
        go_wp2
        exact hK.out _ _ ⟨rfl, hG, fun _ _ _ _ _ _ h => h⟩
      · intro kx xs wx hk hG hD Qo Kx hK hQo
        have d0 : (xs 0) = .agg #[.int .i64 X0, .int .i64 X1, .int .i64 f] := hD 0 rfl
        have d3 : (xs 3) = .slice a2 H c2 := hD 3 rfl
        clear hD
        simp only [patchS, Nat.reduceAdd, Nat.reduceEqDiff, ↓reduceIte] at hQo ⊢
        generalize xs 0 = y0 at *
        generalize xs 3 = y3 at *
        subst d0
        subst d3
        go_wp2_with fail
        refine (impl_BufferRun_yes X0 X1 f a2 c2 H (lx.take H) _ (by omega) ((s8.take hHm).ext hG) hv).mono ?_
        rintro e w6 ⟨he, e6⟩
        rw [← HK2.out] at he
        subst he
        unfold btV
        go_wp2
        exact hK.out _ _ ⟨rfl, hG.trans e6, fun i _ _ _ own ys h => Hext.out i own ys _ _ e6 h⟩
      · intro kx xs wx hk hG hD Qo Kx hK hQo
        have d4 : (xs 4) = .tuple #[.int .i64 K2, .agg #[.int .i64 X0, .int .i64 X1, .int .i64 F2]] := hD 4 rfl
        clear hD
        simp only [patchS, Nat.reduceAdd, Nat.reduceEqDiff, ↓reduceIte] at hQo ⊢
        generalize xs 4 = y4 at *
        subst d4
        go_wp2
        exact hK.out _ _ ⟨rfl, hG, fun _ _ _ _ _ _ h => h⟩
      · intro kx xs wx hk hG hD Qo Kx hK hQo
        have d5 : (xs 5) = .tuple #[.int .i64 K2, .agg #[.int .i64 X0, .int .i64 X1, .int .i64 F2]] := hD 5 rfl
        clear hD
        simp only [patchS, Nat.reduceAdd, Nat.reduceEqDiff, ↓reduceIte] at hQo ⊢
        generalize xs 5 = y5 at *
        subst d5
        go_wp2
        exact hK.out _ _ ⟨rfl, hG, fun _ _ _ _ _ _ h => h⟩
      · intro kx xs wx hk hG hD Qo Kx hK hQo
        have d5 : (xs 5) = .tuple #[.int .i64 K2, .agg #[.int .i64 X0, .int .i64 X1, .int .i64 F2]] := hD 5 rfl
        clear hD
        simp only [patchS, Nat.reduceAdd, Nat.reduceEqDiff, ↓reduceIte] at hQo ⊢
        generalize xs 5 = y5 at *
        subst d5
        go_wp2
        exact hK.out _ _ ⟨rfl, hG, fun _ _ _ _ _ _ h => h⟩
      · intro kx xs wx hk hG hD Qo Kx hK hQo
        clear hD
        simp only [patchS, Nat.reduceAdd, Nat.reduceEqDiff, ↓reduceIte] at hQo ⊢
        have e5' := Ext.alloc wx (.cells #[.int .i64 0, .int .i64 0, .int .i64 0] 38)
        go_wp2
        exact hK.out _ _ ⟨⟨_, _, _, _, rfl, hG.size, blk_new _ _⟩, hG.trans e5', fun i _ _ _ own ys h => Hext.out i own ys _ _ e5' h⟩
      · intro kx xs wx hk hG hD Qo Kx hK hQo
        have d6 : (xs 6) = .int .i64 K2 := hD 6 rfl
        clear hD
        simp only [patchS, Nat.reduceAdd, Nat.reduceEqDiff, ↓reduceIte] at hQo ⊢
        generalize xs 6 = y6 at *
        subst d6
        go_wp2
        exact hK.out _ _ ⟨rfl, hG, fun _ _ _ _ _ _ h => h⟩
      · intro kx xs wx hk hG hD Qo Kx hK hQo
        have d8 : ∃ q x y z, (xs 8) = .pointer (some ⟨q, 0, none⟩) ∧ w5.heap.size ≤ q ∧ wx.heap[q]? = some (.cells #[x, y, z] 38 (0, 0)) := hD 8 rfl
        have d7 : (xs 7) = .agg #[.int .i64 X0, .int .i64 X1, .int .i64 F2] := hD 7 rfl
        clear hD
        simp only [patchS, Nat.reduceAdd, Nat.reduceEqDiff, ↓reduceIte] at hQo ⊢
        generalize hx8 : xs 8 = y8 at *
        have Hx8 := Lib.hid hx8
        clear hx8
        generalize xs 7 = y7 at *
        obtain ⟨q, x, y, z, rfl, hq, hqb⟩ := d8
        subst d7
        obtain ⟨z0, z1, z2, z3, z4, z5, z6⟩ := bx3 hqb
        go_wp2
        have hst : ∀ (wy : World), (∀ (b : Nat) (o : Obj), wx.heap[b]? = some o → b ≠ q → wy.heap[b]? = some o) ∧ (∃ x y z, wy.heap[q]? = some (.cells #[x, y, z] 38 (0, 0))) → ∀ (ii : Nat), ii < 11 → ii ≠ 10 → ([[], [], [], [1, 2], [0, 1, 2, 3], [0, 1, 2, 3, 4], [0, 1, 2, 3, 4, 5], [0, 1, 2, 3, 4, 5], [], [0, 1, 2, 3, 4, 5, 6, 8], [0, 1, 2, 3, 4, 5, 6, 7, 8, 9]].getD ii []).contains 10 = false → ∀ (own : Value) (ys : Nat → Value), (match ii with | 0 => own = .agg #[.int .i64 X0, .int .i64 X1, .int .i64 f] | 1 => own = .slice a2 m c2 | 2 => own = .int .i64 H | 3 => own = .slice a2 H c2 | 4 => own = .tuple #[.int .i64 K2, .agg #[.int .i64 X0, .int .i64 X1, .int .i64 F2]] | 5 => own = .tuple #[.int .i64 K2, .agg #[.int .i64 X0, .int .i64 X1, .int .i64 F2]] | 6 => own = .int .i64 K2 | 7 => own = .agg #[.int .i64 X0, .int .i64 X1, .int .i64 F2] | 8 => ∃ q x y z, own = .pointer (some ⟨q, 0, none⟩) ∧ w5.heap.size ≤ q ∧ wx.heap[q]? = some (.cells #[x, y, z] 38 (0, 0)) | 9 => own = .int .i64 K2 | 10 => ∃ q, ys 8 = .pointer (some ⟨q, 0, none⟩) ∧ w5.heap.size ≤ q ∧ wx.heap[q]? = some (.cells #[.int .i64 X0, .int .i64 X1, .int .i64 F2] 38 (0, 0)) | _ => True) → (match ii with | 0 => own = .agg #[.int .i64 X0, .int .i64 X1, .int .i64 f] | 1 => own = .slice a2 m c2 | 2 => own = .int .i64 H | 3 => own = .slice a2 H c2 | 4 => own = .tuple #[.int .i64 K2, .agg #[.int .i64 X0, .int .i64 X1, .int .i64 F2]] | 5 => own = .tuple #[.int .i64 K2, .agg #[.int .i64 X0, .int .i64 X1, .int .i64 F2]] | 6 => own = .int .i64 K2 | 7 => own = .agg #[.int .i64 X0, .int .i64 X1, .int .i64 F2] | 8 => ∃ q x y z, own = .pointer (some ⟨q, 0, none⟩) ∧ w5.heap.size ≤ q ∧ wy.heap[q]? = some (.cells #[x, y, z] 38 (0, 0)) | 9 => own = .int .i64 K2 | 10 => ∃ q, ys 8 = .pointer (some ⟨q, 0, none⟩) ∧ w5.heap.size ≤ q ∧ wy.heap[q]? = some (.cells #[.int .i64 X0, .int .i64 X1, .int .i64 F2] 38 (0, 0)) | _ => True) := by
          intro wy hy ii hii hne hc own ys h
          match ii, h with
          | 0, h => exact h
          | 1, h => exact h
          | 2, h => exact h
          | 3, h => exact h
          | 4, h => exact h
          | 5, h => exact h
          | 6, h => exact h
          | 7, h => exact h
          | 8, h => obtain ⟨q', x', y', z', h1, h2, h3⟩ := h; by_cases hqq : q' = q; (subst hqq; obtain ⟨u1, u2, u3, u4⟩ := hy.2; exact ⟨_, u1, u2, u3, h1, h2, u4⟩); exact ⟨q', x', y', z', h1, h2, hy.1 _ _ h3 hqq⟩
          | 9, h => exact h
          | 10, h => exact absurd rfl hne
          | _ + 11, _ => trivial
        refine hQo undef _ (hK.out _ _ ⟨⟨q, Hx8.out, hq, blk_set3 hqb⟩, ?_, hst _ ⟨fun b o hb hne => blk_set_other (blk_set_other (blk_set_other hb hne) hne) hne, _, _, _, blk_set3 hqb⟩⟩)
        exact Below.setCell (Below.setCell (Below.setCell hG hq _) hq _) hq _
    clear Hext
    intro xs wx hV hG
    have d0 : (xs 0) = .agg #[.int .i64 X0, .int .i64 X1, .int .i64 f] := hV 0 (by decide)
    have d1 : (xs 1) = .slice a2 m c2 := hV 1 (by decide)
    have d2 : (xs 2) = .int .i64 H := hV 2 (by decide)
    have d3 : (xs 3) = .slice a2 H c2 := hV 3 (by decide)
    have d4 : (xs 4) = .tuple #[.int .i64 K2, .agg #[.int .i64 X0, .int .i64 X1, .int .i64 F2]] := hV 4 (by decide)
    have d5 : (xs 5) = .tuple #[.int .i64 K2, .agg #[.int .i64 X0, .int .i64 X1, .int .i64 F2]] := hV 5 (by decide)
    have d6 : (xs 6) = .int .i64 K2 := hV 6 (by decide)
    have d7 : (xs 7) = .agg #[.int .i64 X0, .int .i64 X1, .int .i64 F2] := hV 7 (by decide)
    have d8 : ∃ q x y z, (xs 8) = .pointer (some ⟨q, 0, none⟩) ∧ w5.heap.size ≤ q ∧ wx.heap[q]? = some (.cells #[x, y, z] 38 (0, 0)) := hV 8 (by decide)
    have d9 : (xs 9) = .int .i64 K2 := hV 9 (by decide)
    have d10 : ∃ q, (xs 8) = .pointer (some ⟨q, 0, none⟩) ∧ w5.heap.size ≤ q ∧ wx.heap[q]? = some (.cells #[.int .i64 X0, .int .i64 X1, .int .i64 F2] 38 (0, 0)) := hV 10 (by decide)
    clear hV
    simp only [patchS, Nat.reduceAdd, Nat.reduceEqDiff, ↓reduceIte]
    generalize xs 0 = y0 at *
    generalize xs 1 = y1 at *
    generalize xs 2 = y2 at *
    generalize xs 3 = y3 at *
    generalize xs 4 = y4 at *
    generalize xs 5 = y5 at *
    generalize xs 6 = y6 at *
    generalize xs 7 = y7 at *
    generalize xs 8 = y8 at *
    generalize xs 9 = y9 at *
    generalize xs 10 = y10 at *
    replace hG : Ext w5 wx := hG
    subst d0
    subst d1
    subst d2
    subst d3
    subst d4
    subst d5
    subst d6
    subst d7
    obtain ⟨q, x, y, z, rfl, hq, hqb⟩ := d8
    subst d9
    obtain ⟨q2, hq2, hq3, hq4⟩ := d10
    simp only [Value.pointer.injEq, Option.some.injEq, Addr.mk.injEq, and_true] at hq2
    subst hq2
    have r6 := hq4
    have p7 := hG.blk p6
    have q7 := hG.blk q6
    have s9 := s8.ext hG
    have E6 := E5.trans hG
    clear E5 hG p6 q6 s8 m0 m1 m2 m3 m4 m5 m6 n0 n1 n2 n3 n4 n5 n6 hqb hq4 hq hq3 x y z
    generalize wx = w6 at *
    obtain ⟨m0, m1, m2, m3, m4, m5, m6⟩ := bx3 p7
    have hv3 : vbuf X0 X1 X0 := by obtain ⟨u1, u2, u3, u4, u5, u6⟩ := hv; exact ⟨u1, u2, u3, u4, by omega, by omega⟩
    have s10 := s9.ext (Ext.alloc w6 (.cells #[.int .i64 X0, .int .i64 X1, .int .i64 X0] 38))
    go_wp2_with fail
    refine (impl_BufferRun_yes X0 X1 X0 a2 c2 m lx _ (by omega) s10 hv3).mono ?_
    rintro e w7 ⟨he, e7⟩
    obtain ⟨⟨K3, F3⟩, hK3⟩ : ∃ X, X = brun X0 X1 X0 lx := ⟨_, rfl⟩
    have HK3 := Lib.hid hK3
    rw [← hK3] at he
    clear hK3
    subst he
    unfold btV
    have e8 := (Ext.alloc w6 (.cells #[.int .i64 X0, .int .i64 X1, .int .i64 X0] 38)).trans e7
    have E7 := E6.trans e8
    have p8 := e8.blk p7
    have q8 := e8.blk q7
    have r8 := e8.blk r6
    have s11 := s9.ext e8
    have e9 := Ext.alloc w7 (.cells #[.int .i64 X0, .int .i64 X1, .int .i64 F3] 38)
    have E8 := E7.trans e9
    have p9 := e9.blk p8
    have q9 := e9.blk q8
    have r9 := e9.blk r8
    have s12 := s11.ext e9
    clear E6 E7 p7 p8 q7 q8 r6 r8 s9 s10 s11 e7 e8 e9 m0 m1 m2 m3 m4 m5 m6
    have hge : K ≤ K3 := by
      have h1 := brun_mono (s := X0) (r := X1) lx f X0 hv.2.2.2.2.2
      rw [Hk.out, ← HK3.out] at h1
      exact h1
    have hl := brun_le (s := X0) (r := X1) lx f
    rw [Hk.out, ← Hm.out] at hl
    have hlt2 := brun_le (s := X0) (r := X1) (lx.take H) f
    rw [← HK2.out, List.length_take, ← Hm.out] at hlt2
    by_cases hkh : K2 < H
    · have h1 := brun_app1 (s := X0) (r := X1) (lx.take H) (lx.drop H) f (by rw [← HK2.out, List.length_take, ← Hm.out]; simp; omega)
      rw [List.take_append_drop, ← HK2.out] at h1
      have h2 : K = K2 := by rw [← Hk.out, h1]
      have h3 : X2 = F2 := by rw [HX3.out, h1]
      subst h2
      subst h3
      clear h1
      obtain ⟨n0, n1, n2, n3, n4, n5, n6⟩ := bx3 q9
      obtain ⟨o0, o1, o2, o3, o4, o5, o6⟩ := bx3 r9
      go_wp2
      go_ret
      exact ⟨by first | (simp; done) | (simp; omega), E8⟩
    · have hH2 : K2 = H := by omega
      have h1 := brun_app2 (s := X0) (r := X1) (lx.take H) (lx.drop H) f (by rw [← HK2.out, List.length_take, ← Hm.out]; simp; omega)
      have hv4 := brun_valid (s := X0) (r := X1) (lx.take H) f hv
      rw [List.take_append_drop, ← HK2.out, List.length_take, ← Hm.out, Nat.min_eq_left hHm] at h1
      rw [← HK2.out] at hv4
      obtain ⟨⟨K4, F4⟩, hK4⟩ : ∃ X, X = brun X0 X1 F2 (lx.drop H) := ⟨_, rfl⟩
      rw [← hK4] at h1
      have h2 : K = H + K4 := by rw [← Hk.out, h1]
      have h3 : X2 = F4 := by rw [HX3.out, h1]
      have HK4 := Lib.hid hK4
      subst h2
      subst h3
      clear h1 hK4 hkh HX3 Hk
      subst hH2
      have Q9 := q9
      clear q9
      obtain ⟨o0, o1, o2, o3, o4, o5, o6⟩ := bx3 r9
      have hk4 : K4 ≤ 20 := by omega
      go_wp2_with fail
      generalize w7.alloc (.cells #[.int .i64 X0, .int .i64 X1, .int .i64 F3] 38) = w8 at *
      have hext : ∀ (i : Nat) (own : Value) (ys : Nat → Value) (wa wb : World), Ext wa wb → (match i with | 0 => own = .agg #[.int .i64 X0, .int .i64 X1, .int .i64 F2] | 1 => own = .slice a2 m c2 | 2 => own = .int .i64 K2 | 3 => ∃ a3 c3, own = .slice a3 (m - K2) c3 ∧ Sl w8 a3 (m - K2) ((lx.drop K2).map (Value.int .i64)) | 4 => own = .tuple #[.int .i64 K4, .agg #[.int .i64 X0, .int .i64 X1, .int .i64 X2]] | 5 => own = .tuple #[.int .i64 K4, .agg #[.int .i64 X0, .int .i64 X1, .int .i64 X2]] | 6 => own = .int .i64 K4 | 7 => own = .agg #[.int .i64 X0, .int .i64 X1, .int .i64 X2] | 8 => ∃ q x y z, own = .pointer (some ⟨q, 0, none⟩) ∧ w8.heap.size ≤ q ∧ wa.heap[q]? = some (.cells #[x, y, z] 38 (0, 0)) | 9 => own = .int .i64 K4 | 10 => ∃ q, ys 8 = .pointer (some ⟨q, 0, none⟩) ∧ w8.heap.size ≤ q ∧ wa.heap[q]? = some (.cells #[.int .i64 X0, .int .i64 X1, .int .i64 X2] 38 (0, 0)) | _ => True) → (match i with | 0 => own = .agg #[.int .i64 X0, .int .i64 X1, .int .i64 F2] | 1 => own = .slice a2 m c2 | 2 => own = .int .i64 K2 | 3 => ∃ a3 c3, own = .slice a3 (m - K2) c3 ∧ Sl w8 a3 (m - K2) ((lx.drop K2).map (Value.int .i64)) | 4 => own = .tuple #[.int .i64 K4, .agg #[.int .i64 X0, .int .i64 X1, .int .i64 X2]] | 5 => own = .tuple #[.int .i64 K4, .agg #[.int .i64 X0, .int .i64 X1, .int .i64 X2]] | 6 => own = .int .i64 K4 | 7 => own = .agg #[.int .i64 X0, .int .i64 X1, .int .i64 X2] | 8 => ∃ q x y z, own = .pointer (some ⟨q, 0, none⟩) ∧ w8.heap.size ≤ q ∧ wb.heap[q]? = some (.cells #[x, y, z] 38 (0, 0)) | 9 => own = .int .i64 K4 | 10 => ∃ q, ys 8 = .pointer (some ⟨q, 0, none⟩) ∧ w8.heap.size ≤ q ∧ wb.heap[q]? = some (.cells #[.int .i64 X0, .int .i64 X1, .int .i64 X2] 38 (0, 0)) | _ => True) := by
        intro i own ys wa wb e h
        match i, h with
        | 0, h => exact h
        | 1, h => exact h
        | 2, h => exact h
        | 3, h => exact h
        | 4, h => exact h
        | 5, h => exact h
        | 6, h => exact h
        | 7, h => exact h
        | 8, h => obtain ⟨q, x, y, z, h1, h2, h3⟩ := h; exact ⟨q, x, y, z, h1, h2, e.blk h3⟩
        | 9, h => exact h
        | 10, h => obtain ⟨q, h1, h2, h3⟩ := h; exact ⟨q, h1, h2, e.blk h3⟩
        | _ + 11, _ => trivial
      have Hext := Lib.hid hext
      clear hext
      refine wp_region_inv2 (by kernel_rfl) [(15, 9), (16, 8), (95, 5), (96, 0), (97, 1), (98, 2), (99, 3), (100, 4), (101, 6), (102, 7)] [[], [], [], [1, 2], [0, 1, 2, 3], [0, 1, 2, 3, 4], [0, 1, 2, 3, 4, 5], [0, 1, 2, 3, 4, 5], [], [0, 1, 2, 3, 4, 5, 6, 8], [0, 1, 2, 3, 4, 5, 6, 7, 8, 9]] (fun i own ys wx => match i with | 0 => own = .agg #[.int .i64 X0, .int .i64 X1, .int .i64 F2] | 1 => own = .slice a2 m c2 | 2 => own = .int .i64 K2 | 3 => ∃ a3 c3, own = .slice a3 (m - K2) c3 ∧ Sl w8 a3 (m - K2) ((lx.drop K2).map (Value.int .i64)) | 4 => own = .tuple #[.int .i64 K4, .agg #[.int .i64 X0, .int .i64 X1, .int .i64 X2]] | 5 => own = .tuple #[.int .i64 K4, .agg #[.int .i64 X0, .int .i64 X1, .int .i64 X2]] | 6 => own = .int .i64 K4 | 7 => own = .agg #[.int .i64 X0, .int .i64 X1, .int .i64 X2] | 8 => ∃ q x y z, own = .pointer (some ⟨q, 0, none⟩) ∧ w8.heap.size ≤ q ∧ wx.heap[q]? = some (.cells #[x, y, z] 38 (0, 0)) | 9 => own = .int .i64 K4 | 10 => ∃ q, ys 8 = .pointer (some ⟨q, 0, none⟩) ∧ w8.heap.size ≤ q ∧ wx.heap[q]? = some (.cells #[.int .i64 X0, .int .i64 X1, .int .i64 X2] 38 (0, 0)) | _ => True) (fun kx wx => Ext w8 wx) (by kernel_rfl) (by kernel_rfl) (by kernel_rfl) ?g0_r2 ?gop_r2 ?gend_r2
      case g0_r2 => exact Ext.drewN _ 1
      case gop_r2 =>
        refine ⟨?_, ?_, ?_, ?_, ?_, ?_, ?_, ?_, ?_, ?_, ?_, trivial⟩
        · intro kx xs wx hk hG hD Qo Kx hK hQo
          clear hD
          simp only [patchS, Nat.reduceAdd, Nat.reduceEqDiff, ↓reduceIte] at hQo ⊢
          have c2' := (cell_ext hG o1)
          have c3' := (cell_ext hG o2)
          have c4' := (cell_ext hG o3)
          go_wp2
          exact hK.out _ _ ⟨rfl, hG, fun _ _ _ _ _ _ h => h⟩
        · intro kx xs wx hk hG hD Qo Kx hK hQo
          clear hD
          simp only [patchS, Nat.reduceAdd, Nat.reduceEqDiff, ↓reduceIte] at hQo ⊢
          go_wp2
          exact hK.out _ _ ⟨rfl, hG, fun _ _ _ _ _ _ h => h⟩
        · intro kx xs wx hk hG hD Qo Kx hK hQo
          clear hD
          simp only [patchS, Nat.reduceAdd, Nat.reduceEqDiff, ↓reduceIte] at hQo ⊢
          go_wp2
          exact hK.out _ _ ⟨rfl, hG, fun _ _ _ _ _ _ h => h⟩
        · intro kx xs wx hk hG hD Qo Kx hK hQo
          have d1 : (xs 1) = .slice a2 m c2 := hD 1 rfl
          have d2 : (xs 2) = .int .i64 K2 := hD 2 rfl
          clear hD
          simp only [patchS, Nat.reduceAdd, Nat.reduceEqDiff, ↓reduceIte] at hQo ⊢
          generalize xs 1 = y1 at *
          generalize xs 2 = y2 at *
          subst d1
          subst d2
          have fin : ∀ a3 c3, Sl w8 a3 (m - K2) ((lx.drop K2).map (Value.int .i64)) → Kx (.slice a3 (m - K2) c3) wx := fun a3 c3 hs => hK.out _ _ ⟨⟨a3, c3, rfl, hs⟩, hG, fun _ _ _ _ _ _ h => h⟩
          have FIN := Lib.hid fin
          clear fin
          by_cases hm0 : K2 < m
          · obtain ⟨b1, o1, rfl, -⟩ := s12.int hm0
            have sd := s12.drop (Nat.le_of_lt hm0)
            go_wp2
            exact FIN.out _ _ sd
          · have hm1 : m = K2 := by omega
            subst hm1
            have hl0 := s12.int_len
            have f0 : ∀ a3 c3, Kx (.slice a3 0 c3) wx := fun a3 c3 => by have := FIN.out a3 c3 (by rw [Nat.sub_self, List.drop_of_length_le (by omega)]; exact Sl.nil _ _); rwa [Nat.sub_self] at this
            have F0 := Lib.hid f0
            clear f0
            by_cases hc0 : c2 = m
            · go_wp2
              exact F0.out _ _
            · cases a2
              · go_wp2
                exact F0.out _ _
              · go_wp2
                exact F0.out _ _
          skip
        · intro kx xs wx hk hG hD Qo Kx hK hQo
          have d0 : (xs 0) = .agg #[.int .i64 X0, .int .i64 X1, .int .i64 F2] := hD 0 rfl
          have d3 : ∃ a3 c3, (xs 3) = .slice a3 (m - K2) c3 ∧ Sl w8 a3 (m - K2) ((lx.drop K2).map (Value.int .i64)) := hD 3 rfl
          clear hD
          simp only [patchS, Nat.reduceAdd, Nat.reduceEqDiff, ↓reduceIte] at hQo ⊢
          generalize xs 0 = y0 at *
          generalize xs 3 = y3 at *
          subst d0
          obtain ⟨a3, c3, rfl, s3'⟩ := d3
          go_wp2_with fail
          refine (impl_BufferRun_yes X0 X1 F2 a3 c3 _ (lx.drop K2) _ (by omega) (s3'.ext hG) hv4).mono ?_
          rintro e w9 ⟨he, e9⟩
          rw [← HK4.out] at he
          subst he
          unfold btV
          go_wp2
          exact hK.out _ _ ⟨rfl, hG.trans e9, fun i _ _ _ own ys h => Hext.out i own ys _ _ e9 h⟩
        · intro kx xs wx hk hG hD Qo Kx hK hQo
          have d4 : (xs 4) = .tuple #[.int .i64 K4, .agg #[.int .i64 X0, .int .i64 X1, .int .i64 X2]] := hD 4 rfl
          clear hD
          simp only [patchS, Nat.reduceAdd, Nat.reduceEqDiff, ↓reduceIte] at hQo ⊢
          generalize xs 4 = y4 at *
          subst d4
          go_wp2
          exact hK.out _ _ ⟨rfl, hG, fun _ _ _ _ _ _ h => h⟩
        · intro kx xs wx hk hG hD Qo Kx hK hQo
          have d5 : (xs 5) = .tuple #[.int .i64 K4, .agg #[.int .i64 X0, .int .i64 X1, .int .i64 X2]] := hD 5 rfl
          clear hD
          simp only [patchS, Nat.reduceAdd, Nat.reduceEqDiff, ↓reduceIte] at hQo ⊢
          generalize xs 5 = y5 at *
          subst d5
          go_wp2
          exact hK.out _ _ ⟨rfl, hG, fun _ _ _ _ _ _ h => h⟩
        · intro kx xs wx hk hG hD Qo Kx hK hQo
          have d5 : (xs 5) = .tuple #[.int .i64 K4, .agg #[.int .i64 X0, .int .i64 X1, .int .i64 X2]] := hD 5 rfl
          clear hD
          simp only [patchS, Nat.reduceAdd, Nat.reduceEqDiff, ↓reduceIte] at hQo ⊢
          generalize xs 5 = y5 at *
          subst d5
          go_wp2
          exact hK.out _ _ ⟨rfl, hG, fun _ _ _ _ _ _ h => h⟩
        · intro kx xs wx hk hG hD Qo Kx hK hQo
          clear hD
          simp only [patchS, Nat.reduceAdd, Nat.reduceEqDiff, ↓reduceIte] at hQo ⊢
          have e5' := Ext.alloc wx (.cells #[.int .i64 0, .int .i64 0, .int .i64 0] 38)
          go_wp2
          exact hK.out _ _ ⟨⟨_, _, _, _, rfl, hG.size, blk_new _ _⟩, hG.trans e5', fun i _ _ _ own ys h => Hext.out i own ys _ _ e5' h⟩
        · intro kx xs wx hk hG hD Qo Kx hK hQo
          have d6 : (xs 6) = .int .i64 K4 := hD 6 rfl
          clear hD
          simp only [patchS, Nat.reduceAdd, Nat.reduceEqDiff, ↓reduceIte] at hQo ⊢
          generalize xs 6 = y6 at *
          subst d6
          go_wp2
          exact hK.out _ _ ⟨rfl, hG, fun _ _ _ _ _ _ h => h⟩
        · intro kx xs wx hk hG hD Qo Kx hK hQo
          have d8 : ∃ q x y z, (xs 8) = .pointer (some ⟨q, 0, none⟩) ∧ w8.heap.size ≤ q ∧ wx.heap[q]? = some (.cells #[x, y, z] 38 (0, 0)) := hD 8 rfl
          have d7 : (xs 7) = .agg #[.int .i64 X0, .int .i64 X1, .int .i64 X2] := hD 7 rfl
          clear hD
          simp only [patchS, Nat.reduceAdd, Nat.reduceEqDiff, ↓reduceIte] at hQo ⊢
          generalize hx8 : xs 8 = y8 at *
          have Hx8 := Lib.hid hx8
          clear hx8
          generalize xs 7 = y7 at *
          obtain ⟨q9, x, y, z, rfl, hq, hqb⟩ := d8
          subst d7
          obtain ⟨z0, z1, z2, z3, z4, z5, z6⟩ := bx3 hqb
          go_wp2
          have hst : ∀ (wy : World), (∀ (b : Nat) (o : Obj), wx.heap[b]? = some o → b ≠ q9 → wy.heap[b]? = some o) ∧ (∃ x y z, wy.heap[q9]? = some (.cells #[x, y, z] 38 (0, 0))) → ∀ (ii : Nat), ii < 11 → ii ≠ 10 → ([[], [], [], [1, 2], [0, 1, 2, 3], [0, 1, 2, 3, 4], [0, 1, 2, 3, 4, 5], [0, 1, 2, 3, 4, 5], [], [0, 1, 2, 3, 4, 5, 6, 8], [0, 1, 2, 3, 4, 5, 6, 7, 8, 9]].getD ii []).contains 10 = false → ∀ (own : Value) (ys : Nat → Value), (match ii with | 0 => own = .agg #[.int .i64 X0, .int .i64 X1, .int .i64 F2] | 1 => own = .slice a2 m c2 | 2 => own = .int .i64 K2 | 3 => ∃ a3 c3, own = .slice a3 (m - K2) c3 ∧ Sl w8 a3 (m - K2) ((lx.drop K2).map (Value.int .i64)) | 4 => own = .tuple #[.int .i64 K4, .agg #[.int .i64 X0, .int .i64 X1, .int .i64 X2]] | 5 => own = .tuple #[.int .i64 K4, .agg #[.int .i64 X0, .int .i64 X1, .int .i64 X2]] | 6 => own = .int .i64 K4 | 7 => own = .agg #[.int .i64 X0, .int .i64 X1, .int .i64 X2] | 8 => ∃ q x y z, own = .pointer (some ⟨q, 0, none⟩) ∧ w8.heap.size ≤ q ∧ wx.heap[q]? = some (.cells #[x, y, z] 38 (0, 0)) | 9 => own = .int .i64 K4 | 10 => ∃ q, ys 8 = .pointer (some ⟨q, 0, none⟩) ∧ w8.heap.size ≤ q ∧ wx.heap[q]? = some (.cells #[.int .i64 X0, .int .i64 X1, .int .i64 X2] 38 (0, 0)) | _ => True) → (match ii with | 0 => own = .agg #[.int .i64 X0, .int .i64 X1, .int .i64 F2] | 1 => own = .slice a2 m c2 | 2 => own = .int .i64 K2 | 3 => ∃ a3 c3, own = .slice a3 (m - K2) c3 ∧ Sl w8 a3 (m - K2) ((lx.drop K2).map (Value.int .i64)) | 4 => own = .tuple #[.int .i64 K4, .agg #[.int .i64 X0, .int .i64 X1, .int .i64 X2]] | 5 => own = .tuple #[.int .i64 K4, .agg #[.int .i64 X0, .int .i64 X1, .int .i64 X2]] | 6 => own = .int .i64 K4 | 7 => own = .agg #[.int .i64 X0, .int .i64 X1, .int .i64 X2] | 8 => ∃ q x y z, own = .pointer (some ⟨q, 0, none⟩) ∧ w8.heap.size ≤ q ∧ wy.heap[q]? = some (.cells #[x, y, z] 38 (0, 0)) | 9 => own = .int .i64 K4 | 10 => ∃ q, ys 8 = .pointer (some ⟨q, 0, none⟩) ∧ w8.heap.size ≤ q ∧ wy.heap[q]? = some (.cells #[.int .i64 X0, .int .i64 X1, .int .i64 X2] 38 (0, 0)) | _ => True) := by
            intro wy hy ii hii hne hc own ys h
            match ii, h with
            | 0, h => exact h
            | 1, h => exact h
            | 2, h => exact h
            | 3, h => exact h
            | 4, h => exact h
            | 5, h => exact h
            | 6, h => exact h
            | 7, h => exact h
            | 8, h => obtain ⟨q', x', y', z', h1, h2, h3⟩ := h; by_cases hqq : q' = q9; (subst hqq; obtain ⟨u1, u2, u3, u4⟩ := hy.2; exact ⟨_, u1, u2, u3, h1, h2, u4⟩); exact ⟨q', x', y', z', h1, h2, hy.1 _ _ h3 hqq⟩
            | 9, h => exact h
            | 10, h => exact absurd rfl hne
            | _ + 11, _ => trivial
          refine hQo undef _ (hK.out _ _ ⟨⟨q9, Hx8.out, hq, blk_set3 hqb⟩, ?_, hst _ ⟨fun b o hb hne => blk_set_other (blk_set_other (blk_set_other hb hne) hne) hne, _, _, _, blk_set3 hqb⟩⟩)
          exact Below.setCell (Below.setCell (Below.setCell hG hq _) hq _) hq _
      clear Hext
      intro xs wx hV hG
      have d0 : (xs 0) = .agg #[.int .i64 X0, .int .i64 X1, .int .i64 F2] := hV 0 (by decide)
      have d1 : (xs 1) = .slice a2 m c2 := hV 1 (by decide)
      have d2 : (xs 2) = .int .i64 K2 := hV 2 (by decide)
      have d3 : ∃ a3 c3, (xs 3) = .slice a3 (m - K2) c3 ∧ Sl w8 a3 (m - K2) ((lx.drop K2).map (Value.int .i64)) := hV 3 (by decide)
      have d4 : (xs 4) = .tuple #[.int .i64 K4, .agg #[.int .i64 X0, .int .i64 X1, .int .i64 X2]] := hV 4 (by decide)
      have d5 : (xs 5) = .tuple #[.int .i64 K4, .agg #[.int .i64 X0, .int .i64 X1, .int .i64 X2]] := hV 5 (by decide)
      have d6 : (xs 6) = .int .i64 K4 := hV 6 (by decide)
      have d7 : (xs 7) = .agg #[.int .i64 X0, .int .i64 X1, .int .i64 X2] := hV 7 (by decide)
      have d8 : ∃ q x y z, (xs 8) = .pointer (some ⟨q, 0, none⟩) ∧ w8.heap.size ≤ q ∧ wx.heap[q]? = some (.cells #[x, y, z] 38 (0, 0)) := hV 8 (by decide)
      have d9 : (xs 9) = .int .i64 K4 := hV 9 (by decide)
      have d10 : ∃ q, (xs 8) = .pointer (some ⟨q, 0, none⟩) ∧ w8.heap.size ≤ q ∧ wx.heap[q]? = some (.cells #[.int .i64 X0, .int .i64 X1, .int .i64 X2] 38 (0, 0)) := hV 10 (by decide)
      clear hV
      simp only [patchS, Nat.reduceAdd, Nat.reduceEqDiff, ↓reduceIte]
      generalize xs 0 = y0 at *
      generalize xs 1 = y1 at *
      generalize xs 2 = y2 at *
      generalize xs 3 = y3 at *
      generalize xs 4 = y4 at *
      generalize xs 5 = y5 at *
      generalize xs 6 = y6 at *
      generalize xs 7 = y7 at *
      generalize xs 8 = y8 at *
      generalize xs 9 = y9 at *
      generalize xs 10 = y10 at *
      replace hG : Ext w8 wx := hG
      subst d0
      subst d1
      subst d2
      obtain ⟨a3, c3, rfl, s3'⟩ := d3
      subst d4
      subst d5
      subst d6
      subst d7
      obtain ⟨q9, x, y, z, rfl, hq, hqb⟩ := d8
      subst d9
      obtain ⟨q2, hq2, hq3, hq4⟩ := d10
      simp only [Value.pointer.injEq, Option.some.injEq, Addr.mk.injEq, and_true] at hq2
      subst hq2
      have q10 := hG.blk Q9
      have E9 := E8.trans hG
      obtain ⟨n0, n1, n2, n3, n4, n5, n6⟩ := bx3 q10
      obtain ⟨l0, l1, l2, l3, l4, l5, l6⟩ := bx3 hq4
      go_wp2
      go_ret
      exact ⟨by first | (simp; done) | (simp; omega), E9⟩
  · have hN2 : N = 0 := by rw [HN.out]; exact if_neg hv
    have hX2 : (X0, X1, X2) = (0, 0, 0) := by rw [HX.out]; exact if_neg hv
    simp only [Prod.mk.injEq] at hX2
    obtain ⟨rfl, rfl, rfl⟩ := hX2
    subst hN2
    go_wp2_with fail
    refine (spec_BufferValid_no s r f _ hv).mono ?_
    rintro e w5 ⟨rfl, e5⟩
    have E5 := E4.trans e5
    obtain ⟨i0, i1, i2, i3, i4, i5, i6⟩ := bx3 (e5.blk p4)
    obtain ⟨j0, j1, j2, j3, j4, j5, j6⟩ := bx3 (e5.blk q4)
    go_wp2_with fail
    refine (alive_any _).mono ?_
    rintro e w6 ⟨rfl, e6⟩
    have E6 := E5.trans e6
    go_wp2
    go_ret
    exact ⟨by simp, E6⟩
end Go.Proofs.Ytmcdlkbofhdnlaa
