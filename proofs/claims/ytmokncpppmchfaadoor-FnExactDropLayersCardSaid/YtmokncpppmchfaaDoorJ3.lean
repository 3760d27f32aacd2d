/- The exact laws' helpers over coded pictures and lists of them. -/
import Derived.Test.YtmokncpppmchfaaDoorJ2
namespace Go.Proofs.YtmokncpppmchfaaDoor
open Go.RowKit
set_option maxHeartbeats 1000000
/-- What a coded picture's marks come to, and its size. -/
def wtC (x : Cd) : Nat := 4 + sumN (ln x.f) x.n
def szC (x : Cd) : Nat := x.n + sumN (ln x.f) x.n
def mkR (k0 : Int) (x : Cd) : Cd := ⟨k0, k0 + 1, (k0 + 1 + 1) % 3 == 0, k0 + 1 + 1 + 1, x.n, mkF (k0 + 1 + 1 + 1 + 1) x.f⟩
def smN (g : Cd → Nat) (r : Nat → Cd) (n : Nat) : Nat := sumN (fun i => g (r i)) n
def mkC (k0 : Int) (r : Nat → Cd) (i : Nat) : Cd := mkR (k0 + (smN wtC r i : Nat)) (r i)
theorem smN_wt (r : Nat → Cd) : ∀ n, smN wtC r n ≤ 4 * n + smN szC r n
  | 0 => by simp [smN, sumN]
  | n + 1 => by
    have := smN_wt r n
    simp only [smN, sumN, wtC, szC] at this ⊢
    omega
/-- A list of coded pictures that is small enough. -/
def okC (r : Nat → Cd) (n : Nat) : Prop := n ≤ 1048576 ∧ smN szC r n ≤ 1048576
theorem okC.at {r : Nat → Cd} {n i : Nat} (h : okC r n) (hi : i < n) : (r i).n ≤ 1048576 ∧ sumN (ln (r i).f) (r i).n ≤ 1048576 := by
  have := sumN_mem (g := fun i => szC (r i)) hi
  have h2 := h.2
  simp only [smN, szC] at this h2
  omega
theorem szCoded_any (x : Cd) (a : Option Addr) (c : Nat) (left : Int) (w : World) (hn : x.n ≤ 9223372036854775807) (h0 : 0 ≤ left) (h1 : left ≤ 1048576) (r : SS w a x.n (lst x.n x.f)) :
    Calls Tryd.prog 17 #[.agg #[.int .i64 x.w, .int .i64 x.h, .bool x.i, .int .i64 x.q, .slice a x.n c], .int .i64 left] w fun e w' => ∃ y : Int, e = .returned (.int .i64 y) ∧ y ≤ 1048576 ∧ (0 ≤ y → y = left - szC x) ∧ Ext w w' := by
  obtain ⟨xw, xh, xi, xq, n, f⟩ := x
  simp only at hn r ⊢
  go_enter Tryd.func17, Tryd.ntmps17
  go_wp2_with fail
  refine (szByteSS_ex a c n f left _ hn h0 h1 (r.ext (by (repeat (first | with_reducible exact Below.refl _ _ | assumption | with_reducible refine below_drewN ?_ _ | with_reducible refine Below.drew ?_ | with_reducible refine Below.setCell ?_ (by simp <;> omega) _ | with_reducible refine Ext.trans ?_ (Ext.alloc _ _)))))).mono ?_
  rintro e w1 ⟨y, rfl, hy1, hy, e1⟩
  have E1 : Ext w w1 := by refine Ext.trans ?_ e1; (repeat (first | with_reducible exact Below.refl _ _ | assumption | with_reducible refine below_drewN ?_ _ | with_reducible refine Below.drew ?_ | with_reducible refine Below.setCell ?_ (by simp <;> omega) _ | with_reducible refine Ext.trans ?_ (Ext.alloc _ _)))
  clear e1
  by_cases h : y < 0
  · go_wp2
    go_ret
    exact ⟨_, rfl, by omega, by omega, E1⟩
  · have hd : decide (y < 0) = false := by simpa using h
    go_wp2
    go_ret
    refine ⟨_, rfl, hy1, fun h2 => ?_, E1⟩
    rw [hy h2]; simp only [szC]; push_cast; omega
theorem szCodedS_any (a : Option Addr) (c n : Nat) (r : Nat → Cd) (left : Int) (w : World) (hn : n ≤ 9223372036854775807) (hl0 : 0 ≤ left) (hl1 : left ≤ 1048576) (R : CP w a n r) :
    Calls Tryd.prog 5 #[.slice a n c, .int .i64 left] w fun e w' => ∃ x : Int, e = .returned (.int .i64 x) ∧ x ≤ 1048576 ∧ (0 ≤ x → okC r n ∧ x = left - n - (smN szC r n : Nat)) ∧ Ext w w' := by
  by_cases hbig : left - n < 0
  · have hd : decide (left - (n : Int) < 0) = true := by simpa using hbig
    go_enter Tryd.func5, Tryd.ntmps5
    go_wp2
    go_ret
    exact ⟨-1, rfl, by omega, by omega, Below.refl _ _⟩
  · have hd : decide (left - (n : Int) < 0) = false := by simpa using hbig
    go_enter Tryd.func5, Tryd.ntmps5
    go_wp2_with fail
    go_loopw [1, 5] (fun q i wr => ∃ (k : Nat) (x : Int), k ≤ n ∧ i = .int .i64 k ∧ q = .int .i64 x ∧ 0 ≤ x ∧ x ≤ 1048576 ∧ Ext w wr ∧ Hid (x = left - n - smN szC r k)) (fun _ i _ => n - (intOf i).toNat)
    case atStart => exact ⟨0, _, by omega, rfl, rfl, by omega, by omega, Below.refl _ _, Lib.hid (by simp [smN, sumN])⟩
    case round =>
      obtain ⟨k, x, hk, rfl, rfl, hx0, hx1, E2, Hall⟩ := hrel
      by_cases hlt : k < n
      · obtain ⟨b1, o1, rfl, a2, c2, ⟨h1, h2, h3, h4, h5⟩, h6, h7, h8⟩ := (R.ext E2) k hlt
        have hcl := fun (wz : World) (e : Ext wr wz) => szCoded_any (r k) a2 c2 x wz (Nat.le_trans h7 h8) hx0 hx1 (h6.ext e)
        obtain ⟨P, hP⟩ : ∃ P, P = r k := ⟨_, rfl⟩
        have HP := Lib.hid hP
        rw [← hP] at h1 h2 h3 h4 h5 hcl
        obtain ⟨xw, xh, xi, xq, m, f⟩ := P
        simp only at h1 h2 h3 h4 h5
        have Hcl := Lib.hid hcl
        clear h6 h7 h8 hP hcl
        go_wp2_with fail
        refine (Hcl.out _ (Below.refl _ _)).mono ?_
        rintro e w2 ⟨y, rfl, hy1, hy, e2⟩
        have E3 := E2.trans e2
        have Hy := Lib.hid hy
        clear hy e2 h1 h2 h3 h4 h5
        by_cases h : y < 0
        · go_wp2
          go_ret
          exact ⟨-1, rfl, by omega, by omega, E3⟩
        · have hd2 : decide (y < 0) = false := by simpa using h
          go_wp2
          go_roundw
          case rel =>
            refine ⟨k + 1, y, by omega, by go_num, rfl, by omega, hy1, E3, Lib.hid ?_⟩
            have h1 := Hall.out
            have h2 := Hy.out (by omega)
            have h3 := HP.out
            simp only [smN, sumN] at h1 ⊢
            rw [← h3]
            omega
          case measure => simp [intOf]; omega
      · obtain rfl : k = n := by omega
        go_wp2
        go_ret
        refine ⟨_, rfl, hx1, fun _ => ?_, E2⟩
        have h1 := Hall.out
        exact ⟨⟨by omega, by omega⟩, h1⟩
theorem size_Coded : (Tryd.prog.info? 38).map (·.size) = some 5 := by kernel_rfl
theorem info_Coded : (Tryd.prog.info? 38).map (fun i => (i.zero, i.size, i.bytes)) = some (some (.agg #[.int .i64 0, .int .i64 0, .bool false, .int .i64 0, .slice none 0 0]), 5, 56) := by kernel_rfl
theorem toCoded_any (x y q : Int) (i : Bool) (a : Option Addr) (n c : Nat) (f : Nat → List Int) (w : World) (hn : n < 2^40) (hL : ∀ i, i < n → (f i).length < 2^45) (r : SS w a n (lst n f)) :
    Calls Tryd.prog 21 #[.agg #[.int .i64 x, .int .i64 y, .bool i, .int .i64 q, .slice a n c]] w fun e w' => ∃ a' c' ss, e = .returned (.agg #[.int .i64 x, .int .i64 y, .bool i, .int .i64 q, .slice a' n c']) ∧ SSg w' w.heap.size w'.heap.size (.slice a' n c') n f ss ∧ Ext w w' := by
  have HL := Lib.hid hL
  clear hL
  go_enter Tryd.func21, Tryd.ntmps21
  have p1 := blk_alloc (blk_new (w.alloc (.cells #[.int .i64 x, .int .i64 y, .bool i, .int .i64 q, .slice a n c] 41)) (.cells #[.int .i64 0, .int .i64 0, .bool false, .int .i64 0, .slice none 0 0] 38)) (.cells #[.int .i64 x, .int .i64 y, .bool i, .int .i64 q, .slice none 0 0] 38)
  have p2 := blk_new ((w.alloc (.cells #[.int .i64 x, .int .i64 y, .bool i, .int .i64 q, .slice a n c] 41)).alloc (.cells #[.int .i64 0, .int .i64 0, .bool false, .int .i64 0, .slice none 0 0] 38)) (.cells #[.int .i64 x, .int .i64 y, .bool i, .int .i64 q, .slice none 0 0] 38)
  simp only [World.size_alloc] at p1 p2
  go_wp2_with fail
  refine (toByteSS_own a c n f _ hn (r.ext (by (repeat (first | with_reducible exact Below.refl _ _ | assumption | with_reducible refine below_drewN ?_ _ | with_reducible refine Below.drew ?_ | with_reducible refine Below.setCell ?_ (by simp <;> omega) _ | with_reducible refine Ext.trans ?_ (Ext.alloc _ _))))) HL.out).mono ?_
  rintro e w1 ⟨a1, c1, ss, rfl, own1, e1⟩
  have E1 : Ext w w1 := by refine Ext.trans ?_ e1; (repeat (first | with_reducible exact Below.refl _ _ | assumption | with_reducible refine below_drewN ?_ _ | with_reducible refine Below.drew ?_ | with_reducible refine Below.setCell ?_ (by simp <;> omega) _ | with_reducible refine Ext.trans ?_ (Ext.alloc _ _)))
  have q1 := e1.blk p1
  have q2 := e1.blk p2
  simp only [World.size_alloc] at own1
  clear p1 p2 e1
  obtain ⟨m0, m1, m2, m3, m4, m5⟩ := bx5 q1
  obtain ⟨f0, f1, f2, f3, f4⟩ := fz5 q1
  obtain ⟨n0, n1, n2, n3, n4, n5⟩ := bx5 q2
  obtain ⟨g0, g1, g2, g3, g4⟩ := fz5 q2
  have Q1 := Lib.hid q1
  clear q1 q2
  go_wp2
  refine bodyPost_ret (v := .agg #[.int .i64 x, .int .i64 y, .bool i, .int .i64 q, .slice a1 n c1]) (results_cell_row rfl _ _ (w.heap.size + 1) 38 #[.int .i64 x, .int .i64 y, .bool i, .int .i64 q, .slice a1 n c1] (0, 0) _ rfl (blk_set5 (blk_set_other Q1.out (by omega))) Tryd.underlying38 rfl size_Coded) rfl ⟨_, _, ss, rfl, ?_, ?_⟩
  · exact (((SSk.gr own1 (gs1 _ _ _ _) (by omega)).gr (gs5 _ _ _ _ _ _ _ _ _ _ _ _) (by omega)).mono (by omega)).up (by simp)
  · (repeat (with_reducible refine Below.setCell ?_ (by simp <;> omega) _))
    exact E1
theorem eqCoded_same (x y q : Int) (i : Bool) (a b : Option Addr) (c d n : Nat) (f : Nat → List Int) (w : World) (hn : n < 2^40) (hL : ∀ i, i < n → (f i).length < 2^45) (r1 : SS w a n (lst n f)) (r2 : SS w b n (lst n f)) :
    Calls Tryd.prog 24 #[.agg #[.int .i64 x, .int .i64 y, .bool i, .int .i64 q, .slice a n c], .agg #[.int .i64 x, .int .i64 y, .bool i, .int .i64 q, .slice b n d]] w fun e w' => e = .returned (.bool true) ∧ Ext w w' := by
  have HL := Lib.hid (show ∀ x ∈ lst n f, x.length < 2^45 from fun x hx => by obtain ⟨i, hi, rfl⟩ := lst_mem hx; exact hL i hi)
  clear hL
  go_enter Tryd.func24, Tryd.ntmps24
  go_wp2_with fail
  refine (eqByteSS_same a b c d n (lst n f) _ hn HL.out (r1.ext (by (repeat (first | with_reducible exact Below.refl _ _ | assumption | with_reducible refine below_drewN ?_ _ | with_reducible refine Below.drew ?_ | with_reducible refine Below.setCell ?_ (by simp <;> omega) _ | with_reducible refine Ext.trans ?_ (Ext.alloc _ _))))) (r2.ext (by (repeat (first | with_reducible exact Below.refl _ _ | assumption | with_reducible refine below_drewN ?_ _ | with_reducible refine Below.drew ?_ | with_reducible refine Below.setCell ?_ (by simp <;> omega) _ | with_reducible refine Ext.trans ?_ (Ext.alloc _ _)))))).mono ?_
  rintro e w1 ⟨rfl, e1⟩
  have E1 : Ext w w1 := by refine Ext.trans ?_ e1; (repeat (first | with_reducible exact Below.refl _ _ | assumption | with_reducible refine below_drewN ?_ _ | with_reducible refine Below.drew ?_ | with_reducible refine Below.setCell ?_ (by simp <;> omega) _ | with_reducible refine Ext.trans ?_ (Ext.alloc _ _)))
  clear e1
  go_wp2
  go_ret
  exact ⟨rfl, E1⟩
def put5 (w : World) (g o : Nat) (u0 u1 u2 u3 u4 : Value) : World := ((((w.setCell ⟨g, o, none⟩ u0).setCell ⟨g, o + 1, none⟩ u1).setCell ⟨g, o + 2, none⟩ u2).setCell ⟨g, o + 3, none⟩ u3).setCell ⟨g, o + 4, none⟩ u4
theorem put5_grown (w : World) (g o : Nat) (u0 u1 u2 u3 u4 : Value) : w.grownBy (put5 w g o u0 u1 u2 u3 u4) (some g) := gs5 _ _ _ _ _ _ _ _ _ _ _ _
theorem put5_cells {w : World} {lo g n c o : Nat} {cs : List Value} {u0 u1 u2 u3 u4 : Value} (h : w.ownsRow lo 38 5 (.slice (some ⟨g, 0, none⟩) n c) n cs) :
    (put5 w g o u0 u1 u2 u3 u4).ownsRow lo 38 5 (.slice (some ⟨g, 0, none⟩) n c) n (((((cs.set o u0).set (o + 1) u1).set (o + 2) u2).set (o + 3) u3).set (o + 4) u4) :=
  (((((h.stored o u0).1.stored (o + 1) u1).1.stored (o + 2) u2).1.stored (o + 3) u3).1.stored (o + 4) u4).1
theorem toCodedS_own (a : Option Addr) (c n : Nat) (r : Nat → Cd) (w : World) (ok : okC r n) (R : CP w a n r) :
    Calls Tryd.prog 7 #[.slice a n c] w fun e w' => ∃ cs, e = .returned (.slice (some ⟨w.heap.size, 0, none⟩) n n) ∧ CE w' w.heap.size w'.heap.size (.slice (some ⟨w.heap.size, 0, none⟩) n n) n n r cs ∧ Ext w w' := by
  obtain ⟨i0, hi, hz0, hz1, hz2⟩ := info_parts info_Coded
  have hn : n ≤ 1048576 := ok.1
  have Hok := Lib.hid ok
  clear ok
  go_enter Tryd.func7, Tryd.ntmps7
  go_wp2_with (at_make; refine wpList_make_full _ rfl _ _ 24 rfl w.heap.size 38 i0 (.agg #[.int .i64 0, .int .i64 0, .bool false, .int .i64 0, .slice none 0 0]) 5 Tryd.underlying24 hi hz0 hz1 .i64 .i64 _ _ n rfl rfl rfl rfl (by rw [hz2]; omega) (by unfold maxLen; omega) (Nat.le_refl _) ?_; intro w1 hown hgrow)
  have E1 : Ext w w1 := (Ext.grown (Below.refl _ _) hgrow (by simp))
  have hs1 : w.heap.size < w1.heap.size := (hown.lt w.heap.size rfl).2
  go_loopw [4] (fun i wr => ∃ (k : Nat) (cs : List Value), k ≤ n ∧ i = .int .i64 k ∧ Ext w wr ∧ w.heap.size < wr.heap.size ∧ CE wr w.heap.size wr.heap.size (.slice (some ⟨w.heap.size, 0, none⟩) n n) n k r cs) (fun i _ => n - (intOf i).toNat)
  case atStart => exact ⟨0, _, by omega, rfl, E1, hs1, CE.zero r hown (by omega)⟩
  case round =>
    obtain ⟨k, cs, hk, rfl, E2, hs2, S2⟩ := hrel
    clear hown E1 hgrow hs1
    by_cases hlt : k < n
    · obtain ⟨b1, o1, rfl, a2, c2, ⟨h1, h2, h3, h4, h5⟩, h6, h7, h8⟩ := (R.ext E2) k hlt
      have hok := Hok.out.at hlt
      have Hcl := Lib.hid (toCoded_any (r k).w (r k).h (r k).q (r k).i a2 (r k).n c2 (r k).f wr (by omega) (fun i hi => by have := sumN_mem (g := ln (r k).f) hi; simp only [ln] at this; omega) h6)
      obtain ⟨P, hP⟩ : ∃ P, P = r k := ⟨_, rfl⟩
      have HP := Lib.hid hP
      rw [← hP] at h1 h2 h3 h4 h5 Hcl
      obtain ⟨xw, xh, xi, xq, m, f⟩ := P
      simp only at h1 h2 h3 h4 h5 Hcl
      clear h6 h7 h8 hP hok
      go_wp2_with fail
      refine Hcl.out.mono ?_
      rintro e w2 ⟨a3, c3, ss, rfl, own3, e3⟩
      have S3 := S2.ext e3
      obtain ⟨us, hu⟩ := id S3
      have ownH := hu.1
      have hcl : cs.length = n * 5 := ownH.1
      obtain ⟨u0, d0, -⟩ := owns_at ownH (j := k * 5) (by omega)
      obtain ⟨u1, d1, -⟩ := owns_at ownH (j := k * 5 + 1) (by omega)
      obtain ⟨u2, d2, -⟩ := owns_at ownH (j := k * 5 + 2) (by omega)
      obtain ⟨u3, d3, -⟩ := owns_at ownH (j := k * 5 + 3) (by omega)
      obtain ⟨u4, d4, -⟩ := owns_at ownH (j := k * 5 + 4) (by omega)
      have f0 := ownH.frozenAt (k * 5)
      have f1 := ownH.frozenAt (k * 5 + 1)
      have f2 := ownH.frozenAt (k * 5 + 2)
      have f3 := ownH.frozenAt (k * 5 + 3)
      have f4 := ownH.frozenAt (k * 5 + 4)
      have hs3 : w.heap.size < w2.heap.size := Nat.lt_of_lt_of_le hs2 e3.size
      have E3 := E2.trans e3
      have S4 : CE (put5 w2 w.heap.size (k * 5) (.int .i64 xw) (.int .i64 xh) (.bool xi) (.int .i64 xq) (.slice a3 m c3)) w.heap.size w2.heap.size (.slice (some ⟨w.heap.size, 0, none⟩) n n) n (k + 1) r _ :=
        CE.snoc (a1 := a3) (c1 := c3) (ss := ss) S3 (by rw [← HP.out]; exact own3) e3.size (put5_cells (o := k * 5) (u0 := .int .i64 xw) (u1 := .int .i64 xh) (u2 := .bool xi) (u3 := .int .i64 xq) (u4 := .slice a3 m c3) ownH) (put5_grown _ _ _ _ _ _ _ _) (fun o ho => by
          rw [List.getElem?_set_ne (by omega), List.getElem?_set_ne (by omega), List.getElem?_set_ne (by omega), List.getElem?_set_ne (by omega), List.getElem?_set_ne (by omega)]) (by
          rw [← HP.out]
          refine ⟨?_, ?_, ?_, ?_, ?_⟩ <;> simp [List.getElem?_set] <;> omega)
      have G5 := put5_grown w2 w.heap.size (k * 5) (.int .i64 xw) (.int .i64 xh) (.bool xi) (.int .i64 xq) (.slice a3 m c3)
      have HS4 := Lib.hid (⟨S4.up G5.size, Ext.grown E3 G5 (by simp)⟩ : CE (put5 w2 w.heap.size (k * 5) (.int .i64 xw) (.int .i64 xh) (.bool xi) (.int .i64 xq) (.slice a3 m c3)) w.heap.size (put5 w2 w.heap.size (k * 5) (.int .i64 xw) (.int .i64 xh) (.bool xi) (.int .i64 xq) (.slice a3 m c3)).heap.size (.slice (some ⟨w.heap.size, 0, none⟩) n n) n (k + 1) r _ ∧ Ext w (put5 w2 w.heap.size (k * 5) (.int .i64 xw) (.int .i64 xh) (.bool xi) (.int .i64 xq) (.slice a3 m c3)))
      clear G5
      clear e3 S2 S3 S4 h1 h2 h3 h4 h5 hu ownH own3 E2 E3
      go_wp2
      go_roundw
      case rel => exact ⟨k + 1, _, by omega, rfl, HS4.out.2, by simpa using hs3, HS4.out.1⟩
      case measure => simp [intOf]; omega
    · obtain rfl : k = n := by omega
      go_wp2
      go_ret
      exact ⟨cs, rfl, S2, E2⟩
theorem eqCodedS_same (a b : Option Addr) (c d n : Nat) (r : Nat → Cd) (w : World) (ok : okC r n) (r1 : CP w a n r) (r2 : CP w b n r) :
    Calls Tryd.prog 9 #[.slice a n c, .slice b n d] w fun e w' => e = .returned (.bool true) ∧ Ext w w' := by
  have hn : n ≤ 1048576 := ok.1
  have Hok := Lib.hid ok
  clear ok
  go_enter Tryd.func9, Tryd.ntmps9
  go_wp2_with fail
  go_loopw [5] (fun i wr => ∃ (k : Nat), k ≤ n ∧ i = .int .i64 k ∧ Ext w wr) (fun i _ => n - (intOf i).toNat)
  case atStart => exact ⟨0, by omega, rfl, Below.refl _ _⟩
  case round =>
    obtain ⟨k, hk, rfl, E2⟩ := hrel
    by_cases hlt : k < n
    · obtain ⟨b1, o1, rfl, a2, c2, ⟨h1, h2, h3, h4, h5⟩, h6, -⟩ := (r1.ext E2) k hlt
      obtain ⟨b2, o2, rfl, a3, c3, ⟨j1, j2, j3, j4, j5⟩, j6, -⟩ := (r2.ext E2) k hlt
      have hok := Hok.out.at hlt
      have Hcl := Lib.hid (fun (wz : World) (e : Ext wr wz) => eqCoded_same (r k).w (r k).h (r k).q (r k).i a2 a3 c2 c3 (r k).n (r k).f wz (by omega) (fun i hi => by have := sumN_mem (g := ln (r k).f) hi; simp only [ln] at this; omega) (h6.ext e) (j6.ext e))
      generalize r k = P at *
      obtain ⟨xw, xh, xi, xq, m, f⟩ := P
      simp only at h1 h2 h3 h4 h5 j1 j2 j3 j4 j5 Hcl
      clear r1 r2 hok h6 j6
      go_wp2_with fail
      refine wp_region_inv2 (by kernel_rfl) [(17, 0), (18, 1), (19, 2), (20, 3), (21, 4), (22, 5), (23, 6), (24, 7), (25, 8), (26, 9)] [[], [], [0, 1], [0, 1, 2], [], [], [4, 5], [4, 5, 6], [0, 1, 2, 3, 4, 5, 6, 7], [0, 1, 2, 3, 4, 5, 6, 7, 8]] (fun i own ys wx => match i with | 0 => own = .slice (some ⟨b1, o1, none⟩) n c | 1 => own = .int .i64 k | 2 => own = .pointer (some ⟨b1, o1 + k * 5, none⟩) | 3 => own = .agg #[.int .i64 xw, .int .i64 xh, .bool xi, .int .i64 xq, .slice a2 m c2] | 4 => own = .slice (some ⟨b2, o2, none⟩) n d | 5 => own = .int .i64 k | 6 => own = .pointer (some ⟨b2, o2 + k * 5, none⟩) | 7 => own = .agg #[.int .i64 xw, .int .i64 xh, .bool xi, .int .i64 xq, .slice a3 m c3] | 8 => own = .bool true | 9 => own = .bool false | _ => True) (fun kx wx => Ext wr wx) (by kernel_rfl) (by kernel_rfl) (by kernel_rfl) ?g0_r1 ?gop_r1 ?gend_r1
      case g0_r1 => exact Ext.drewN _ 1
      case gop_r1 =>
        refine ⟨?_, ?_, ?o2, ?o3, ?_, ?_, ?o6, ?o7, ?o8, ?o9, trivial⟩ <;> (intro kx xs wx hk hG hD hI Qo Kx hK hQo; simp only [patchS, Nat.reduceAdd, Nat.reduceEqDiff, ↓reduceIte] at hQo ⊢)
        case o2 =>
          rw [ddq (hD 0 rfl), ddq (hD 1 rfl)] at hQo ⊢
          clear hD hI
          go_wp2
          exact hK.out _ _ ⟨rfl, hG, kkp⟩
        case o3 =>
          rw [ddq (hD 2 rfl)] at hQo ⊢
          clear hD hI
          have h1' := (cell_ext hG h1)
          have h2' := (cell_ext hG h2)
          have h3' := (cell_ext hG h3)
          have h4' := (cell_ext hG h4)
          have h5' := (cell_ext hG h5)
          go_wp2
          exact hK.out _ _ ⟨rfl, hG, kkp⟩
        case o6 =>
          rw [ddq (hD 4 rfl), ddq (hD 5 rfl)] at hQo ⊢
          clear hD hI
          go_wp2
          exact hK.out _ _ ⟨rfl, hG, kkp⟩
        case o7 =>
          rw [ddq (hD 6 rfl)] at hQo ⊢
          clear hD hI
          have h1' := (cell_ext hG j1)
          have h2' := (cell_ext hG j2)
          have h3' := (cell_ext hG j3)
          have h4' := (cell_ext hG j4)
          have h5' := (cell_ext hG j5)
          go_wp2
          exact hK.out _ _ ⟨rfl, hG, kkp⟩
        case o8 =>
          rw [ddq (hD 3 rfl), ddq (hD 7 rfl)] at hQo ⊢
          clear hD hI
          go_wp2_with fail
          refine (Hcl.out _ hG).mono ?_
          rintro e w4 ⟨rfl, e4⟩
          go_wp2
          exact hK.out _ _ ⟨rfl, hG.trans e4, kkp⟩
        case o9 =>
          rw [ddq (hD 8 rfl)] at hQo ⊢
          clear hD hI
          go_wp2
          exact hK.out _ _ ⟨rfl, hG, kkp⟩
        all_goals
          clear hD hI
          go_wp2
          exact hK.out _ _ ⟨rfl, hG, kkp⟩
      intro xs wx hV hG
      have d0 : _ = _ := hV 0 (by decide)
      have d1 : _ = _ := hV 1 (by decide)
      have d2 : _ = _ := hV 2 (by decide)
      have d3 : _ = _ := hV 3 (by decide)
      have d4 : _ = _ := hV 4 (by decide)
      have d5 : _ = _ := hV 5 (by decide)
      have d6 : _ = _ := hV 6 (by decide)
      have d7 : _ = _ := hV 7 (by decide)
      have d8 : _ = _ := hV 8 (by decide)
      have d9 : _ = _ := hV 9 (by decide)
      clear hV
      simp only [patchS, Nat.reduceAdd, Nat.reduceEqDiff, ↓reduceIte]
      generalize xs 0 = y0, xs 1 = y1, xs 2 = y2, xs 3 = y3, xs 4 = y4, xs 5 = y5, xs 6 = y6, xs 7 = y7, xs 8 = y8, xs 9 = y9 at *
      replace hG : Ext wr wx := hG
      subst d0
      subst d1
      subst d2
      subst d3
      subst d4
      subst d5
      subst d6
      subst d7
      subst d8
      subst d9
      go_wp2
      go_roundw
      case rel => exact ⟨k + 1, by omega, by go_num, E2.trans hG⟩
      case measure => simp [intOf]; omega
    · obtain rfl : k = n := by omega
      go_wp2
      go_ret
      exact ⟨rfl, E2⟩
end Go.Proofs.YtmokncpppmchfaaDoor
