/- RequantizeMacro, both sides. -/
import Derived.Test.YtlmoeabchiddnaaDoorQz
import Derived.Test.YtlmoeabchiddnaaDoorRegl
import Derived.Test.YtlmoeabchiddnaaDoorMd
import Derived.Test.YtlmoeabchiddnaaDoorMe
import Derived.Test.YtlmoeabchiddnaaDoorMu
namespace Go.Proofs.YtlmoeabchiddnaaDoor
open Go.RowKit
set_option maxHeartbeats 1000000
/-- The level for the other index. -/
def rqz (f t : Nat) (l : Int) : Int := qz (dq l f) t
/-- The macroblock with n levels done. -/
def Mac.done (m : Mac) (f t n : Nat) : Mac := { m with lv := mixI (m.lv.map (rqz f t)) m.lv n }
theorem Mac.done_ok {m : Mac} (h : m.ok) (f t n : Nat) : (m.done f t n).ok := ⟨h.modes, mixI_len _ _ _ 64 (by simp [h.lv]) h.lv⟩
theorem Mac.done_zero (m : Mac) (f t : Nat) : m.done f t 0 = m := by simp [Mac.done, mixI_zero]
theorem Mac.set_lv {m : Mac} (h : m.ok) (n : Nat) (v : Int) : m.zs.set (7 + n) v = Mac.zs { m with lv := m.lv.set n v } := by
  have hm := h.modes
  simp only [Mac.zs]
  rw [show 7 + n = (((4 + n) + 1) + 1) + 1 by omega, List.set_cons_succ, List.set_cons_succ, List.set_cons_succ, List.set_append_right _ _ (by omega), hm, show 4 + n - 4 = n by omega]
theorem Mac.done_step {m : Mac} (h : m.ok) (f t n : Nat) (hn : n < 64) : (m.done f t n).zs.set (7 + n) (rqz f t (nth m.lv n)) = (m.done f t (n + 1)).zs := by
  rw [Mac.set_lv (Mac.done_ok h f t n)]
  have e : nth (m.lv.map (rqz f t)) n = rqz f t (nth m.lv n) := by
    have hl : n < m.lv.length := by rw [h.lv]; exact hn
    simp [nth, hl]
  show Mac.zs { m with lv := (mixI (m.lv.map (rqz f t)) m.lv n).set n (rqz f t (nth m.lv n)) } = _
  rw [← e, mixI_set _ _ n 64 (by simp [h.lv]) h.lv hn]
  rfl
theorem nth_mix {xs ys : List Int} {n k j : Nat} (h1 : xs.length = n) (h2 : ys.length = n) (hj : k ≤ j) (hk : j < n) : nth (mixI xs ys k) j = nth ys j := by
  unfold mixI nth
  rw [List.getD_eq_getElem?_getD, List.getElem?_append_right (by simp; omega), List.getElem?_drop, ← List.getD_eq_getElem?_getD]
  congr 1
  simp; omega
theorem Mac.done_nth {m : Mac} (h : m.ok) (f t n j : Nat) (hn : n ≤ j) (hj : j < 64) : nth (m.done f t n).zs (7 + j) = nth m.lv j := by
  rw [Mac.nth_lv (Mac.done_ok h f t n) j hj]
  exact nth_mix (by simp [h.lv]) h.lv hn hj
/-- What holds in a round: the block is as it was until the last operation. -/
def SG (w : World) (p r T N : Nat) (Z Z2 R : List Int) (kx : Nat) (wx : World) : Prop := Ext w wx ∧ IB wx r T R ∧ IB wx p T (if kx < N then Z else Z2)
theorem SG.step {w wx : World} {p r T N : Nat} {Z Z2 R : List Int} {kx : Nat} (h : SG w p r T N Z Z2 R kx wx) (hl : kx + 1 < N) : SG w p r T N Z Z2 R (kx + 1) wx := by
  obtain ⟨h1, h2, h3⟩ := h
  rw [if_pos (by omega)] at h3
  exact ⟨h1, h2, by rw [if_pos hl]; exact h3⟩
theorem SG.ext {w wx wy : World} {p r T N : Nat} {Z Z2 R : List Int} {kx : Nat} (h : SG w p r T N Z Z2 R kx wx) (e : Ext wx wy) : SG w p r T N Z Z2 R kx wy := ⟨h.1.trans e, h.2.1.ext e, h.2.2.ext e⟩
theorem SG.now {w wx : World} {p r T N : Nat} {Z Z2 R : List Int} {kx : Nat} (h : SG w p r T N Z Z2 R kx wx) (hl : kx < N) : IB wx p T Z := by
  have h3 := h.2.2
  rw [if_pos hl] at h3
  exact h3
theorem SG.end {w wx : World} {p r T N : Nat} {Z Z2 R : List Int} (h : SG w p r T N Z Z2 R N wx) : IB wx p T Z2 := by
  have h3 := h.2.2
  rw [if_neg (by omega)] at h3
  exact h3
theorem SG.set {w wx : World} {p r T N : Nat} {Z Z2 R : List Int} {kx i : Nat} {v : Int} (h : SG w p r T N Z Z2 R kx wx) (hl : kx + 1 = N) (hp : w.heap.size ≤ p) (hr : r ≠ p) (hv : Z.set i v = Z2) : SG w p r T N Z Z2 R (kx + 1) (wx.setCell ⟨p, i, none⟩ (.int .i64 v)) := by
  have h4 := h.now (by omega)
  exact ⟨Ext.grown h.1 (gr_set _ _ _ _) (fun q hq => by cases hq; exact hp), h.2.1.set_other hr, by rw [if_neg (by omega), ← hv]; exact h4.set i v⟩
theorem SG.init {w wx : World} {p r T N : Nat} {Z Z2 R : List Int} (h1 : Ext w wx) (h2 : IB wx r T R) (h3 : IB wx p T Z) (hN : 0 < N) : SG w p r T N Z Z2 R 0 wx := ⟨h1, h2, by rw [if_pos hN]; exact h3⟩
theorem zero_Macq : (Tryd.prog.info? 33).map (·.zero) = some (some (.agg (ic (zl 71)))) := by kernel_rfl
set_option maxRecDepth 100000 in
theorem spec_RequantizeMacro_yes (m : Mac) (f t : Nat) (w : World) (hm : m.ok) (hv : m.valid) (hf : f < 16) (ht : t < 16) :
    Calls Tryd.prog 32 #[.agg (ic m.zs), .int .i64 f, .int .i64 t] w fun e w' => e = .returned (.agg (ic (m.done f t 64).zs)) ∧ Ext w w' := by
  have Hl := Lib.hid (Mac.zs_len hm)
  have Hm := Lib.hid hm
  have Hv := Lib.hid hv
  have hlv : ∀ j, j < 64 → -4080 ≤ nth m.lv j ∧ nth m.lv j ≤ 4080 := fun j hj => inB_iff.1 hv.2.2.2.2.2.2 j (by rw [hm.lv]; exact hj)
  have Hlv := Lib.hid hlv
  clear hm hv hlv
  go_enter Tryd.func32, Tryd.ntmps32
  have p0 := (IB.new w 33 m.zs).alloc (.cells (ic (zl 71)) 33)
  have r0 := IB.new (w.alloc (.cells (ic m.zs) 33)) 33 (zl 71)
  have E0 := (Ext.alloc w (.cells (ic m.zs) 33)).trans (Ext.alloc _ (.cells (ic (zl 71)) 33))
  simp only [World.size_alloc] at r0
  go_wp2_with (first | (refine wpList_iallocz 33 rfl rfl 71 zero_Macq ?_; (try simp only [World.size_alloc])) | (refine wpList_iload 33 _ rfl rfl p0 0 71 rfl _ Tryd.underlying33 rfl size_Macro (by rw [Hl.out]; omega) _ (by rw [sub_all _ _ Hl.out]) ?_))
  refine (spec_MacroValid_any m _ Hm.out).mono ?_
  rw [decide_eq_true Hv.out]
  rintro e w1 ⟨rfl, e1⟩
  have p1 := p0.ext e1
  have r1 := r0.ext e1
  have E1 := E0.trans e1
  clear p0 r0 E0 e1
  go_wp2_with fail
  refine (l1In_yes _ _ _ _ (by omega) (by omega)).mono ?_
  rintro e w2 ⟨rfl, rfl⟩
  go_wp2_with fail
  refine (l1In_yes _ _ _ _ (by omega) (by omega)).mono ?_
  rintro e w2 ⟨rfl, rfl⟩
  go_wp2_with fail
  go_loopw [7, 8] (fun i _ wr => ∃ k : Nat, k ≤ 4 ∧ i = .int .i64 k ∧ Ext w wr ∧ IB wr (w.heap.size + 1) 33 (zl 71) ∧ IB wr w.heap.size 33 (m.done f t (k * 16)).zs) (fun i _ _ => 4 - (intOf i).toNat)
  case atStart => exact ⟨0, by omega, rfl, E1, r1, by rw [Nat.zero_mul, Mac.done_zero]; exact p1⟩
  case round =>
    obtain ⟨k, hk, rfl, E2, r2, p2⟩ := hrel
    clear p1 r1 E1
    by_cases hlt : k < 4
    · have hd4 : decide ((k : Int) < 4) = true := by simp; omega
      go_wp2_with fail
      go_loopw [8] (fun j wr2 => ∃ u : Nat, u ≤ 16 ∧ j = .int .i64 u ∧ Ext w wr2 ∧ IB wr2 (w.heap.size + 1) 33 (zl 71) ∧ IB wr2 w.heap.size 33 (m.done f t (k * 16 + u)).zs) (fun j _ => 16 - (intOf j).toNat)
      case atStart => exact ⟨0, by omega, rfl, E2, r2, p2⟩
      case round =>
        obtain ⟨u, hu, rfl, E3, r3, p3⟩ := hrel
        clear E2 r2 p2
        by_cases hlt2 : u < 16
        · have hd16 : decide ((u : Int) < 16) = true := by simp; omega
          have hn : k * 16 + u < 64 := by omega
          obtain ⟨hlo, hhi⟩ := Hlv.out _ hn
          have hz := Mac.done_step Hm.out f t (k * 16 + u) hn
          have hc := p3.cell (i := 7 + (k * 16 + u)) (by rw [Mac.zs_len (Mac.done_ok Hm.out f t _)]; omega)
          rw [Mac.done_nth Hm.out f t _ _ (Nat.le_refl _) hn] at hc
          have hZ := fun (wx : World) (h : IB wx w.heap.size 33 (m.done f t (k * 16 + u)).zs) => h.cell (i := 7 + (k * 16 + u)) (by rw [Mac.zs_len (Mac.done_ok Hm.out f t _)]; omega)
          simp only [Mac.done_nth Hm.out f t _ _ (Nat.le_refl _) hn] at hZ
          have HZ := Lib.hid hZ
          clear hZ hc
          unfold rqz at hz
          have hdr := dq_rng (nth m.lv (k * 16 + u)) f
          generalize nth m.lv (k * 16 + u) = lv at *
          obtain ⟨dv, hdv⟩ : ∃ dv, dv = dq lv f := ⟨_, rfl⟩
          have Hdv := Lib.hid hdv
          rw [← hdv] at hz hdr
          obtain ⟨qv, hqv⟩ : ∃ qv, qv = qz dv t := ⟨_, rfl⟩
          have Hqv := Lib.hid hqv
          rw [← hqv] at hz
          obtain ⟨Z, hZd⟩ : ∃ Z, Z = (m.done f t (k * 16 + u)).zs := ⟨_, rfl⟩
          rw [← hZd] at hz p3 HZ
          obtain ⟨Z2, hZd2⟩ : ∃ Z2, Z2 = (m.done f t (k * 16 + u + 1)).zs := ⟨_, rfl⟩
          rw [← hZd2] at hz
          have HZd2 := Lib.hid hZd2
          have Hz := Lib.hid hz
          clear hZd hZd2 hz hdv hqv
          go_wp2_with fail
          have hext : ∀ (i : Nat) (own : Value) (ys : Nat → Value) (wa wb : World), Ext wa wb → (match i with | 0 => own = .int .i64 k | 1 => own = .int .i64 u | 2 => own = .int .i64 k | 3 => own = .int .i64 u | 4 => own = .pointer (some ⟨w.heap.size, 7, none⟩) | 5 => own = .pointer (some ⟨w.heap.size, 7 + k * 16, none⟩) | 6 => own = .pointer (some ⟨w.heap.size, 7 + k * 16 + u, none⟩) | 7 => own = .int .i64 lv | 8 => own = .int .i64 f | 9 => own = .int .i64 dv | 10 => own = .int .i64 t | 11 => own = .int .i64 qv | 12 => own = .pointer (some ⟨w.heap.size, 7, none⟩) | 13 => own = .pointer (some ⟨w.heap.size, 7 + k * 16, none⟩) | 14 => own = .pointer (some ⟨w.heap.size, 7 + k * 16 + u, none⟩) | 15 => True | _ => True) → (match i with | 0 => own = .int .i64 k | 1 => own = .int .i64 u | 2 => own = .int .i64 k | 3 => own = .int .i64 u | 4 => own = .pointer (some ⟨w.heap.size, 7, none⟩) | 5 => own = .pointer (some ⟨w.heap.size, 7 + k * 16, none⟩) | 6 => own = .pointer (some ⟨w.heap.size, 7 + k * 16 + u, none⟩) | 7 => own = .int .i64 lv | 8 => own = .int .i64 f | 9 => own = .int .i64 dv | 10 => own = .int .i64 t | 11 => own = .int .i64 qv | 12 => own = .pointer (some ⟨w.heap.size, 7, none⟩) | 13 => own = .pointer (some ⟨w.heap.size, 7 + k * 16, none⟩) | 14 => own = .pointer (some ⟨w.heap.size, 7 + k * 16 + u, none⟩) | 15 => True | _ => True) := by
            intro i own ys wa wb e h
            match i, h with
            | 0, h => exact h
            | 1, h => exact h
            | 2, h => exact h
            | 3, h => exact h
            | 4, h => exact h
            | 5, h => exact h
            | 6, h => exact h
            | 7, h => exact h
            | 8, h => exact h
            | 9, h => exact h
            | 10, h => exact h
            | 11, h => exact h
            | 12, h => exact h
            | 13, h => exact h
            | 14, h => exact h
            | 15, h => exact h
            | _ + 16, _ => trivial
          have Hext := Lib.hid hext
          clear hext
          refine wp_region_inv2l 16 (by kernel_rfl) rfl [(31, 0), (32, 1), (33, 2), (34, 3), (35, 4), (36, 5), (37, 6), (38, 7), (39, 8), (40, 9), (41, 10), (42, 11), (43, 12), (44, 13), (45, 14)] [[], [], [], [], [], [2, 4], [2, 3, 4, 5], [2, 3, 4, 5, 6], [], [2, 3, 4, 5, 6, 7, 8], [], [2, 3, 4, 5, 6, 7, 8, 9, 10], [], [0, 12], [0, 1, 2, 3, 4, 5, 6, 7, 8, 9, 10, 11, 12, 13], [0, 1, 2, 3, 4, 5, 6, 7, 8, 9, 10, 11, 12, 13, 14]] (fun i own ys wx => match i with | 0 => own = .int .i64 k | 1 => own = .int .i64 u | 2 => own = .int .i64 k | 3 => own = .int .i64 u | 4 => own = .pointer (some ⟨w.heap.size, 7, none⟩) | 5 => own = .pointer (some ⟨w.heap.size, 7 + k * 16, none⟩) | 6 => own = .pointer (some ⟨w.heap.size, 7 + k * 16 + u, none⟩) | 7 => own = .int .i64 lv | 8 => own = .int .i64 f | 9 => own = .int .i64 dv | 10 => own = .int .i64 t | 11 => own = .int .i64 qv | 12 => own = .pointer (some ⟨w.heap.size, 7, none⟩) | 13 => own = .pointer (some ⟨w.heap.size, 7 + k * 16, none⟩) | 14 => own = .pointer (some ⟨w.heap.size, 7 + k * 16 + u, none⟩) | 15 => True | _ => True) (fun kx wx => SG w w.heap.size (w.heap.size + 1) 33 16 Z Z2 (zl 71) kx wx) (by kernel_rfl) (by kernel_rfl) (by kernel_rfl) ?g0_r1 ?gop_r1 ?gend_r1
          case g0_r1 => exact (SG.init E3 r3 p3 (by omega)).ext (Ext.drewN _ 1)
          case gop_r1 =>
            refine ⟨?_, ?_, ?_, ?_, ?_, ?_, ?_, ?_, ?_, ?_, ?_, ?_, ?_, ?_, ?_, ?_, trivial⟩
            · intro kx xs wx hk hG hD hI hl hf Qo Kx hK hQo
              replace hl : kx + 1 < 16 := hl 15 (by decide) (by decide)
              clear hf
              clear hD
              clear hI
              simp only [patchS, Nat.reduceAdd, Nat.reduceEqDiff, ↓reduceIte] at hQo ⊢
              go_wp2
              exact hK.out _ _ ⟨rfl, hG.step hl, fun _ _ _ _ _ _ h => h⟩
            · intro kx xs wx hk hG hD hI hl hf Qo Kx hK hQo
              replace hl : kx + 1 < 16 := hl 15 (by decide) (by decide)
              clear hf
              clear hD
              clear hI
              simp only [patchS, Nat.reduceAdd, Nat.reduceEqDiff, ↓reduceIte] at hQo ⊢
              go_wp2
              exact hK.out _ _ ⟨rfl, hG.step hl, fun _ _ _ _ _ _ h => h⟩
            · intro kx xs wx hk hG hD hI hl hf Qo Kx hK hQo
              replace hl : kx + 1 < 16 := hl 15 (by decide) (by decide)
              clear hf
              clear hD
              clear hI
              simp only [patchS, Nat.reduceAdd, Nat.reduceEqDiff, ↓reduceIte] at hQo ⊢
              go_wp2
              exact hK.out _ _ ⟨rfl, hG.step hl, fun _ _ _ _ _ _ h => h⟩
            · intro kx xs wx hk hG hD hI hl hf Qo Kx hK hQo
              replace hl : kx + 1 < 16 := hl 15 (by decide) (by decide)
              clear hf
              clear hD
              clear hI
              simp only [patchS, Nat.reduceAdd, Nat.reduceEqDiff, ↓reduceIte] at hQo ⊢
              go_wp2
              exact hK.out _ _ ⟨rfl, hG.step hl, fun _ _ _ _ _ _ h => h⟩
            · intro kx xs wx hk hG hD hI hl hf Qo Kx hK hQo
              replace hl : kx + 1 < 16 := hl 15 (by decide) (by decide)
              clear hf
              clear hD
              clear hI
              simp only [patchS, Nat.reduceAdd, Nat.reduceEqDiff, ↓reduceIte] at hQo ⊢
              go_wp2
              exact hK.out _ _ ⟨rfl, hG.step hl, fun _ _ _ _ _ _ h => h⟩
            · intro kx xs wx hk hG hD hI hl hf Qo Kx hK hQo
              replace hl : kx + 1 < 16 := hl 15 (by decide) (by decide)
              clear hf
              have d2 : (xs 2) = .int .i64 k := hD 2 rfl
              have d4 : (xs 4) = .pointer (some ⟨w.heap.size, 7, none⟩) := hD 4 rfl
              clear hD
              clear hI
              simp only [patchS, Nat.reduceAdd, Nat.reduceEqDiff, ↓reduceIte] at hQo ⊢
              generalize xs 2 = y2 at *
              generalize xs 4 = y4 at *
              subst d2
              subst d4
              go_wp2
              exact hK.out _ _ ⟨rfl, hG.step hl, fun _ _ _ _ _ _ h => h⟩
            · intro kx xs wx hk hG hD hI hl hf Qo Kx hK hQo
              replace hl : kx + 1 < 16 := hl 15 (by decide) (by decide)
              clear hf
              have d3 : (xs 3) = .int .i64 u := hD 3 rfl
              have d5 : (xs 5) = .pointer (some ⟨w.heap.size, 7 + k * 16, none⟩) := hD 5 rfl
              clear hD
              clear hI
              simp only [patchS, Nat.reduceAdd, Nat.reduceEqDiff, ↓reduceIte] at hQo ⊢
              generalize xs 3 = y3 at *
              generalize xs 5 = y5 at *
              subst d3
              subst d5
              go_wp2
              exact hK.out _ _ ⟨rfl, hG.step hl, fun _ _ _ _ _ _ h => h⟩
            · intro kx xs wx hk hG hD hI hl hf Qo Kx hK hQo
              replace hl : kx + 1 < 16 := hl 15 (by decide) (by decide)
              clear hf
              have d6 : (xs 6) = .pointer (some ⟨w.heap.size, 7 + k * 16 + u, none⟩) := hD 6 rfl
              clear hD
              clear hI
              simp only [patchS, Nat.reduceAdd, Nat.reduceEqDiff, ↓reduceIte] at hQo ⊢
              generalize xs 6 = y6 at *
              subst d6
              have hc := HZ.out wx (hG.now (by omega))
              rw [← Nat.add_assoc] at hc
              go_wp2
              exact hK.out _ _ ⟨rfl, hG.step hl, fun _ _ _ _ _ _ h => h⟩
            · intro kx xs wx hk hG hD hI hl hf Qo Kx hK hQo
              replace hl : kx + 1 < 16 := hl 15 (by decide) (by decide)
              clear hf
              clear hD
              clear hI
              simp only [patchS, Nat.reduceAdd, Nat.reduceEqDiff, ↓reduceIte] at hQo ⊢
              go_wp2
              exact hK.out _ _ ⟨rfl, hG.step hl, fun _ _ _ _ _ _ h => h⟩
            · intro kx xs wx hk hG hD hI hl hf Qo Kx hK hQo
              replace hl : kx + 1 < 16 := hl 15 (by decide) (by decide)
              clear hf
              have d7 : (xs 7) = .int .i64 lv := hD 7 rfl
              have d8 : (xs 8) = .int .i64 f := hD 8 rfl
              clear hD
              clear hI
              simp only [patchS, Nat.reduceAdd, Nat.reduceEqDiff, ↓reduceIte] at hQo ⊢
              generalize xs 7 = y7 at *
              generalize xs 8 = y8 at *
              subst d7
              subst d8
              go_wp2_with fail
              refine (spec_Dequantize_in lv f _ hlo hhi hf).mono ?_
              rintro e w4 ⟨rfl, e4⟩
              rw [← Hdv.out]
              go_wp2
              exact hK.out _ _ ⟨rfl, (hG.ext e4).step hl, fun i _ _ _ own ys h => Hext.out i own ys _ _ e4 h⟩
            · intro kx xs wx hk hG hD hI hl hf Qo Kx hK hQo
              replace hl : kx + 1 < 16 := hl 15 (by decide) (by decide)
              clear hf
              clear hD
              clear hI
              simp only [patchS, Nat.reduceAdd, Nat.reduceEqDiff, ↓reduceIte] at hQo ⊢
              go_wp2
              exact hK.out _ _ ⟨rfl, hG.step hl, fun _ _ _ _ _ _ h => h⟩
            · intro kx xs wx hk hG hD hI hl hf Qo Kx hK hQo
              replace hl : kx + 1 < 16 := hl 15 (by decide) (by decide)
              clear hf
              have d9 : (xs 9) = .int .i64 dv := hD 9 rfl
              have d10 : (xs 10) = .int .i64 t := hD 10 rfl
              clear hD
              clear hI
              simp only [patchS, Nat.reduceAdd, Nat.reduceEqDiff, ↓reduceIte] at hQo ⊢
              generalize xs 9 = y9 at *
              generalize xs 10 = y10 at *
              subst d9
              subst d10
              go_wp2_with fail
              refine (spec_Quantize_in dv t _ hdr.1 hdr.2 ht).mono ?_
              rintro e w4 ⟨rfl, e4⟩
              rw [← Hqv.out]
              go_wp2
              exact hK.out _ _ ⟨rfl, (hG.ext e4).step hl, fun i _ _ _ own ys h => Hext.out i own ys _ _ e4 h⟩
            · intro kx xs wx hk hG hD hI hl hf Qo Kx hK hQo
              replace hl : kx + 1 < 16 := hl 15 (by decide) (by decide)
              clear hf
              clear hD
              clear hI
              simp only [patchS, Nat.reduceAdd, Nat.reduceEqDiff, ↓reduceIte] at hQo ⊢
              go_wp2
              exact hK.out _ _ ⟨rfl, hG.step hl, fun _ _ _ _ _ _ h => h⟩
            · intro kx xs wx hk hG hD hI hl hf Qo Kx hK hQo
              replace hl : kx + 1 < 16 := hl 15 (by decide) (by decide)
              clear hf
              have d0 : (xs 0) = .int .i64 k := hD 0 rfl
              have d12 : (xs 12) = .pointer (some ⟨w.heap.size, 7, none⟩) := hD 12 rfl
              clear hD
              clear hI
              simp only [patchS, Nat.reduceAdd, Nat.reduceEqDiff, ↓reduceIte] at hQo ⊢
              generalize xs 0 = y0 at *
              generalize xs 12 = y12 at *
              subst d0
              subst d12
              go_wp2
              exact hK.out _ _ ⟨rfl, hG.step hl, fun _ _ _ _ _ _ h => h⟩
            · intro kx xs wx hk hG hD hI hl hf Qo Kx hK hQo
              replace hl : kx + 1 < 16 := hl 15 (by decide) (by decide)
              clear hf
              have d1 : (xs 1) = .int .i64 u := hD 1 rfl
              have d13 : (xs 13) = .pointer (some ⟨w.heap.size, 7 + k * 16, none⟩) := hD 13 rfl
              clear hD
              clear hI
              simp only [patchS, Nat.reduceAdd, Nat.reduceEqDiff, ↓reduceIte] at hQo ⊢
              generalize xs 1 = y1 at *
              generalize xs 13 = y13 at *
              subst d1
              subst d13
              go_wp2
              exact hK.out _ _ ⟨rfl, hG.step hl, fun _ _ _ _ _ _ h => h⟩
            · intro kx xs wx hk hG hD hI hl hf Qo Kx hK hQo
              clear hl
              replace hl : kx + 1 = 16 := hf (by decide)
              clear hf
              have d11 : (xs 11) = .int .i64 qv := hD 11 rfl
              have d14 : (xs 14) = .pointer (some ⟨w.heap.size, 7 + k * 16 + u, none⟩) := hD 14 rfl
              clear hD
              clear hI
              simp only [patchS, Nat.reduceAdd, Nat.reduceEqDiff, ↓reduceIte] at hQo ⊢
              generalize xs 11 = y11 at *
              generalize xs 14 = y14 at *
              subst d11
              subst d14
              have hc := HZ.out wx (hG.now (by omega))
              have hfr := (hG.now (by omega)).frozen (7 + k * 16 + u)
              rw [← Nat.add_assoc] at hc
              go_wp2
              exact hQo undef _ (hK.out _ _ ⟨trivial, hG.set hl (Nat.le_refl _) (by omega) (by rw [← Hz.out, ← Nat.add_assoc]), fun _ _ _ _ _ _ h => h⟩)
          clear Hext
          intro xs wx hV hG
          have d0 : (xs 0) = .int .i64 k := hV 0 (by decide)
          have d1 : (xs 1) = .int .i64 u := hV 1 (by decide)
          have d2 : (xs 2) = .int .i64 k := hV 2 (by decide)
          have d3 : (xs 3) = .int .i64 u := hV 3 (by decide)
          have d4 : (xs 4) = .pointer (some ⟨w.heap.size, 7, none⟩) := hV 4 (by decide)
          have d5 : (xs 5) = .pointer (some ⟨w.heap.size, 7 + k * 16, none⟩) := hV 5 (by decide)
          have d6 : (xs 6) = .pointer (some ⟨w.heap.size, 7 + k * 16 + u, none⟩) := hV 6 (by decide)
          have d7 : (xs 7) = .int .i64 lv := hV 7 (by decide)
          have d8 : (xs 8) = .int .i64 f := hV 8 (by decide)
          have d9 : (xs 9) = .int .i64 dv := hV 9 (by decide)
          have d10 : (xs 10) = .int .i64 t := hV 10 (by decide)
          have d11 : (xs 11) = .int .i64 qv := hV 11 (by decide)
          have d12 : (xs 12) = .pointer (some ⟨w.heap.size, 7, none⟩) := hV 12 (by decide)
          have d13 : (xs 13) = .pointer (some ⟨w.heap.size, 7 + k * 16, none⟩) := hV 13 (by decide)
          have d14 : (xs 14) = .pointer (some ⟨w.heap.size, 7 + k * 16 + u, none⟩) := hV 14 (by decide)
          clear hV
          simp only [patchS, Nat.reduceAdd, Nat.reduceEqDiff, ↓reduceIte]
          generalize xs 0 = y0 at *
          generalize xs 1 = y1 at *
          generalize xs 2 = y2 at *
          generalize xs 3 = y3 at *
          generalize xs 4 = y4 at *
          generalize xs 5 = y5 at *
          generalize xs 6 = y6 at *
          generalize xs 7 = y7 at *
          generalize xs 8 = y8 at *
          generalize xs 9 = y9 at *
          generalize xs 10 = y10 at *
          generalize xs 11 = y11 at *
          generalize xs 12 = y12 at *
          generalize xs 13 = y13 at *
          generalize xs 14 = y14 at *
          generalize xs 15 = y15 at *
          replace hG : SG w w.heap.size (w.heap.size + 1) 33 16 Z Z2 (zl 71) 16 wx := hG
          clear d1 d2 d3 d4 d5 d6 d7 d8 d9 d10 d11 d12 d13 d14
          subst d0
          have E4 := hG.1
          have r4 := hG.2.1
          have p4 := hG.end
          rw [HZd2.out] at p4
          go_wp2
          go_roundw
          case rel => exact ⟨u + 1, by omega, by go_num, E4, r4, p4⟩
          case measure => simp [intOf]; omega
        · obtain rfl : u = 16 := by omega
          go_wp2
          go_roundw
          case rel => exact ⟨k + 1, by omega, by go_num, E3, r3, by rw [Nat.succ_mul]; exact p3⟩
          case measure => simp [intOf]; omega
    · obtain rfl : k = 4 := by omega
      have Hl2 := Lib.hid (Mac.zs_len (Mac.done_ok Hm.out f t 64))
      have p3 : IB wr w.heap.size 33 (m.done f t 64).zs := p2
      clear p2
      obtain ⟨ZF, hZF⟩ : ∃ ZF, ZF = (m.done f t 64).zs := ⟨_, rfl⟩
      rw [← hZF] at Hl2 p3
      have HZF := Lib.hid hZF
      clear hZF
      go_wp2_with (first | (refine wpList_iload 33 _ rfl rfl p3 0 71 rfl _ Tryd.underlying33 rfl size_Macro (by rw [Hl2.out]; omega) _ (by rw [sub_all _ _ Hl2.out]) ?_) | (refine wpList_istore 33 _ _ rfl rfl r2 0 71 rfl _ rfl ZF rfl size_Macro Hl2.out (by simp [zl]) ?_; intro wf pf gf; refine Hid.out ?_))
      rw [spl_all (by rw [Hl2.out, zl_len])] at pf
      have Ef : Ext w wf := Ext.grown E2 gf (fun q hq => by cases hq; omega)
      refine Lib.hid ?_
      go_wp2
      exact bodyPost_ret (v := .agg (ic ZF)) (results_cell_row rfl _ _ (w.heap.size + 1) 33 (ic ZF) (0, 0) _ rfl pf Tryd.underlying33 rfl (by rw [ic_size, Hl2.out]; exact size_Macro)) rfl ⟨by rw [HZF.out], Ef⟩
theorem zero_Macc : Tryd.zeroCells33 = ic (zl 71) := by kernel_rfl
set_option maxRecDepth 100000 in
theorem spec_RequantizeMacro_noM (m : Mac) (f t : Int) (w : World) (hm : m.ok) (hv : ¬ m.valid) :
    Calls Tryd.prog 32 #[.agg (ic m.zs), .int .i64 f, .int .i64 t] w fun e w' => e = .returned (.agg (ic (zl 71))) ∧ Ext w w' := by
  have Hl := Lib.hid (Mac.zs_len hm)
  have Hm := Lib.hid hm
  have Hv := Lib.hid hv
  clear hm hv
  go_enter Tryd.func32, Tryd.ntmps32
  have p0 := (IB.new w 33 m.zs).alloc (.cells (ic (zl 71)) 33)
  have r0 := IB.new (w.alloc (.cells (ic m.zs) 33)) 33 (zl 71)
  have E0 := (Ext.alloc w (.cells (ic m.zs) 33)).trans (Ext.alloc _ (.cells (ic (zl 71)) 33))
  simp only [World.size_alloc] at r0
  go_wp2_with (first | (refine wpList_iallocz 33 rfl rfl 71 zero_Macq ?_; (try simp only [World.size_alloc])) | (refine wpList_iload 33 _ rfl rfl p0 0 71 rfl _ Tryd.underlying33 rfl size_Macro (by rw [Hl.out]; omega) _ (by rw [sub_all _ _ Hl.out]) ?_))
  refine (spec_MacroValid_any m _ Hm.out).mono ?_
  rw [decide_eq_false Hv.out]
  rintro e w1 ⟨rfl, e1⟩
  have r1 := r0.ext e1
  have E1 := E0.trans e1
  clear p0 r0 E0 e1
  go_wp2_with (refine wpList_istore 33 _ _ rfl rfl r1 0 71 rfl _ rfl (zl 71) zero_Macc.symm.symm size_Macro (zl_len 71) (by simp [zl]) ?_; intro wf pf gf; refine Hid.out ?_)
  rw [spl_all (by rw [zl_len])] at pf
  have Ef : Ext w wf := Ext.grown E1 gf (fun q hq => by cases hq; omega)
  refine Lib.hid ?_
  go_wp2
  exact bodyPost_ret (v := .agg (ic (zl 71))) (results_cell_row rfl _ _ (w.heap.size + 1) 33 (ic (zl 71)) (0, 0) _ rfl pf Tryd.underlying33 rfl (by rw [ic_size, zl_len]; exact size_Macro)) rfl ⟨rfl, Ef⟩
set_option maxRecDepth 100000 in
theorem spec_RequantizeMacro_noF (m : Mac) (f t : Int) (w : World) (hm : m.ok) (hv : m.valid) (hf : f < 0 ∨ 15 < f) :
    Calls Tryd.prog 32 #[.agg (ic m.zs), .int .i64 f, .int .i64 t] w fun e w' => e = .returned (.agg (ic (zl 71))) ∧ Ext w w' := by
  have Hl := Lib.hid (Mac.zs_len hm)
  have Hm := Lib.hid hm
  have Hv := Lib.hid hv
  clear hm hv
  go_enter Tryd.func32, Tryd.ntmps32
  have p0 := (IB.new w 33 m.zs).alloc (.cells (ic (zl 71)) 33)
  have r0 := IB.new (w.alloc (.cells (ic m.zs) 33)) 33 (zl 71)
  have E0 := (Ext.alloc w (.cells (ic m.zs) 33)).trans (Ext.alloc _ (.cells (ic (zl 71)) 33))
  simp only [World.size_alloc] at r0
  go_wp2_with (first | (refine wpList_iallocz 33 rfl rfl 71 zero_Macq ?_; (try simp only [World.size_alloc])) | (refine wpList_iload 33 _ rfl rfl p0 0 71 rfl _ Tryd.underlying33 rfl size_Macro (by rw [Hl.out]; omega) _ (by rw [sub_all _ _ Hl.out]) ?_))
  refine (spec_MacroValid_any m _ Hm.out).mono ?_
  rw [decide_eq_true Hv.out]
  rintro e w1 ⟨rfl, e1⟩
  have r1 := r0.ext e1
  have E1 := E0.trans e1
  clear p0 r0 E0 e1
  go_wp2_with fail
  refine (l1In_no _ _ _ _ (by omega)).mono ?_
  rintro e w2 ⟨rfl, rfl⟩
  go_wp2_with (refine wpList_istore 33 _ _ rfl rfl r1 0 71 rfl _ rfl (zl 71) zero_Macc.symm.symm size_Macro (zl_len 71) (by simp [zl]) ?_; intro wf pf gf; refine Hid.out ?_)
  rw [spl_all (by rw [zl_len])] at pf
  have Ef : Ext w wf := Ext.grown E1 gf (fun q hq => by cases hq; omega)
  refine Lib.hid ?_
  go_wp2
  exact bodyPost_ret (v := .agg (ic (zl 71))) (results_cell_row rfl _ _ (w.heap.size + 1) 33 (ic (zl 71)) (0, 0) _ rfl pf Tryd.underlying33 rfl (by rw [ic_size, zl_len]; exact size_Macro)) rfl ⟨rfl, Ef⟩
set_option maxRecDepth 100000 in
theorem spec_RequantizeMacro_noT (m : Mac) (f t : Int) (w : World) (hm : m.ok) (hv : m.valid) (hf : 0 ≤ f) (hf1 : f ≤ 15) (ht : t < 0 ∨ 15 < t) :
    Calls Tryd.prog 32 #[.agg (ic m.zs), .int .i64 f, .int .i64 t] w fun e w' => e = .returned (.agg (ic (zl 71))) ∧ Ext w w' := by
  have Hl := Lib.hid (Mac.zs_len hm)
  have Hm := Lib.hid hm
  have Hv := Lib.hid hv
  clear hm hv
  go_enter Tryd.func32, Tryd.ntmps32
  have p0 := (IB.new w 33 m.zs).alloc (.cells (ic (zl 71)) 33)
  have r0 := IB.new (w.alloc (.cells (ic m.zs) 33)) 33 (zl 71)
  have E0 := (Ext.alloc w (.cells (ic m.zs) 33)).trans (Ext.alloc _ (.cells (ic (zl 71)) 33))
  simp only [World.size_alloc] at r0
  go_wp2_with (first | (refine wpList_iallocz 33 rfl rfl 71 zero_Macq ?_; (try simp only [World.size_alloc])) | (refine wpList_iload 33 _ rfl rfl p0 0 71 rfl _ Tryd.underlying33 rfl size_Macro (by rw [Hl.out]; omega) _ (by rw [sub_all _ _ Hl.out]) ?_))
  refine (spec_MacroValid_any m _ Hm.out).mono ?_
  rw [decide_eq_true Hv.out]
  rintro e w1 ⟨rfl, e1⟩
  have r1 := r0.ext e1
  have E1 := E0.trans e1
  clear p0 r0 E0 e1
  go_wp2_with fail
  refine (l1In_yes _ _ _ _ (by omega) (by omega)).mono ?_
  rintro e w2 ⟨rfl, rfl⟩
  go_wp2_with fail
  refine (l1In_no _ _ _ _ (by omega)).mono ?_
  rintro e w2 ⟨rfl, rfl⟩
  go_wp2_with (refine wpList_istore 33 _ _ rfl rfl r1 0 71 rfl _ rfl (zl 71) zero_Macc.symm.symm size_Macro (zl_len 71) (by simp [zl]) ?_; intro wf pf gf; refine Hid.out ?_)
  rw [spl_all (by rw [zl_len])] at pf
  have Ef : Ext w wf := Ext.grown E1 gf (fun q hq => by cases hq; omega)
  refine Lib.hid ?_
  go_wp2
  exact bodyPost_ret (v := .agg (ic (zl 71))) (results_cell_row rfl _ _ (w.heap.size + 1) 33 (ic (zl 71)) (0, 0) _ rfl pf Tryd.underlying33 rfl (by rw [ic_size, zl_len]; exact size_Macro)) rfl ⟨rfl, Ef⟩
end Go.Proofs.YtlmoeabchiddnaaDoor
