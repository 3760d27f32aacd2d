/- Drawing: the arguments of RowsRead. -/
import Derived.Test.YtlmoeabchiddnaaDoorDo
namespace Go.Proofs.YtlmoeabchiddnaaDoor
open Go.RowKit
set_option maxHeartbeats 1000000
section
variable {P : Program}
theorem results_ctt_row {fn : Func} {p u v : Tmp} {ty : TypeId} (h : fn.results = #[.cell p ty, .tmp u, .tmp v]) (tmps : Array Value) (w : World) (g : Nat) (t : TypeId) (cs : Array Value) (fr : Nat × Nat) (d : TypeDesc)
    (hp : tmps.getD p undef = .pointer (some ⟨g, 0, none⟩)) (hg : w.heap[g]? = some (.cells cs t fr))
    (hu : P.underlying ty = some d) (hd : (match d with | .struct _ | .array _ _ => true | _ => false) = true) (hi : (P.info? ty).map (·.size) = some cs.size) :
    (results fn tmps).run P w = .ok (.tuple #[.agg cs, tmps.getD u undef, tmps.getD v undef]) w := by
  have hp' : tmps[p]?.getD undef = .pointer (some ⟨g, 0, none⟩) := by simpa using hp
  simp [results, h, hp', asAddr, run_loadVar_row w g t ty cs fr d hg hu hd hi, Sem.run_bind, Result.andThen]
end
/-- A block of integers is not the reader's data. -/
theorem RdP.grI {w w' : World} {b P r T : Nat} {zs : List Int} (h : RdP w b P) (i : IB w r T zs) (g : w.grownBy w' (some r)) (hne : r ≠ b) : RdP w' b P := by
  obtain ⟨p, hp, a, m, c, ds, h1, h2, h3, h4, h5⟩ := h
  refine ⟨p, hp, a, m, c, ds, by rw [g.block b (lt_of_block h1) (by simp; omega)]; exact h1, h2, ?_, h4, h5⟩
  by_cases hm : m = 0
  · subst hm
    exact ⟨h3.1, fun i hi => by omega⟩
  · refine h3.grown g (fun x hx e => ?_)
    obtain ⟨b1, o1, h6, h7⟩ := h3.int (show 0 < m by omega)
    rw [hx] at h6
    simp at h6 e
    subst h6
    simp at e
    subst e
    unfold IB at i
    simp [World.cell?, i, ic] at h7
theorem Mac.of {zs : List Int} (h : zs.length = 71) : ∃ m : Mac, m.ok ∧ m.zs = zs := by
  match zs, h with
  | a :: b :: c :: t, h =>
    refine ⟨⟨a, b, c, t.take 4, t.drop 4⟩, ⟨by simp at h ⊢; omega, by simp at h ⊢; omega⟩, ?_⟩
    simp [Mac.zs]
/-- What holds while the arguments of RowsRead are drawn. -/
def RG (w : World) (b P k q : Nat) (wx : World) : Prop := DG w b P 1 k wx ∧ IQ 10000 wx q 33 71 ∧ IQ 10000 wx w.heap.size 33 71 ∧ w.heap.size < b ∧ b < q
theorem RG.step {w wx : World} {b P k q : Nat} (h : RG w b P k q wx) : RG w b P (k + 1) q wx := ⟨h.1.step, h.2⟩
theorem RG.more {w wx wy : World} {b P k q : Nat} (h : RG w b P k q wx) (e : wx.grownBy wy (some b)) (r : RdP wy b (P + k * 1 + 1)) (_ : 1 ≤ 1) : RG w b P (k + 1) q wy := ⟨h.1.more e r (Nat.le_refl _), h.2.1.gr e (by have := h.2.2.2; omega), h.2.2.1.gr e (by have := h.2.2.2; omega), h.2.2.2⟩
theorem RG.drew {w wx : World} {b P k q : Nat} (h : RG w b P k q wx) : RG w b P k q wx.drew := ⟨h.1.drew, h.2.1.ext (Ext.drewN _ 1), h.2.2.1.ext (Ext.drewN _ 1), h.2.2.2⟩
theorem RG.re {w wx : World} {b P k q P' : Nat} (h : RG w b P k q wx) (hP : P + k ≤ P') : RG w b P' 0 q wx := ⟨h.1.reset (by omega) 1, h.2⟩
theorem RG.set {w wx : World} {b P k q : Nat} (h : RG w b P k q wx) (i : Nat) (v : Int) (h1 : -10000 ≤ v) (h2 : v ≤ 10000) : RG w b P k q (wx.setCell ⟨q, i, none⟩ (.int .i64 v)) :=
  ⟨h.1.set (by have := h.2.2.2; omega) h.2.2.2.2, h.2.1.set i v h1 h2, h.2.2.1.set_other (by have := h.2.2.2; omega), h.2.2.2⟩
theorem RG.put {w wx wy : World} {b P k q : Nat} {zs : List Int} (h : RG w b P k q wx) (g : wx.grownBy wy (some w.heap.size)) (p : IB wy w.heap.size 33 zs) (hl : zs.length = 71) (hz : bdI 10000 zs) : RG w b P k q wy := by
  obtain ⟨r0, z1, -⟩ := id h.2.2.1
  exact ⟨⟨gr_new h.1.1 g (Nat.le_refl _), h.1.2.grI z1 g (by have := h.2.2.2; omega)⟩, h.2.1.gr g (by have := h.2.2.2; omega), ⟨zs, p, hl, hz⟩, h.2.2.2⟩
theorem RG.cell {w wx : World} {b P k q : Nat} (h : RG w b P k q wx) {i : Nat} (hi : i < 71) : ∃ v : Int, wx.cell? ⟨q, i, none⟩ = some (.int .i64 v) ∧ wx.frozen? ⟨q, i, none⟩ = false ∧ -10000 ≤ v ∧ v ≤ 10000 := h.2.1.cell hi
theorem RG.lift {w wx : World} {b P k q : Nat} (h : RG w b P k q wx) : Ext w wx := Ext.grown (Below.refl _ _) h.1.1 (fun k hk => by have := h.2.2.2; simp at hk; omega)
theorem IQ.of {B : Int} {w : World} {q T n : Nat} (h : IQ B w q T n) : ∃ zs, IB w q T zs ∧ zs.length = n ∧ bdI B zs := h
set_option maxRecDepth 100000 in
set_option maxHeartbeats 3000000 in
theorem DrawRowsRead_any (a : Option Addr) (c n : Nat) (zs : List Int) (w : World) (hc : n ≤ c) (hc2 : c ≤ 9223372036854775807) (r : Sl w a n (zs.map (Value.int .u8))) (hz : ∀ z ∈ zs, 0 ≤ z ∧ z ≤ 255) :
    Calls Tryd.prog 17 #[.slice a n c] w fun e w' => ∃ (m : Mac) (y h : Int), e = .returned (.tuple #[.agg (ic m.zs), .int .i64 y, .int .i64 h]) ∧ m.ok ∧ 0 ≤ y ∧ y ≤ 100 ∧ 8 ≤ h ∧ h ≤ 32 ∧ Ext w w' := by
  go_enter Tryd.func17, Tryd.ntmps17
  go_wp2_with (refine wpList_iallocz 33 rfl rfl 71 zero_Macz ?_; (try simp only [World.size_alloc]))
  have e0 := Ext.alloc w (.cells (ic (zl 71)) 33)
  have i0 := IB.new w 33 (zl 71)
  refine (open_any a c n zs _ hc hc2 (r.ext e0) hz).mono ?_
  rintro e w1 ⟨b, rfl, rd, e1, hb⟩
  have hrb : w.heap.size < b := by simp at hb; omega
  have D1 : DG w b 0 1 0 w1 := ⟨ext_gr (e0.trans e1), ⟨0, by omega, rd⟩⟩
  have i1 := i0.ext e1
  clear r hz rd hb e0 e1 i0
  go_wp2_with fail
  refine (pick_c b _ 4 _ D1.2 (by omega) (by omega) (by omega)).mono ?_
  rintro e w2 ⟨x2, rfl, x2a, x2b, r2, g2⟩
  have D2 : DG w b 1 1 0 w2 := ⟨grown_trans D1.1 g2, r2.mono (by omega)⟩
  have i2 := i1.gr g2 (by simp; omega)
  clear D1 i1 r2 g2
  go_wp2_with fail
  refine (l20Macro_c b _ false 12 _ D2.2 (by omega) (by omega) (by omega)).mono ?_
  rintro e w3 ⟨ms, rfl, ml, mb, r3, g3⟩
  have Ml := Lib.hid ml
  clear ml
  have hbq : b < w3.heap.size := r3.lt
  have e4 := Ext.alloc w3 (.cells (ic (zl 71)) 33)
  have D4 : DG w b 700 1 0 (w3.alloc (.cells (ic (zl 71)) 33)) := ⟨grown_ext (grown_trans D2.1 g3) e4, (r3.ext e4).mono (by omega)⟩
  have i4 := (i2.gr g3 (by simp; omega)).ext e4
  have q4 := IB.new w3 33 (zl 71)
  clear D2 i2 r3 g3 e4
  obtain ⟨q, hq⟩ : ∃ q, q = w3.heap.size := ⟨_, rfl⟩
  go_wp2_with (first | (refine wpList_iallocz 33 rfl rfl 71 zero_Macz ?_; (try simp only [World.size_alloc])) | (refine wpList_istore 33 _ _ rfl rfl q4 0 71 rfl _ rfl ms rfl size_Macro Ml.out (by simp [zl]) ?_; intro w5 p5 g5; refine Hid.out ?_))
  rw [spl_all (by rw [Ml.out, zl_len])] at p5
  rw [← hq] at q4 p5 g5 hbq ⊢
  have M5 : RG w b 700 0 q w5 := ⟨D4.grq g5 (by omega) hbq, ⟨ms, p5, Ml.out, mb⟩, ⟨zl 71, i4.gr g5 (by simp; omega), zl_len 71, bdI_zero _ _ (by omega)⟩, hrb, hbq⟩
  clear q4 p5 g5 D4 i4 hq mb Ml
  refine Lib.hid ?_
  go_upto_region 4 with fail
  go_cut [5, 6, 7, 23] from 8 (fun s5 s6 p t wz => s5 = .pointer (some ⟨b, 0, none⟩) ∧ s6 = .int .i64 (8 * (1 + x2)) ∧ p = .pointer (some ⟨q, 0, none⟩) ∧ (∃ x : Bool, t = .bool x) ∧ RG w b 701 0 q wz)
  case first =>
    obtain ⟨u0, c0, f0, -⟩ := M5.cell (i := 0) (by omega)
    by_cases hu : u0 = 1
    · subst hu
      go_wp2_with fail
      refine (pick_c b _ 2 _ M5.1.2 (by omega) (by omega) (by omega)).mono ?_
      rintro e w6 ⟨x6, rfl, x6a, x6b, r6, g6⟩
      have M6 := (M5.more g6 r6 (Nat.le_refl _)).re (P' := 701) (by omega)
      clear M5 c0 f0 r6 g6
      go_wp2
      go_meet
      case rel => exact ⟨rfl, rfl, rfl, ⟨_, rfl⟩, M6⟩
    · have hd : (u0 == 1) = false := by simpa using hu
      go_wp2
      go_meet
      case rel => exact ⟨rfl, rfl, rfl, ⟨_, rfl⟩, M5.re (by omega)⟩
  case rest =>
    obtain ⟨rfl, rfl, rfl, ⟨x, rfl⟩, M6⟩ := hcut
    clear M5
    go_upto_if 23 with fail
    go_cut [5, 6, 7] from 8 (fun s5 s6 p wz => s5 = .pointer (some ⟨b, 0, none⟩) ∧ s6 = .int .i64 (8 * (1 + x2)) ∧ p = .pointer (some ⟨q, 0, none⟩) ∧ RG w b 702 0 q wz)
    case first =>
      cases x
      · go_wp2
        go_meet
        case rel => exact ⟨rfl, rfl, rfl, M6.re (by omega)⟩
      · go_wp2_with fail
        refine (pick_c b _ 33 _ M6.1.2 (by omega) (by omega) (by omega)).mono ?_
        rintro e w7 ⟨x7, rfl, x7a, x7b, r7, g7⟩
        have M7 := (M6.more g7 r7 (Nat.le_refl _)).re (P' := 702) (by omega)
        clear M6 r7 g7
        obtain ⟨u2, c2, f2, -⟩ := M7.cell (i := 2) (by omega)
        go_wp2
        go_meet
        case rel => exact ⟨rfl, rfl, rfl, M7.set 2 _ (by omega) (by omega)⟩
    case rest =>
      obtain ⟨rfl, rfl, rfl, M7⟩ := hcut
      clear M6
      go_wp2_with fail
      refine (odd_c b _ 12 _ M7.1.2 (by omega) (by omega) (by omega)).mono ?_
      rintro e w8 ⟨x8, rfl, r8, g8⟩
      have M8 := (M7.more g8 r8 (Nat.le_refl _)).re (P' := 703) (by omega)
      clear M7 r8 g8
      cases x8
      · obtain ⟨zm, z1, z2, z3⟩ := M8.2.1.of
        have Z2 := Lib.hid z2
        clear z2 z1
        go_upto_region 8 with fail
        have hext : ∀ (i : Nat) (own : Value) (ys : Nat → Value) (wa wb : World), wa.grownBy wb (some b) → (match i with | 0 => ∃ zs, own = .agg (ic zs) ∧ zs.length = 71 ∧ bdI 10000 zs | 1 => own = .pointer (some ⟨b, 0, none⟩) | 2 => own = .int .i64 ((8*(1+x2))) | 3 => ∃ x : Int, own = .int .i64 x ∧ 1 ≤ x ∧ x ≤ 4 | 4 => own = .pointer (some ⟨b, 0, none⟩) | 5 => ∃ x : Int, own = .int .i64 x ∧ 0 ≤ x ∧ x < 9 | 6 => ∃ x : Int, own = .int .i64 x ∧ 0 ≤ x ∧ x ≤ 1 | 7 => ∃ x : Int, own = .int .i64 x ∧ 1 ≤ x ∧ x ≤ 5 | 8 => ∃ x : Int, own = .int .i64 x ∧ 0 ≤ x ∧ x < 5 | 9 => ∃ x : Int, own = .int .i64 x ∧ 0 ≤ x ∧ x ≤ 32 | 10 => own = .int .i64 ((8*(1+x2))) | 11 => True | 12 => ∃ x : Int, own = .int .i64 x ∧ 0 ≤ x ∧ x ≤ 32 | 13 => own = .int .i64 ((8*(1+x2))) | _ => True) → (match i with | 0 => ∃ zs, own = .agg (ic zs) ∧ zs.length = 71 ∧ bdI 10000 zs | 1 => own = .pointer (some ⟨b, 0, none⟩) | 2 => own = .int .i64 ((8*(1+x2))) | 3 => ∃ x : Int, own = .int .i64 x ∧ 1 ≤ x ∧ x ≤ 4 | 4 => own = .pointer (some ⟨b, 0, none⟩) | 5 => ∃ x : Int, own = .int .i64 x ∧ 0 ≤ x ∧ x < 9 | 6 => ∃ x : Int, own = .int .i64 x ∧ 0 ≤ x ∧ x ≤ 1 | 7 => ∃ x : Int, own = .int .i64 x ∧ 1 ≤ x ∧ x ≤ 5 | 8 => ∃ x : Int, own = .int .i64 x ∧ 0 ≤ x ∧ x < 5 | 9 => ∃ x : Int, own = .int .i64 x ∧ 0 ≤ x ∧ x ≤ 32 | 10 => own = .int .i64 ((8*(1+x2))) | 11 => True | 12 => ∃ x : Int, own = .int .i64 x ∧ 0 ≤ x ∧ x ≤ 32 | 13 => own = .int .i64 ((8*(1+x2))) | _ => True) := by
          intro i own ys wa wb e h
          match i, h with
          | 0, h => exact h
          | 1, h => exact h
          | 2, h => exact h
          | 3, h => exact h
          | 4, h => exact h
          | 5, h => exact h
          | 6, h => exact h
          | 7, h => exact h
          | 8, h => exact h
          | 9, h => exact h
          | 10, h => exact h
          | 11, h => exact h
          | 12, h => exact h
          | 13, h => exact h
          | _ + 14, _ => trivial
        have Hext := Lib.hid hext
        clear hext
        refine wp_region_inv2 (by kernel_rfl) [(3, 12), (4, 13), (33, 0), (34, 1), (35, 2), (36, 3), (37, 4), (38, 5), (39, 6), (40, 7), (41, 8), (42, 9), (43, 10)] [[], [], [], [2], [], [4], [4, 5], [2, 3, 4, 5, 6], [1, 2, 3, 4, 5, 6, 7], [1, 2, 3, 4, 5, 6, 7, 8], [], [0, 1, 2, 3, 4, 5, 6, 7, 8], [0, 1, 2, 3, 4, 5, 6, 7, 8, 9, 11], [0, 1, 2, 3, 4, 5, 6, 7, 8, 9, 10, 11, 12]] (fun i own ys wx => match i with | 0 => ∃ zs, own = .agg (ic zs) ∧ zs.length = 71 ∧ bdI 10000 zs | 1 => own = .pointer (some ⟨b, 0, none⟩) | 2 => own = .int .i64 ((8*(1+x2))) | 3 => ∃ x : Int, own = .int .i64 x ∧ 1 ≤ x ∧ x ≤ 4 | 4 => own = .pointer (some ⟨b, 0, none⟩) | 5 => ∃ x : Int, own = .int .i64 x ∧ 0 ≤ x ∧ x < 9 | 6 => ∃ x : Int, own = .int .i64 x ∧ 0 ≤ x ∧ x ≤ 1 | 7 => ∃ x : Int, own = .int .i64 x ∧ 1 ≤ x ∧ x ≤ 5 | 8 => ∃ x : Int, own = .int .i64 x ∧ 0 ≤ x ∧ x < 5 | 9 => ∃ x : Int, own = .int .i64 x ∧ 0 ≤ x ∧ x ≤ 32 | 10 => own = .int .i64 ((8*(1+x2))) | 11 => True | 12 => ∃ x : Int, own = .int .i64 x ∧ 0 ≤ x ∧ x ≤ 32 | 13 => own = .int .i64 ((8*(1+x2))) | _ => True) (fun kx wx => RG w b 710 kx q wx) (by kernel_rfl) (by kernel_rfl) (by kernel_rfl) ?g0_r1 ?gop_r1 ?gend_r1
        case g0_r1 => exact (M8.re (P' := 710) (by omega)).drew
        case gop_r1 =>
          refine ⟨?_, ?_, ?_, ?_, ?_, ?_, ?_, ?_, ?_, ?_, ?_, ?_, ?_, ?_, trivial⟩
          · intro kx xs wx hk hG hD hI Qo Kx hK hQo
            clear hD
            clear hI
            simp only [patchS, Nat.reduceAdd, Nat.reduceEqDiff, ↓reduceIte] at hQo ⊢
            obtain ⟨zs, z1, z2, z3⟩ := hG.2.1.of
            have Z2 := Lib.hid z2
            clear z2
            go_wp2_with (refine wpList_iload 33 _ rfl rfl z1 0 71 rfl _ Tryd.underlying33 rfl size_Macro (by rw [Z2.out]; omega) _ (by rw [sub_all _ _ Z2.out]) ?_)
            exact hK.out _ _ ⟨⟨zs, rfl, Z2.out, z3⟩, hG.step, fun _ _ _ _ _ _ h => h⟩
          · intro kx xs wx hk hG hD hI Qo Kx hK hQo
            clear hD
            clear hI
            simp only [patchS, Nat.reduceAdd, Nat.reduceEqDiff, ↓reduceIte] at hQo ⊢
            go_wp2
            exact hK.out _ _ ⟨rfl, hG.step, fun _ _ _ _ _ _ h => h⟩
          · intro kx xs wx hk hG hD hI Qo Kx hK hQo
            clear hD
            clear hI
            simp only [patchS, Nat.reduceAdd, Nat.reduceEqDiff, ↓reduceIte] at hQo ⊢
            go_wp2
            exact hK.out _ _ ⟨rfl, hG.step, fun _ _ _ _ _ _ h => h⟩
          · intro kx xs wx hk hG hD hI Qo Kx hK hQo
            have d2 : (xs 2) = .int .i64 ((8*(1+x2))) := hD 2 rfl
            clear hD
            clear hI
            simp only [patchS, Nat.reduceAdd, Nat.reduceEqDiff, ↓reduceIte] at hQo ⊢
            generalize xs 2 = y2 at *
            subst d2
            go_wp2
            exact hK.out _ _ ⟨⟨_, rfl, by omega, by omega⟩, hG.step, fun _ _ _ _ _ _ h => h⟩
          · intro kx xs wx hk hG hD hI Qo Kx hK hQo
            clear hD
            clear hI
            simp only [patchS, Nat.reduceAdd, Nat.reduceEqDiff, ↓reduceIte] at hQo ⊢
            go_wp2
            exact hK.out _ _ ⟨rfl, hG.step, fun _ _ _ _ _ _ h => h⟩
          · intro kx xs wx hk hG hD hI Qo Kx hK hQo
            have d4 : (xs 4) = .pointer (some ⟨b, 0, none⟩) := hD 4 rfl
            clear hD
            clear hI
            simp only [patchS, Nat.reduceAdd, Nat.reduceEqDiff, ↓reduceIte] at hQo ⊢
            generalize xs 4 = y4 at *
            subst d4
            go_wp2_with fail
            refine (pick_c _ _ _ _ hG.1.2 (DG.small hk (by decide) (by decide) (by omega)) (by omega) (by omega)).mono ?_
            rintro e w4 ⟨xx, rfl, xa, xb, rd, gr⟩
            go_wp2
            exact hK.out _ _ ⟨⟨xx, rfl, xa, by omega⟩, hG.more gr rd (by decide), fun i _ _ _ own ys h => Hext.out i own ys _ _ gr h⟩
          · intro kx xs wx hk hG hD hI Qo Kx hK hQo
            have d5 : ∃ x : Int, (xs 5) = .int .i64 x ∧ 0 ≤ x ∧ x < 9 := hD 5 rfl
            clear hD
            clear hI
            simp only [patchS, Nat.reduceAdd, Nat.reduceEqDiff, ↓reduceIte] at hQo ⊢
            generalize xs 5 = y5 at *
            obtain ⟨x5, rfl, x5a, x5b⟩ := d5
            go_wp2
            exact hK.out _ _ ⟨⟨_, rfl, by omega, by omega⟩, hG.step, fun _ _ _ _ _ _ h => h⟩
          · intro kx xs wx hk hG hD hI Qo Kx hK hQo
            have d3 : ∃ x : Int, (xs 3) = .int .i64 x ∧ 1 ≤ x ∧ x ≤ 4 := hD 3 rfl
            have d6 : ∃ x : Int, (xs 6) = .int .i64 x ∧ 0 ≤ x ∧ x ≤ 1 := hD 6 rfl
            clear hD
            clear hI
            simp only [patchS, Nat.reduceAdd, Nat.reduceEqDiff, ↓reduceIte] at hQo ⊢
            generalize xs 3 = y3 at *
            generalize xs 6 = y6 at *
            obtain ⟨x3, rfl, x3a, x3b⟩ := d3
            obtain ⟨x6, rfl, x6a, x6b⟩ := d6
            go_wp2
            exact hK.out _ _ ⟨⟨_, rfl, by omega, by omega⟩, hG.step, fun _ _ _ _ _ _ h => h⟩
          · intro kx xs wx hk hG hD hI Qo Kx hK hQo
            have d1 : (xs 1) = .pointer (some ⟨b, 0, none⟩) := hD 1 rfl
            have d7 : ∃ x : Int, (xs 7) = .int .i64 x ∧ 1 ≤ x ∧ x ≤ 5 := hD 7 rfl
            clear hD
            clear hI
            simp only [patchS, Nat.reduceAdd, Nat.reduceEqDiff, ↓reduceIte] at hQo ⊢
            generalize xs 1 = y1 at *
            generalize xs 7 = y7 at *
            subst d1
            obtain ⟨x7, rfl, x7a, x7b⟩ := d7
            go_wp2_with fail
            refine (pick_c _ _ _ _ hG.1.2 (DG.small hk (by decide) (by decide) (by omega)) (by omega) (by omega)).mono ?_
            rintro e w4 ⟨xx, rfl, xa, xb, rd, gr⟩
            go_wp2
            exact hK.out _ _ ⟨⟨xx, rfl, xa, by omega⟩, hG.more gr rd (by decide), fun i _ _ _ own ys h => Hext.out i own ys _ _ gr h⟩
          · intro kx xs wx hk hG hD hI Qo Kx hK hQo
            have d8 : ∃ x : Int, (xs 8) = .int .i64 x ∧ 0 ≤ x ∧ x < 5 := hD 8 rfl
            clear hD
            clear hI
            simp only [patchS, Nat.reduceAdd, Nat.reduceEqDiff, ↓reduceIte] at hQo ⊢
            generalize xs 8 = y8 at *
            obtain ⟨x8, rfl, x8a, x8b⟩ := d8
            go_wp2
            exact hK.out _ _ ⟨⟨_, rfl, by omega, by omega⟩, hG.step, fun _ _ _ _ _ _ h => h⟩
          · intro kx xs wx hk hG hD hI Qo Kx hK hQo
            clear hD
            clear hI
            simp only [patchS, Nat.reduceAdd, Nat.reduceEqDiff, ↓reduceIte] at hQo ⊢
            go_wp2
            exact hK.out _ _ ⟨rfl, hG.step, fun _ _ _ _ _ _ h => h⟩
          · intro kx xs wx hk hG hD hI Qo Kx hK hQo
            have d0 : ∃ zs, (xs 0) = .agg (ic zs) ∧ zs.length = 71 ∧ bdI 10000 zs := hD 0 rfl
            clear hD
            clear hI
            simp only [patchS, Nat.reduceAdd, Nat.reduceEqDiff, ↓reduceIte] at hQo ⊢
            generalize xs 0 = y0 at *
            obtain ⟨z0, rfl, z0l, z0b⟩ := d0
            obtain ⟨zs, z1, z2, z3⟩ := hG.2.2.1.of
            have Z2 := Lib.hid z2
            have Z0 := Lib.hid z0l
            clear z2 z0l
            go_wp2_with (refine wpList_istore 33 _ _ rfl rfl z1 0 71 rfl _ rfl z0 rfl size_Macro Z0.out (by rw [Z2.out]; omega) ?_; intro wf pf gf; refine Hid.out ?_); rw [spl_all (by rw [Z0.out, Z2.out])] at pf; refine Lib.hid ?_; go_wp2
            exact hQo undef _ (hK.out _ _ ⟨trivial, hG.step.put gf pf Z0.out z0b, fun _ _ _ _ _ _ h => h⟩)
          · intro kx xs wx hk hG hD hI Qo Kx hK hQo
            have d9 : ∃ x : Int, (xs 9) = .int .i64 x ∧ 0 ≤ x ∧ x ≤ 32 := hD 9 rfl
            clear hD
            clear hI
            simp only [patchS, Nat.reduceAdd, Nat.reduceEqDiff, ↓reduceIte] at hQo ⊢
            generalize xs 9 = y9 at *
            obtain ⟨x9, rfl, x9a, x9b⟩ := d9
            go_wp2
            exact hK.out _ _ ⟨⟨_, rfl, by omega, by omega⟩, hG.step, fun _ _ _ _ _ _ h => h⟩
          · intro kx xs wx hk hG hD hI Qo Kx hK hQo
            have d10 : (xs 10) = .int .i64 ((8*(1+x2))) := hD 10 rfl
            clear hD
            clear hI
            simp only [patchS, Nat.reduceAdd, Nat.reduceEqDiff, ↓reduceIte] at hQo ⊢
            generalize xs 10 = y10 at *
            subst d10
            go_wp2
            exact hK.out _ _ ⟨rfl, hG.step, fun _ _ _ _ _ _ h => h⟩
        clear Hext
        intro xs wx hV hG
        have d0 : ∃ zs, (xs 0) = .agg (ic zs) ∧ zs.length = 71 ∧ bdI 10000 zs := hV 0 (by decide)
        have d1 : (xs 1) = .pointer (some ⟨b, 0, none⟩) := hV 1 (by decide)
        have d2 : (xs 2) = .int .i64 ((8*(1+x2))) := hV 2 (by decide)
        have d3 : ∃ x : Int, (xs 3) = .int .i64 x ∧ 1 ≤ x ∧ x ≤ 4 := hV 3 (by decide)
        have d4 : (xs 4) = .pointer (some ⟨b, 0, none⟩) := hV 4 (by decide)
        have d5 : ∃ x : Int, (xs 5) = .int .i64 x ∧ 0 ≤ x ∧ x < 9 := hV 5 (by decide)
        have d6 : ∃ x : Int, (xs 6) = .int .i64 x ∧ 0 ≤ x ∧ x ≤ 1 := hV 6 (by decide)
        have d7 : ∃ x : Int, (xs 7) = .int .i64 x ∧ 1 ≤ x ∧ x ≤ 5 := hV 7 (by decide)
        have d8 : ∃ x : Int, (xs 8) = .int .i64 x ∧ 0 ≤ x ∧ x < 5 := hV 8 (by decide)
        have d9 : ∃ x : Int, (xs 9) = .int .i64 x ∧ 0 ≤ x ∧ x ≤ 32 := hV 9 (by decide)
        have d10 : (xs 10) = .int .i64 ((8*(1+x2))) := hV 10 (by decide)
        have d12 : ∃ x : Int, (xs 12) = .int .i64 x ∧ 0 ≤ x ∧ x ≤ 32 := hV 12 (by decide)
        have d13 : (xs 13) = .int .i64 ((8*(1+x2))) := hV 13 (by decide)
        clear hV
        simp only [patchS, Nat.reduceAdd, Nat.reduceEqDiff, ↓reduceIte]
        generalize xs 0 = y0 at *
        generalize xs 1 = y1 at *
        generalize xs 2 = y2 at *
        generalize xs 3 = y3 at *
        generalize xs 4 = y4 at *
        generalize xs 5 = y5 at *
        generalize xs 6 = y6 at *
        generalize xs 7 = y7 at *
        generalize xs 8 = y8 at *
        generalize xs 9 = y9 at *
        generalize xs 10 = y10 at *
        generalize xs 11 = y11 at *
        generalize xs 12 = y12 at *
        generalize xs 13 = y13 at *
        replace hG : RG w b 710 14 q wx := hG
        clear d0 d1 d2 d3 d4 d5 d6 d7 d8 d9 d10
        obtain ⟨x12, rfl, x12a, x12b⟩ := d12
        subst d13
        obtain ⟨zf, y1, y2, y3⟩ := hG.2.2.1.of
        obtain ⟨m, hm1, hm2⟩ := Mac.of y2
        go_wp2
        refine bodyPost_ret (results_ctt_row rfl _ _ w.heap.size 33 (ic zf) (0, 0) _ rfl y1 Tryd.underlying33 rfl (by rw [ic_size, y2]; exact size_Macro)) rfl ?_
        exact ⟨m, _, _, by rw [hm2]; rfl, hm1, by omega, by omega, by omega, by omega, hG.lift⟩
      · obtain ⟨zm, z1, z2, z3⟩ := M8.2.1.of
        obtain ⟨zr, s1, s2, s3⟩ := M8.2.2.1.of
        have Z2 := Lib.hid z2
        have S2 := Lib.hid s2
        clear z2 s2
        go_wp2_with (first | (refine wpList_iload 33 _ rfl rfl z1 0 71 rfl _ Tryd.underlying33 rfl size_Macro (by rw [Z2.out]; omega) _ (by rw [sub_all _ _ Z2.out]) ?_) | (refine wpList_istore 33 _ _ rfl rfl s1 0 71 rfl _ rfl zm rfl size_Macro Z2.out (by rw [S2.out]; omega) ?_; intro wf pf gf; refine Hid.out ?_))
        rw [spl_all (by rw [Z2.out, S2.out])] at pf
        have M9 := M8.put gf pf Z2.out z3
        refine Lib.hid ?_
        go_wp2
        obtain ⟨m, hm1, hm2⟩ := Mac.of Z2.out
        refine bodyPost_ret (results_ctt_row rfl _ _ w.heap.size 33 (ic zm) (0, 0) _ rfl pf Tryd.underlying33 rfl (by rw [ic_size, Z2.out]; exact size_Macro)) rfl ?_
        exact ⟨m, _, _, by rw [hm2]; rfl, hm1, by omega, by omega, by omega, by omega, M9.lift⟩
end Go.Proofs.YtlmoeabchiddnaaDoor
