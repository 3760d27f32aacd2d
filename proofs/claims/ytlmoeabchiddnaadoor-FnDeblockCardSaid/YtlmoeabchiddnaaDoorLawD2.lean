/- FnDeblock: fine pictures are not filtered; the walk of the law. -/
import Derived.Test.YtlmoeabchiddnaaDoorPe
import Derived.Test.YtlmoeabchiddnaaDoorDj
import Derived.Test.YtlmoeabchiddnaaDoorV
namespace Go.Proofs.YtlmoeabchiddnaaDoor
open Go.RowKit
set_option maxHeartbeats 1000000
theorem byte_rangeD {L : List Int} (h : ∀ z ∈ L, (Lit.int .u8 z).wf = true) : ∀ z ∈ L, 0 ≤ z ∧ z ≤ 255 := by
  intro z hz
  have := h z hz
  simp [Lit.wf, IntKind.min, IntKind.max, IntKind.signed, IntKind.bits] at this
  exact ⟨by omega, by omega⟩
theorem samePicture_same (x y : Int) (a b : Option Addr) (c d n : Nat) (xs : List Int) (w : World) (hn : n < 2^45) (r1 : Sl w a n (xs.map (Value.int .i64))) (r2 : Sl w b n (xs.map (Value.int .i64))) :
    Calls Tryd.prog 28 #[.agg #[.int .i64 x, .int .i64 y, .slice a n c], .agg #[.int .i64 x, .int .i64 y, .slice b n d]] w fun e w' => e = .returned (.bool true) ∧ Ext w w' := by
  go_enter Tryd.func28, Tryd.ntmps28
  go_wp2_with fail
  refine (sameInts_any a b c d n n xs xs _ (by omega) (by omega) (r1.ext (by (repeat (first | with_reducible exact Below.refl _ _ | assumption | with_reducible refine below_drewN ?_ _ | with_reducible refine Below.drew ?_ | with_reducible refine Below.setCell ?_ (by simp <;> omega) _ | with_reducible refine Ext.trans ?_ (Ext.alloc _ _))))) (r2.ext (by (repeat (first | with_reducible exact Below.refl _ _ | assumption | with_reducible refine below_drewN ?_ _ | with_reducible refine Below.drew ?_ | with_reducible refine Below.setCell ?_ (by simp <;> omega) _ | with_reducible refine Ext.trans ?_ (Ext.alloc _ _)))))).mono ?_
  rintro e w1 ⟨he, m, rfl⟩
  rw [decide_eq_true rfl] at he
  subst he
  go_wp2
  go_ret
  refine ⟨rfl, ?_⟩
  (repeat (first | with_reducible exact Below.refl _ _ | assumption | with_reducible refine below_drewN ?_ _ | with_reducible refine Below.drew ?_ | with_reducible refine Below.setCell ?_ (by simp <;> omega) _ | with_reducible refine Ext.trans ?_ (Ext.alloc _ _)))
theorem samePicture_eqv (x y x' y' : Int) (hx : x = x') (hy : y = y') (a b : Option Addr) (c d n : Nat) (xs : List Int) (w : World) (hn : n < 2^45) (r1 : Sl w a n (xs.map (Value.int .i64))) (r2 : Sl w b n (xs.map (Value.int .i64))) :
    Calls Tryd.prog 28 #[.agg #[.int .i64 x, .int .i64 y, .slice a n c], .agg #[.int .i64 x', .int .i64 y', .slice b n d]] w fun e w' => e = .returned (.bool true) ∧ Ext w w' := by
  subst hx hy
  exact samePicture_same x y a b c d n xs w hn r1 r2
/-- The filtered picture of a valid one is valid. -/
theorem dbPic_valid {p : Pic} {q : Int} (hv : p.valid) (hq : 0 ≤ q ∧ q ≤ 15) : (dbPic p q).valid := by
  unfold dbPic
  rw [if_pos ⟨hv, hq⟩]
  obtain ⟨h1, h2, h3, h4⟩ := hv
  have hw := h1.1
  have hh := h2.1
  refine ⟨h1, h2, by simpa [dbL_len] using h3, dbL_smp h4 ?_⟩
  have hl : p.px.length = p.w.toNat * p.h.toNat := by
    have e : ((p.w.toNat * p.h.toNat : Nat) : Int) = p.w * p.h := by
      rw [Int.natCast_mul, show ((p.w.toNat : Nat) : Int) = p.w by omega, show ((p.h.toNat : Nat) : Int) = p.h by omega]
    rw [← h3] at e
    exact (Int.ofNat.inj e).symm
  rw [hl]
  exact edges_ok (by have := h1.2.2; omega) (by have := h2.2.2; omega)
theorem dbPic_fine {p : Pic} {q : Int} (hv : p.valid) (hq : 0 ≤ q ∧ q ≤ 2) : dbPic p q = p := by
  unfold dbPic
  rw [if_pos ⟨hv, hq.1, by omega⟩]
  obtain ⟨h1, h2, h3, h4⟩ := hv
  have hw := h1.1
  have hh := h2.1
  have hl : p.px.length = p.w.toNat * p.h.toNat := by
    have e : ((p.w.toNat * p.h.toNat : Nat) : Int) = p.w * p.h := by
      rw [Int.natCast_mul, show ((p.w.toNat : Nat) : Int) = p.w by omega, show ((p.h.toNat : Nat) : Int) = p.h by omega]
    rw [← h3] at e
    exact (Int.ofNat.inj e).symm
  rw [flim_fine (by omega), dbL_zero]
  rw [hl]
  exact edges_ok (by have := h1.2.2; omega) (by have := h2.2.2; omega)
theorem dbPic_flat {W H : Nat} {v q : Int} {n : Nat} (hw : side W) (hh : side H) (hn : n = W * H) (hv : 0 ≤ v ∧ v ≤ 255) (hq : 0 ≤ q ∧ q ≤ 15) : dbPic ⟨W, H, List.replicate n v⟩ q = ⟨W, H, List.replicate n v⟩ := by
  have hval : Pic.valid ⟨W, H, List.replicate n v⟩ := ⟨hw, hh, by simp [hn], fun z hz => by rw [List.eq_of_mem_replicate hz]; exact hv⟩
  unfold dbPic
  rw [if_pos ⟨hval, hq⟩]
  simp only [Int.toNat_natCast]
  rw [dbL_flat hv (flim_rng (by omega)).1]
  rw [hn]
  exact edges_ok (by have := hw.2.2; omega) (by have := hh.2.2; omega)
theorem PBx.ext {w w' : World} {b : Nat} {p : Pic} {a : Option Addr} {n c : Nat} (h : PBx w b p a n c) (e : Ext w w') : PBx w' b p a n c := e.blk h
theorem sl_rep {w : World} {a : Option Addr} {n : Nat} {v : Int} (h : Sl w a n (List.replicate n (Value.int .i64 v))) : Sl w a n ((List.replicate n v).map (Value.int .i64)) := by rwa [List.map_replicate]
set_option maxRecDepth 100000 in
set_option maxHeartbeats 2000000 in
theorem law_FnDeblock (s : Option Addr) (cc m : Nat) (bs : List Int) (w : World) (hT : TabQ w) (hn0 : m ≤ cc ∧ cc ≤ maxLen) (sl : Sl w s m (bs.map (Value.int .u8))) (wf : ∀ z ∈ bs, (Lit.int .u8 z).wf = true) :
    Calls Tryd.prog 6 #[.slice s m cc] w fun e w' => e = .returned (.bool true) ∧ Ext w w' := by
  have hn : m ≤ cc ∧ cc ≤ 9223372036854775807 := ⟨hn0.1, hn0.2⟩
  clear hn0
  by_cases hbig : 1048576 < m
  · clear sl wf hT
    go_enter Tryd.func6, Tryd.ntmps6
    go_wp2
    go_ret
    exact ⟨rfl, Below.refl _ _⟩
  have hz := byte_rangeD wf
  clear wf
  go_enter Tryd.func6, Tryd.ntmps6
  go_wp2_with fail
  refine (DrawDeblock_any s cc m bs _ hn.1 hn.2 sl hz).mono ?_
  rintro e w1 ⟨p, a, c, n, q, rfl, hnl, hn1, s1, hq0, hq1, E1⟩
  have HS := Lib.hid (fun (a : Option Addr) (c : Nat) (w : World) (r : Sl w a n (p.px.map (Value.int .i64))) => spec_Deblock_any p q a c n w hnl (by omega) r)
  have HI := Lib.hid (fun (a : Option Addr) (c : Nat) (w : World) (hT : TabQ w) (r : Sl w a n (p.px.map (Value.int .i64))) => impl_Deblock_any p q a c n w hT hnl (by omega) r)
  have HV := Lib.hid (fun (a : Option Addr) (c : Nat) (w : World) (r : Sl w a n (p.px.map (Value.int .i64))) => spec_PictureValid_any p a c n w hnl (by omega) r)
  have hRl : (dbPic p q).px.length ≤ n := by
    unfold dbPic
    split
    · rw [dbL_len, hnl]; exact Nat.le_refl _
    · exact Nat.zero_le _
  have HR := Lib.hid (show dbPic p q = dbPic p q from rfl)
  obtain ⟨R, hR⟩ : ∃ R, R = dbPic p q := ⟨_, rfl⟩
  rw [← hR] at HS HI hRl
  have HR2 := Lib.hid hR
  obtain ⟨k, hk⟩ : ∃ k, k = R.px.length := ⟨_, rfl⟩
  rw [← hk] at HS HI hRl
  have HK := Lib.hid hk
  have HN := Lib.hid hnl
  clear hR hk hnl HR sl hz
  obtain ⟨O, hO⟩ : ∃ O, O = w1.heap.size := ⟨_, rfl⟩
  have e2 := Ext.alloc w1 (.cells #[.int .i64 p.w, .int .i64 p.h, .slice a n c] 46)
  have P2 : PBx (w1.alloc (.cells #[.int .i64 p.w, .int .i64 p.h, .slice a n c] 46)) O p a n c := by rw [hO]; exact blk_new _ _
  have E2 := E1.trans e2
  have s2 := s1.ext e2
  clear E1 s1 e2
  obtain ⟨k0, k1, k2⟩ := P2.cells
  go_wp2_with fail
  rw [← hO]
  generalize w1.alloc (.cells #[.int .i64 p.w, .int .i64 p.h, .slice a n c] 46) = w2 at *
  clear hO
  refine (HI.out a c _ (hT.ext E2) s2).mono ?_
  rintro e w3 ⟨a3, c3, rfl, own3, e3⟩
  obtain ⟨X, hX⟩ : ∃ X, X = w3.heap.size := ⟨_, rfl⟩
  have e4 := Ext.alloc w3 (.cells #[.int .i64 R.w, .int .i64 R.h, .slice a3 k c3] 46)
  have X4 : PBx (w3.alloc (.cells #[.int .i64 R.w, .int .i64 R.h, .slice a3 k c3] 46)) X R a3 k c3 := by rw [hX]; exact blk_new _ _
  have P4 := P2.ext (e3.trans e4)
  have s4 := s2.ext (e3.trans e4)
  have t4 := (Sl.of_owns own3).ext e4
  have E4 := E2.trans (e3.trans e4)
  clear P2 s2 own3 e3 e4 E2 k0 k1 k2
  go_upto_region 5 with fail
  rw [← hX]
  generalize w3.alloc (.cells #[.int .i64 R.w, .int .i64 R.h, .slice a3 k c3] 46) = w4 at *
  clear hX
  have hext : ∀ (i : Nat) (own : Value) (ys : Nat → Value) (wa wb : World), Ext wa wb → (match i with | 0 => own = .agg #[.int .i64 R.w, .int .i64 R.h, .slice a3 k c3] | 1 => own = .agg #[.int .i64 p.w, .int .i64 p.h, .slice a n c] | 2 => own = .int .i64 q | 3 => ∃ (a2 : Option Addr) (c2 : Nat), own = .agg #[.int .i64 R.w, .int .i64 R.h, .slice a2 k c2] ∧ Sl wa a2 k (R.px.map (Value.int .i64)) | 4 => own = .bool true | 5 => own = .bool false | _ => True) → (match i with | 0 => own = .agg #[.int .i64 R.w, .int .i64 R.h, .slice a3 k c3] | 1 => own = .agg #[.int .i64 p.w, .int .i64 p.h, .slice a n c] | 2 => own = .int .i64 q | 3 => ∃ (a2 : Option Addr) (c2 : Nat), own = .agg #[.int .i64 R.w, .int .i64 R.h, .slice a2 k c2] ∧ Sl wb a2 k (R.px.map (Value.int .i64)) | 4 => own = .bool true | 5 => own = .bool false | _ => True) := by
    intro i own ys wa wb e h
    match i, h with
    | 0, h => exact h
    | 1, h => exact h
    | 2, h => exact h
    | 3, h => obtain ⟨a2, c2, h1, h2⟩ := h; exact ⟨a2, c2, h1, h2.ext e⟩
    | 4, h => exact h
    | 5, h => exact h
    | _ + 6, _ => trivial
  have Hext := Lib.hid hext
  clear hext
  refine wp_region_inv2 (by kernel_rfl) [(18, 0), (19, 1), (20, 2), (21, 3), (22, 4), (23, 5)] [[], [], [], [1, 2], [0, 1, 2, 3], [0, 1, 2, 3, 4]] (fun i own ys wx => match i with | 0 => own = .agg #[.int .i64 R.w, .int .i64 R.h, .slice a3 k c3] | 1 => own = .agg #[.int .i64 p.w, .int .i64 p.h, .slice a n c] | 2 => own = .int .i64 q | 3 => ∃ (a2 : Option Addr) (c2 : Nat), own = .agg #[.int .i64 R.w, .int .i64 R.h, .slice a2 k c2] ∧ Sl wx a2 k (R.px.map (Value.int .i64)) | 4 => own = .bool true | 5 => own = .bool false | _ => True) (fun kx wx => Ext w4 wx) (by kernel_rfl) (by kernel_rfl) (by kernel_rfl) ?g0_r1 ?gop_r1 ?gend_r1
  case g0_r1 => exact Ext.drewN _ 1
  case gop_r1 =>
    refine ⟨?_, ?_, ?_, ?_, ?_, ?_, trivial⟩
    · intro kx xs wx hk hG hD hI Qo Kx hK hQo
      clear hD
      clear hI
      simp only [patchS, Nat.reduceAdd, Nat.reduceEqDiff, ↓reduceIte] at hQo ⊢
      obtain ⟨k0, k1, k2⟩ := (X4.ext hG).cells
      go_wp2
      exact hK.out _ _ ⟨rfl, hG, fun _ _ _ _ _ _ h => h⟩
    · intro kx xs wx hk hG hD hI Qo Kx hK hQo
      clear hD
      clear hI
      simp only [patchS, Nat.reduceAdd, Nat.reduceEqDiff, ↓reduceIte] at hQo ⊢
      obtain ⟨k0, k1, k2⟩ := (P4.ext hG).cells
      go_wp2
      exact hK.out _ _ ⟨rfl, hG, fun _ _ _ _ _ _ h => h⟩
    · intro kx xs wx hk hG hD hI Qo Kx hK hQo
      clear hD
      clear hI
      simp only [patchS, Nat.reduceAdd, Nat.reduceEqDiff, ↓reduceIte] at hQo ⊢
      go_wp2
      exact hK.out _ _ ⟨rfl, hG, fun _ _ _ _ _ _ h => h⟩
    · intro kx xs wx hk hG hD hI Qo Kx hK hQo
      have d1 : (xs 1) = .agg #[.int .i64 p.w, .int .i64 p.h, .slice a n c] := hD 1 rfl
      have d2 : (xs 2) = .int .i64 q := hD 2 rfl
      clear hD
      clear hI
      simp only [patchS, Nat.reduceAdd, Nat.reduceEqDiff, ↓reduceIte] at hQo ⊢
      generalize xs 1 = y1 at *
      generalize xs 2 = y2 at *
      subst d1
      subst d2
      go_wp2_with fail
      refine (HS.out a c _ (s4.ext hG)).mono ?_
      rintro e wz ⟨az, cz, rfl, ownz, ez⟩
      go_wp2
      exact hK.out _ _ ⟨⟨az, cz, rfl, Sl.of_owns ownz⟩, hG.trans ez, fun i _ _ _ own ys h => Hext.out i own ys _ _ ez h⟩
    · intro kx xs wx hk hG hD hI Qo Kx hK hQo
      have d0 : (xs 0) = .agg #[.int .i64 R.w, .int .i64 R.h, .slice a3 k c3] := hD 0 rfl
      have d3 : ∃ (a2 : Option Addr) (c2 : Nat), (xs 3) = .agg #[.int .i64 R.w, .int .i64 R.h, .slice a2 k c2] ∧ Sl wx a2 k (R.px.map (Value.int .i64)) := hD 3 rfl
      clear hD
      clear hI
      simp only [patchS, Nat.reduceAdd, Nat.reduceEqDiff, ↓reduceIte] at hQo ⊢
      generalize xs 0 = y0 at *
      generalize xs 3 = y3 at *
      subst d0
      obtain ⟨a2, c2, rfl, o2⟩ := d3
      go_wp2_with fail
      refine (samePicture_same R.w R.h a3 a2 c3 c2 k R.px _ (by omega) (t4.ext hG) o2).mono ?_
      rintro e wz ⟨rfl, ez⟩
      go_wp2
      exact hK.out _ _ ⟨rfl, hG.trans ez, fun i _ _ _ own ys h => Hext.out i own ys _ _ ez h⟩
    · intro kx xs wx hk hG hD hI Qo Kx hK hQo
      have d4 : (xs 4) = .bool true := hD 4 rfl
      clear hD
      clear hI
      simp only [patchS, Nat.reduceAdd, Nat.reduceEqDiff, ↓reduceIte] at hQo ⊢
      generalize xs 4 = y4 at *
      subst d4
      go_wp2
      exact hK.out _ _ ⟨rfl, hG, fun _ _ _ _ _ _ h => h⟩
  clear Hext
  intro xs wx hV hG
  have d0 : (xs 0) = .agg #[.int .i64 R.w, .int .i64 R.h, .slice a3 k c3] := hV 0 (by decide)
  have d1 : (xs 1) = .agg #[.int .i64 p.w, .int .i64 p.h, .slice a n c] := hV 1 (by decide)
  have d2 : (xs 2) = .int .i64 q := hV 2 (by decide)
  have d3 : ∃ (a2 : Option Addr) (c2 : Nat), (xs 3) = .agg #[.int .i64 R.w, .int .i64 R.h, .slice a2 k c2] ∧ Sl wx a2 k (R.px.map (Value.int .i64)) := hV 3 (by decide)
  have d4 : (xs 4) = .bool true := hV 4 (by decide)
  have d5 : (xs 5) = .bool false := hV 5 (by decide)
  clear hV
  simp only [patchS, Nat.reduceAdd, Nat.reduceEqDiff, ↓reduceIte]
  generalize xs 0 = y0 at *
  generalize xs 1 = y1 at *
  generalize xs 2 = y2 at *
  generalize xs 3 = y3 at *
  generalize xs 4 = y4 at *
  generalize xs 5 = y5 at *
  replace hG : Ext w4 wx := hG
  clear d0 d1 d2 d3 d4
  subst d5
  have E5 := E4.trans hG
  have P5 := P4.ext hG
  have X5 := X4.ext hG
  have s5 := s4.ext hG
  have t5 := t4.ext hG
  clear E4 P4 X4 s4 t4 hG
  generalize wx = w5 at *
  obtain ⟨k0, k1, k2⟩ := P5.cells
  go_wp2_with fail
  refine (HV.out a c _ s5).mono ?_
  rintro e w6 ⟨rfl, e6⟩
  have E6 := E5.trans e6
  have P6 := P5.ext e6
  have X6 := X5.ext e6
  have s6 := s5.ext e6
  have t6 := t5.ext e6
  clear E5 P5 X5 s5 t5 e6 k0 k1 k2
  by_cases hv : p.valid ∧ 0 ≤ q ∧ q ≤ 15
  · obtain ⟨h1, hqa, hqb⟩ := hv
    rw [decide_eq_true h1]
    have HRV := Lib.hid (show R.valid by rw [HR2.out]; exact dbPic_valid h1 ⟨hqa, hqb⟩)
    have HFI := Lib.hid (fun (h : q ≤ 2) => (show R = p by rw [HR2.out]; exact dbPic_fine h1 ⟨hqa, h⟩))
    obtain ⟨x, y, zs⟩ := p
    obtain ⟨W, hW⟩ : ∃ W : Nat, x = W := ⟨x.toNat, by have := h1.1.1; simp only at this; omega⟩
    obtain ⟨H, hH⟩ : ∃ H : Nat, y = H := ⟨y.toNat, by have := h1.2.1.1; simp only at this; omega⟩
    subst hW hH
    have hsw : side W := h1.1
    have hsh : side H := h1.2.1
    have hlen := Pic.len_le h1
    have hn64 : 64 ≤ n := by rw [HN.out]; exact hlen.1
    have hnn : n = W * H := by
      have := h1.2.2.1
      simp only at this
      rw [HN.out]
      rw [← Int.natCast_mul] at this
      exact Int.ofNat.inj this
    have hv0 := smp_nth h1.2.2.2 (i := 0) (by simp only; rw [← HN.out]; omega)
    simp only at hv0 s6 P6 ⊢
    obtain ⟨b0, o0, ha0, hc0⟩ := s6.int (i := 0) (by omega)
    subst ha0
    rw [Nat.add_zero] at hc0
    generalize nth zs 0 = v at *
    have HFL := Lib.hid (dbPic_flat hsw hsh hnn hv0 ⟨hqa, hqb⟩)
    have HNP := Lib.hid (fun (w : World) => NewPicture_any W H v n w ⟨hsw.1, hsw.2.1, hsw.2.2⟩ ⟨hsh.1, hsh.2.1, hsh.2.2⟩ hv0 (by rw [hnn]; simp) (by omega))
    clear hlen hnn h1 HR2
    have hdq1 : decide (q < 0) = false := by simpa using hqa
    have hdq2 : decide (15 < q) = false := by simp; omega
    go_upto_region 9 with fail
    have hext : ∀ (i : Nat) (own : Value) (ys : Nat → Value) (wa wb : World), Ext wa wb → (match i with | 0 => own = .pointer (some ⟨O, 0, none⟩) | 1 => own = .int .i64 W | 2 => own = .pointer (some ⟨O, 1, none⟩) | 3 => own = .int .i64 H | 4 => own = .pointer (some ⟨O, 2, none⟩) | 5 => own = .slice (some ⟨b0, o0, none⟩) n c | 6 => own = .pointer (some ⟨b0, o0, none⟩) | 7 => own = .int .i64 v | 8 => ∃ (a2 : Option Addr) (c2 : Nat), own = .agg #[.int .i64 W, .int .i64 H, .slice a2 n c2] ∧ wa.ownsRow w6.heap.size 3 1 (.slice a2 n c2) n (List.replicate n (.int .i64 v)) | 9 => ∃ F : Nat, own = .pointer (some ⟨F, 0, none⟩) ∧ w6.heap.size ≤ F ∧ ∃ x y z : Value, wa.heap[F]? = some (.cells #[x, y, z] 46 (0, 0)) | 10 => ∃ (F : Nat) (a2 : Option Addr) (c2 : Nat), ys 9 = .pointer (some ⟨F, 0, none⟩) ∧ PBx wa F ⟨W, H, List.replicate n v⟩ a2 n c2 ∧ Sl wa a2 n ((List.replicate n v).map (Value.int .i64)) | _ => True) → (match i with | 0 => own = .pointer (some ⟨O, 0, none⟩) | 1 => own = .int .i64 W | 2 => own = .pointer (some ⟨O, 1, none⟩) | 3 => own = .int .i64 H | 4 => own = .pointer (some ⟨O, 2, none⟩) | 5 => own = .slice (some ⟨b0, o0, none⟩) n c | 6 => own = .pointer (some ⟨b0, o0, none⟩) | 7 => own = .int .i64 v | 8 => ∃ (a2 : Option Addr) (c2 : Nat), own = .agg #[.int .i64 W, .int .i64 H, .slice a2 n c2] ∧ wb.ownsRow w6.heap.size 3 1 (.slice a2 n c2) n (List.replicate n (.int .i64 v)) | 9 => ∃ F : Nat, own = .pointer (some ⟨F, 0, none⟩) ∧ w6.heap.size ≤ F ∧ ∃ x y z : Value, wb.heap[F]? = some (.cells #[x, y, z] 46 (0, 0)) | 10 => ∃ (F : Nat) (a2 : Option Addr) (c2 : Nat), ys 9 = .pointer (some ⟨F, 0, none⟩) ∧ PBx wb F ⟨W, H, List.replicate n v⟩ a2 n c2 ∧ Sl wb a2 n ((List.replicate n v).map (Value.int .i64)) | _ => True) := by
      intro i own ys wa wb e h
      match i, h with
      | 0, h => exact h
      | 1, h => exact h
      | 2, h => exact h
      | 3, h => exact h
      | 4, h => exact h
      | 5, h => exact h
      | 6, h => exact h
      | 7, h => exact h
      | 8, h => obtain ⟨a2, c2, h1, h2⟩ := h; exact ⟨a2, c2, h1, owns_ext h2 e⟩
      | 9, h => obtain ⟨F, h1, h2, x, y, z, h3⟩ := h; exact ⟨F, h1, h2, x, y, z, e.blk h3⟩
      | 10, h => obtain ⟨F, a2, c2, h1, h2, h3⟩ := h; exact ⟨F, a2, c2, h1, h2.ext e, h3.ext e⟩
      | _ + 11, _ => trivial
    have Hext := Lib.hid hext
    clear hext
    refine wp_region_inv2 (by kernel_rfl) [(6, 9), (42, 0), (43, 1), (44, 2), (45, 3), (46, 4), (47, 5), (48, 6), (49, 7), (50, 8)] [[], [0], [], [2], [], [4], [4, 5], [4, 5, 6], [0, 1, 2, 3, 4, 5, 6, 7], [], [0, 1, 2, 3, 4, 5, 6, 7, 8, 9]] (fun i own ys wx => match i with | 0 => own = .pointer (some ⟨O, 0, none⟩) | 1 => own = .int .i64 W | 2 => own = .pointer (some ⟨O, 1, none⟩) | 3 => own = .int .i64 H | 4 => own = .pointer (some ⟨O, 2, none⟩) | 5 => own = .slice (some ⟨b0, o0, none⟩) n c | 6 => own = .pointer (some ⟨b0, o0, none⟩) | 7 => own = .int .i64 v | 8 => ∃ (a2 : Option Addr) (c2 : Nat), own = .agg #[.int .i64 W, .int .i64 H, .slice a2 n c2] ∧ wx.ownsRow w6.heap.size 3 1 (.slice a2 n c2) n (List.replicate n (.int .i64 v)) | 9 => ∃ F : Nat, own = .pointer (some ⟨F, 0, none⟩) ∧ w6.heap.size ≤ F ∧ ∃ x y z : Value, wx.heap[F]? = some (.cells #[x, y, z] 46 (0, 0)) | 10 => ∃ (F : Nat) (a2 : Option Addr) (c2 : Nat), ys 9 = .pointer (some ⟨F, 0, none⟩) ∧ PBx wx F ⟨W, H, List.replicate n v⟩ a2 n c2 ∧ Sl wx a2 n ((List.replicate n v).map (Value.int .i64)) | _ => True) (fun kx wx => Ext w6 wx) (by kernel_rfl) (by kernel_rfl) (by kernel_rfl) ?g0_r2 ?gop_r2 ?gend_r2
    case g0_r2 => exact Ext.drewN _ 1
    case gop_r2 =>
      refine ⟨?_, ?_, ?_, ?_, ?_, ?_, ?_, ?_, ?_, ?_, ?_, trivial⟩
      · intro kx xs wx hk hG hD hI Qo Kx hK hQo
        clear hD
        clear hI
        simp only [patchS, Nat.reduceAdd, Nat.reduceEqDiff, ↓reduceIte] at hQo ⊢
        go_wp2
        exact hK.out _ _ ⟨rfl, hG, fun _ _ _ _ _ _ h => h⟩
      · intro kx xs wx hk hG hD hI Qo Kx hK hQo
        have d0 : (xs 0) = .pointer (some ⟨O, 0, none⟩) := hD 0 rfl
        clear hD
        clear hI
        simp only [patchS, Nat.reduceAdd, Nat.reduceEqDiff, ↓reduceIte] at hQo ⊢
        generalize xs 0 = y0 at *
        subst d0
        obtain ⟨k0, k1, k2⟩ := (P6.ext hG).cells
        go_wp2
        exact hK.out _ _ ⟨rfl, hG, fun _ _ _ _ _ _ h => h⟩
      · intro kx xs wx hk hG hD hI Qo Kx hK hQo
        clear hD
        clear hI
        simp only [patchS, Nat.reduceAdd, Nat.reduceEqDiff, ↓reduceIte] at hQo ⊢
        go_wp2
        exact hK.out _ _ ⟨rfl, hG, fun _ _ _ _ _ _ h => h⟩
      · intro kx xs wx hk hG hD hI Qo Kx hK hQo
        have d2 : (xs 2) = .pointer (some ⟨O, 1, none⟩) := hD 2 rfl
        clear hD
        clear hI
        simp only [patchS, Nat.reduceAdd, Nat.reduceEqDiff, ↓reduceIte] at hQo ⊢
        generalize xs 2 = y2 at *
        subst d2
        obtain ⟨k0, k1, k2⟩ := (P6.ext hG).cells
        go_wp2
        exact hK.out _ _ ⟨rfl, hG, fun _ _ _ _ _ _ h => h⟩
      · intro kx xs wx hk hG hD hI Qo Kx hK hQo
        clear hD
        clear hI
        simp only [patchS, Nat.reduceAdd, Nat.reduceEqDiff, ↓reduceIte] at hQo ⊢
        go_wp2
        exact hK.out _ _ ⟨rfl, hG, fun _ _ _ _ _ _ h => h⟩
      · intro kx xs wx hk hG hD hI Qo Kx hK hQo
        have d4 : (xs 4) = .pointer (some ⟨O, 2, none⟩) := hD 4 rfl
        clear hD
        clear hI
        simp only [patchS, Nat.reduceAdd, Nat.reduceEqDiff, ↓reduceIte] at hQo ⊢
        generalize xs 4 = y4 at *
        subst d4
        obtain ⟨k0, k1, k2⟩ := (P6.ext hG).cells
        go_wp2
        exact hK.out _ _ ⟨rfl, hG, fun _ _ _ _ _ _ h => h⟩
      · intro kx xs wx hk hG hD hI Qo Kx hK hQo
        have d5 : (xs 5) = .slice (some ⟨b0, o0, none⟩) n c := hD 5 rfl
        clear hD
        clear hI
        simp only [patchS, Nat.reduceAdd, Nat.reduceEqDiff, ↓reduceIte] at hQo ⊢
        generalize xs 5 = y5 at *
        subst d5
        go_wp2
        exact hK.out _ _ ⟨rfl, hG, fun _ _ _ _ _ _ h => h⟩
      · intro kx xs wx hk hG hD hI Qo Kx hK hQo
        have d6 : (xs 6) = .pointer (some ⟨b0, o0, none⟩) := hD 6 rfl
        clear hD
        clear hI
        simp only [patchS, Nat.reduceAdd, Nat.reduceEqDiff, ↓reduceIte] at hQo ⊢
        generalize xs 6 = y6 at *
        subst d6
        have hcx := cell_ext hG hc0
        go_wp2
        exact hK.out _ _ ⟨rfl, hG, fun _ _ _ _ _ _ h => h⟩
      · intro kx xs wx hk hG hD hI Qo Kx hK hQo
        have d1 : (xs 1) = .int .i64 W := hD 1 rfl
        have d3 : (xs 3) = .int .i64 H := hD 3 rfl
        have d7 : (xs 7) = .int .i64 v := hD 7 rfl
        clear hD
        clear hI
        simp only [patchS, Nat.reduceAdd, Nat.reduceEqDiff, ↓reduceIte] at hQo ⊢
        generalize xs 1 = y1 at *
        generalize xs 3 = y3 at *
        generalize xs 7 = y7 at *
        subst d1
        subst d3
        subst d7
        go_wp2_with fail
        refine (HNP.out _).mono ?_
        rintro e wz ⟨az, cz, rfl, ownz, ez⟩
        go_wp2
        exact hK.out _ _ ⟨⟨az, cz, rfl, owns_mono ownz hG.size⟩, hG.trans ez, fun i _ _ _ own ys h => Hext.out i own ys _ _ ez h⟩
      · intro kx xs wx hk hG hD hI Qo Kx hK hQo
        clear hD
        clear hI
        simp only [patchS, Nat.reduceAdd, Nat.reduceEqDiff, ↓reduceIte] at hQo ⊢
        have ea := Ext.alloc wx (.cells #[.int .i64 0, .int .i64 0, .slice none 0 0] 46)
        go_wp2
        exact hK.out _ _ ⟨⟨_, rfl, hG.size, _, _, _, blk_new _ _⟩, hG.trans ea, fun i _ _ _ own ys h => Hext.out i own ys _ _ ea h⟩
      · intro kx xs wx hk hG hD hI Qo Kx hK hQo
        have d9 : ∃ F : Nat, (xs 9) = .pointer (some ⟨F, 0, none⟩) ∧ w6.heap.size ≤ F ∧ ∃ x y z : Value, wx.heap[F]? = some (.cells #[x, y, z] 46 (0, 0)) := hD 9 rfl
        have d8 : ∃ (a2 : Option Addr) (c2 : Nat), (xs 8) = .agg #[.int .i64 W, .int .i64 H, .slice a2 n c2] ∧ wx.ownsRow w6.heap.size 3 1 (.slice a2 n c2) n (List.replicate n (.int .i64 v)) := hD 8 rfl
        clear hD
        clear hI
        simp only [patchS, Nat.reduceAdd, Nat.reduceEqDiff, ↓reduceIte] at hQo ⊢
        generalize hx9 : xs 9 = y9 at *
        have Hx9 := Lib.hid hx9
        clear hx9
        generalize xs 8 = y8 at *
        obtain ⟨F, rfl, hF, u1, u2, u3, f9⟩ := d9
        obtain ⟨a8, c8, rfl, o8⟩ := d8
        obtain ⟨-, z0, z1, z2, fr0, fr1, fr2⟩ := bx3 f9
        go_wp2
        have hst : ∀ (wy : World), (∀ (F' : Nat), (∃ x y z : Value, wx.heap[F']? = some (.cells #[x, y, z] 46 (0, 0))) → ∃ x y z : Value, wy.heap[F']? = some (.cells #[x, y, z] 46 (0, 0))) ∧ (∀ (v' : Value) (xs : List Value), wx.ownsRow w6.heap.size 3 1 v' n xs → wy.ownsRow w6.heap.size 3 1 v' n xs) → ∀ (ii : Nat), ii < 11 → ii ≠ 10 → ([[], [0], [], [2], [], [4], [4, 5], [4, 5, 6], [0, 1, 2, 3, 4, 5, 6, 7], [], [0, 1, 2, 3, 4, 5, 6, 7, 8, 9]].getD ii []).contains 10 = false → ∀ (own : Value) (ys : Nat → Value), (match ii with | 0 => own = .pointer (some ⟨O, 0, none⟩) | 1 => own = .int .i64 W | 2 => own = .pointer (some ⟨O, 1, none⟩) | 3 => own = .int .i64 H | 4 => own = .pointer (some ⟨O, 2, none⟩) | 5 => own = .slice (some ⟨b0, o0, none⟩) n c | 6 => own = .pointer (some ⟨b0, o0, none⟩) | 7 => own = .int .i64 v | 8 => ∃ (a2 : Option Addr) (c2 : Nat), own = .agg #[.int .i64 W, .int .i64 H, .slice a2 n c2] ∧ wx.ownsRow w6.heap.size 3 1 (.slice a2 n c2) n (List.replicate n (.int .i64 v)) | 9 => ∃ F : Nat, own = .pointer (some ⟨F, 0, none⟩) ∧ w6.heap.size ≤ F ∧ ∃ x y z : Value, wx.heap[F]? = some (.cells #[x, y, z] 46 (0, 0)) | 10 => ∃ (F : Nat) (a2 : Option Addr) (c2 : Nat), ys 9 = .pointer (some ⟨F, 0, none⟩) ∧ PBx wx F ⟨W, H, List.replicate n v⟩ a2 n c2 ∧ Sl wx a2 n ((List.replicate n v).map (Value.int .i64)) | _ => True) → (match ii with | 0 => own = .pointer (some ⟨O, 0, none⟩) | 1 => own = .int .i64 W | 2 => own = .pointer (some ⟨O, 1, none⟩) | 3 => own = .int .i64 H | 4 => own = .pointer (some ⟨O, 2, none⟩) | 5 => own = .slice (some ⟨b0, o0, none⟩) n c | 6 => own = .pointer (some ⟨b0, o0, none⟩) | 7 => own = .int .i64 v | 8 => ∃ (a2 : Option Addr) (c2 : Nat), own = .agg #[.int .i64 W, .int .i64 H, .slice a2 n c2] ∧ wy.ownsRow w6.heap.size 3 1 (.slice a2 n c2) n (List.replicate n (.int .i64 v)) | 9 => ∃ F : Nat, own = .pointer (some ⟨F, 0, none⟩) ∧ w6.heap.size ≤ F ∧ ∃ x y z : Value, wy.heap[F]? = some (.cells #[x, y, z] 46 (0, 0)) | 10 => ∃ (F : Nat) (a2 : Option Addr) (c2 : Nat), ys 9 = .pointer (some ⟨F, 0, none⟩) ∧ PBx wy F ⟨W, H, List.replicate n v⟩ a2 n c2 ∧ Sl wy a2 n ((List.replicate n v).map (Value.int .i64)) | _ => True) := by
          intro wy hy ii hii hne hc own ys h
          match ii, h with
          | 0, h => exact h
          | 1, h => exact h
          | 2, h => exact h
          | 3, h => exact h
          | 4, h => exact h
          | 5, h => exact h
          | 6, h => exact h
          | 7, h => exact h
          | 8, h => obtain ⟨a2, c2, h1, h2⟩ := h; exact ⟨a2, c2, h1, hy.2 _ _ h2⟩
          | 9, h => obtain ⟨F2, h1, h2, h3⟩ := h; exact ⟨F2, h1, h2, hy.1 _ h3⟩
          | 10, h => exact absurd rfl hne
          | _ + 11, _ => trivial
        have hzz := blk_set3 (x' := .int .i64 W) (y' := .int .i64 H) (z' := .slice a8 n c8) f9
        have gz := gr_set3 wx F (.int .i64 W) (.int .i64 H) (.slice a8 n c8)
        have hEz := Ext.grown hG gz (fun k hk => by cases hk; exact hF)
        have hkeep : ∀ (v' : Value) (xs : List Value), wx.ownsRow w6.heap.size 3 1 v' n xs → (((wx.setCell ⟨F, 0, none⟩ (.int .i64 W)).setCell ⟨F, 1, none⟩ (.int .i64 H)).setCell ⟨F, 2, none⟩ (.slice a8 n c8)).ownsRow w6.heap.size 3 1 v' n xs := fun v' xs h => h.kept gz (by rcases own_ne_blk h f9 (by decide) with h1 | h1; exact .inl h1; exact .inr h1)
        have hkeep2 : ∀ (F' : Nat), (∃ x y z : Value, wx.heap[F']? = some (.cells #[x, y, z] 46 (0, 0))) → ∃ x y z : Value, (((wx.setCell ⟨F, 0, none⟩ (.int .i64 W)).setCell ⟨F, 1, none⟩ (.int .i64 H)).setCell ⟨F, 2, none⟩ (.slice a8 n c8)).heap[F']? = some (.cells #[x, y, z] 46 (0, 0)) := fun F' ⟨x, y, z, h⟩ => by
          by_cases hF' : F' = F
          · subst hF'; exact ⟨_, _, _, hzz⟩
          · exact ⟨x, y, z, blk_gr h gz (by simp; omega)⟩
        exact hQo undef _ (hK.out _ _ ⟨⟨F, a8, c8, Hx9.out, hzz, sl_rep (Sl.of_owns (hkeep _ _ o8))⟩, hEz, hst _ ⟨hkeep2, hkeep⟩⟩)
    clear Hext
    intro xs wx hV hG
    have d0 : (xs 0) = .pointer (some ⟨O, 0, none⟩) := hV 0 (by decide)
    have d1 : (xs 1) = .int .i64 W := hV 1 (by decide)
    have d2 : (xs 2) = .pointer (some ⟨O, 1, none⟩) := hV 2 (by decide)
    have d3 : (xs 3) = .int .i64 H := hV 3 (by decide)
    have d4 : (xs 4) = .pointer (some ⟨O, 2, none⟩) := hV 4 (by decide)
    have d5 : (xs 5) = .slice (some ⟨b0, o0, none⟩) n c := hV 5 (by decide)
    have d6 : (xs 6) = .pointer (some ⟨b0, o0, none⟩) := hV 6 (by decide)
    have d7 : (xs 7) = .int .i64 v := hV 7 (by decide)
    have d8 : ∃ (a2 : Option Addr) (c2 : Nat), (xs 8) = .agg #[.int .i64 W, .int .i64 H, .slice a2 n c2] ∧ wx.ownsRow w6.heap.size 3 1 (.slice a2 n c2) n (List.replicate n (.int .i64 v)) := hV 8 (by decide)
    have d9 : ∃ F : Nat, (xs 9) = .pointer (some ⟨F, 0, none⟩) ∧ w6.heap.size ≤ F ∧ ∃ x y z : Value, wx.heap[F]? = some (.cells #[x, y, z] 46 (0, 0)) := hV 9 (by decide)
    have d10 : ∃ (F : Nat) (a2 : Option Addr) (c2 : Nat), (xs 9) = .pointer (some ⟨F, 0, none⟩) ∧ PBx wx F ⟨W, H, List.replicate n v⟩ a2 n c2 ∧ Sl wx a2 n ((List.replicate n v).map (Value.int .i64)) := hV 10 (by decide)
    clear hV
    simp only [patchS, Nat.reduceAdd, Nat.reduceEqDiff, ↓reduceIte]
    generalize xs 0 = y0 at *
    generalize xs 1 = y1 at *
    generalize xs 2 = y2 at *
    generalize xs 3 = y3 at *
    generalize xs 4 = y4 at *
    generalize xs 5 = y5 at *
    generalize xs 6 = y6 at *
    generalize xs 7 = y7 at *
    generalize xs 8 = y8 at *
    generalize xs 9 = y9 at *
    generalize xs 10 = y10 at *
    replace hG : Ext w6 wx := hG
    clear d0 d1 d2 d3 d4 d5 d6 d7 d8 d9
    obtain ⟨F, a8, c8, rfl, f10, s10⟩ := d10
    have E7 := E6.trans hG
    have P7 := P6.ext hG
    have X7 := X6.ext hG
    have s7 := s6.ext hG
    have t7 := t6.ext hG
    clear E6 P6 X6 s6 t6 hG hc0 HNP
    generalize wx = w7 at *
    have HPV := Lib.hid (fun (w : World) (r : Sl w a3 k (R.px.map (Value.int .i64))) => impl_PictureValid_any R a3 c3 k w HK.out (by omega) r)
    rw [decide_eq_true HRV.out] at HPV
    have HD := Lib.hid (fun (w : World) (hT : TabQ w) (r : Sl w a8 n ((List.replicate n v).map (Value.int .i64))) => impl_Deblock_any ⟨W, H, List.replicate n v⟩ q a8 c8 n w hT (by simp) (by omega) r)
    simp only [HFL.out, List.length_replicate] at HD
    by_cases hq2 : 2 < q
    · have hdq3 : decide (2 < q) = true := by simpa using hq2
      go_upto_region 10 with fail
      have hext : ∀ (i : Nat) (own : Value) (ys : Nat → Value) (wa wb : World), Ext wa wb → (match i with | 0 => own = .agg #[.int .i64 R.w, .int .i64 R.h, .slice a3 k c3] | 1 => own = .bool true | 2 => own = .bool true | 3 => own = .int .i64 q | 4 => own = .bool true | 5 => own = .bool true | 6 => True | 7 => True | 8 => True | 9 => own = .bool true | 10 => own = .bool true | 11 => own = .bool true | 12 => own = .agg #[.int .i64 W, .int .i64 H, .slice a8 n c8] | 13 => own = .int .i64 q | 14 => ∃ (a2 : Option Addr) (c2 : Nat), own = .agg #[.int .i64 W, .int .i64 H, .slice a2 n c2] ∧ Sl wa a2 n ((List.replicate n v).map (Value.int .i64)) | 15 => own = .agg #[.int .i64 W, .int .i64 H, .slice a8 n c8] | 16 => own = .bool true | 17 => own = .bool true | 18 => own = .bool true | _ => True) → (match i with | 0 => own = .agg #[.int .i64 R.w, .int .i64 R.h, .slice a3 k c3] | 1 => own = .bool true | 2 => own = .bool true | 3 => own = .int .i64 q | 4 => own = .bool true | 5 => own = .bool true | 6 => True | 7 => True | 8 => True | 9 => own = .bool true | 10 => own = .bool true | 11 => own = .bool true | 12 => own = .agg #[.int .i64 W, .int .i64 H, .slice a8 n c8] | 13 => own = .int .i64 q | 14 => ∃ (a2 : Option Addr) (c2 : Nat), own = .agg #[.int .i64 W, .int .i64 H, .slice a2 n c2] ∧ Sl wb a2 n ((List.replicate n v).map (Value.int .i64)) | 15 => own = .agg #[.int .i64 W, .int .i64 H, .slice a8 n c8] | 16 => own = .bool true | 17 => own = .bool true | 18 => own = .bool true | _ => True) := by
        intro i own ys wa wb e h
        match i, h with
        | 0, h => exact h
        | 1, h => exact h
        | 2, h => exact h
        | 3, h => exact h
        | 4, h => exact h
        | 5, h => exact h
        | 6, h => exact h
        | 7, h => exact h
        | 8, h => exact h
        | 9, h => exact h
        | 10, h => exact h
        | 11, h => exact h
        | 12, h => exact h
        | 13, h => exact h
        | 14, h => obtain ⟨a2, c2, h1, h2⟩ := h; exact ⟨a2, c2, h1, h2.ext e⟩
        | 15, h => exact h
        | 16, h => exact h
        | 17, h => exact h
        | 18, h => exact h
        | _ + 19, _ => trivial
      have Hext := Lib.hid hext
      clear hext
      refine wp_region_inv2 (by kernel_rfl) [(2, 18), (51, 0), (52, 1), (53, 2), (54, 3), (55, 4), (56, 5), (57, 6), (58, 7), (59, 8), (60, 9), (61, 10), (62, 11), (63, 12), (64, 13), (65, 14), (66, 15), (67, 16), (68, 17)] [[], [0], [0, 1], [0, 1, 2], [0, 1, 2, 3], [0, 1, 2, 3, 4], [0, 1, 2, 3, 4, 5], [0, 1, 2, 3, 4, 5], [0, 1, 2, 3, 4, 5, 6, 7], [0, 1, 2, 3, 4, 5, 6, 7, 8], [0, 1, 2, 3, 4, 5, 6, 7, 8, 9], [0, 1, 2, 3, 4, 5, 6, 7, 8, 9, 10], [0, 1, 2, 3, 4, 5, 6, 7, 8, 9, 10, 11], [0, 1, 2, 3, 4, 5, 6, 7, 8, 9, 10, 11], [0, 1, 2, 3, 4, 5, 6, 7, 8, 9, 10, 11, 12, 13], [0, 1, 2, 3, 4, 5, 6, 7, 8, 9, 10, 11], [0, 1, 2, 3, 4, 5, 6, 7, 8, 9, 10, 11, 12, 13, 14, 15], [0, 1, 2, 3, 4, 5, 6, 7, 8, 9, 10, 11, 12, 13, 14, 15, 16], [0, 1, 2, 3, 4, 5, 6, 7, 8, 9, 10, 11, 12, 13, 14, 15, 16, 17]] (fun i own ys wx => match i with | 0 => own = .agg #[.int .i64 R.w, .int .i64 R.h, .slice a3 k c3] | 1 => own = .bool true | 2 => own = .bool true | 3 => own = .int .i64 q | 4 => own = .bool true | 5 => own = .bool true | 6 => True | 7 => True | 8 => True | 9 => own = .bool true | 10 => own = .bool true | 11 => own = .bool true | 12 => own = .agg #[.int .i64 W, .int .i64 H, .slice a8 n c8] | 13 => own = .int .i64 q | 14 => ∃ (a2 : Option Addr) (c2 : Nat), own = .agg #[.int .i64 W, .int .i64 H, .slice a2 n c2] ∧ Sl wx a2 n ((List.replicate n v).map (Value.int .i64)) | 15 => own = .agg #[.int .i64 W, .int .i64 H, .slice a8 n c8] | 16 => own = .bool true | 17 => own = .bool true | 18 => own = .bool true | _ => True) (fun kx wx => Ext w7 wx) (by kernel_rfl) (by kernel_rfl) (by kernel_rfl) ?g0_r3 ?gop_r3 ?gend_r3
      case g0_r3 => exact Ext.drewN _ 1
      case gop_r3 =>
        refine ⟨?_, ?_, ?_, ?_, ?_, ?_, ?_, ?_, ?_, ?_, ?_, ?_, ?_, ?_, ?_, ?_, ?_, ?_, ?_, trivial⟩
        · intro kx xs wx hk hG hD hI Qo Kx hK hQo
          clear hD
          clear hI
          simp only [patchS, Nat.reduceAdd, Nat.reduceEqDiff, ↓reduceIte] at hQo ⊢
          obtain ⟨k0, k1, k2⟩ := (X7.ext hG).cells
          go_wp2
          exact hK.out _ _ ⟨rfl, hG, fun _ _ _ _ _ _ h => h⟩
        · intro kx xs wx hk hG hD hI Qo Kx hK hQo
          have d0 : (xs 0) = .agg #[.int .i64 R.w, .int .i64 R.h, .slice a3 k c3] := hD 0 rfl
          clear hD
          clear hI
          simp only [patchS, Nat.reduceAdd, Nat.reduceEqDiff, ↓reduceIte] at hQo ⊢
          generalize xs 0 = y0 at *
          subst d0
          go_wp2_with fail
          refine (HPV.out _ (t7.ext hG)).mono ?_
          rintro e wz ⟨rfl, ez⟩
          go_wp2
          exact hK.out _ _ ⟨rfl, hG.trans ez, fun i _ _ _ own ys h => Hext.out i own ys _ _ ez h⟩
        · intro kx xs wx hk hG hD hI Qo Kx hK hQo
          have d1 : (xs 1) = .bool true := hD 1 rfl
          clear hD
          clear hI
          simp only [patchS, Nat.reduceAdd, Nat.reduceEqDiff, ↓reduceIte] at hQo ⊢
          generalize xs 1 = y1 at *
          subst d1
          go_wp2
          exact hK.out _ _ ⟨rfl, hG, fun _ _ _ _ _ _ h => h⟩
        · intro kx xs wx hk hG hD hI Qo Kx hK hQo
          have d2 : (xs 2) = .bool true := hD 2 rfl
          clear hD
          clear hI
          simp only [patchS, Nat.reduceAdd, Nat.reduceEqDiff, ↓reduceIte] at hQo ⊢
          generalize xs 2 = y2 at *
          subst d2
          go_wp2
          exact hK.out _ _ ⟨rfl, hG, fun _ _ _ _ _ _ h => h⟩
        · intro kx xs wx hk hG hD hI Qo Kx hK hQo
          have d3 : (xs 3) = .int .i64 q := hD 3 rfl
          have d2 : (xs 2) = .bool true := hD 2 rfl
          clear hD
          clear hI
          simp only [patchS, Nat.reduceAdd, Nat.reduceEqDiff, ↓reduceIte] at hQo ⊢
          generalize xs 3 = y3 at *
          generalize xs 2 = y2 at *
          subst d3
          subst d2
          go_wp2
          exact hK.out _ _ ⟨rfl, hG, fun _ _ _ _ _ _ h => h⟩
        · intro kx xs wx hk hG hD hI Qo Kx hK hQo
          have d4 : (xs 4) = .bool true := hD 4 rfl
          have d2 : (xs 2) = .bool true := hD 2 rfl
          clear hD
          clear hI
          simp only [patchS, Nat.reduceAdd, Nat.reduceEqDiff, ↓reduceIte] at hQo ⊢
          generalize xs 4 = y4 at *
          generalize xs 2 = y2 at *
          subst d4
          subst d2
          go_wp2
          exact hK.out _ _ ⟨rfl, hG, fun _ _ _ _ _ _ h => h⟩
        · intro kx xs wx hk hG hD hI Qo Kx hK hQo
          have d5 : (xs 5) = .bool true := hD 5 rfl
          clear hD
          clear hI
          simp only [patchS, Nat.reduceAdd, Nat.reduceEqDiff, ↓reduceIte] at hQo ⊢
          generalize xs 5 = y5 at *
          subst d5
          go_wp2
          exact hK.out _ _ ⟨trivial, hG, fun _ _ _ _ _ _ h => h⟩
        · intro kx xs wx hk hG hD hI Qo Kx hK hQo
          have d5 : (xs 5) = .bool true := hD 5 rfl
          clear hD
          clear hI
          simp only [patchS, Nat.reduceAdd, Nat.reduceEqDiff, ↓reduceIte] at hQo ⊢
          generalize xs 5 = y5 at *
          subst d5
          go_wp2
          exact hK.out _ _ ⟨trivial, hG, fun _ _ _ _ _ _ h => h⟩
        · intro kx xs wx hk hG hD hI Qo Kx hK hQo
          have d6 : True := hD 6 rfl
          have d7 : True := hD 7 rfl
          have d5 : (xs 5) = .bool true := hD 5 rfl
          clear hD
          clear hI
          simp only [patchS, Nat.reduceAdd, Nat.reduceEqDiff, ↓reduceIte] at hQo ⊢
          generalize xs 6 = y6 at *
          generalize xs 7 = y7 at *
          generalize xs 5 = y5 at *
          subst d5
          go_wp2
          exact hK.out _ _ ⟨trivial, hG, fun _ _ _ _ _ _ h => h⟩
        · intro kx xs wx hk hG hD hI Qo Kx hK hQo
          have d5 : (xs 5) = .bool true := hD 5 rfl
          have d8 : True := hD 8 rfl
          have d2 : (xs 2) = .bool true := hD 2 rfl
          clear hD
          clear hI
          simp only [patchS, Nat.reduceAdd, Nat.reduceEqDiff, ↓reduceIte] at hQo ⊢
          generalize xs 5 = y5 at *
          generalize xs 8 = y8 at *
          generalize xs 2 = y2 at *
          subst d5
          subst d2
          go_wp2
          exact hK.out _ _ ⟨rfl, hG, fun _ _ _ _ _ _ h => h⟩
        · intro kx xs wx hk hG hD hI Qo Kx hK hQo
          have d2 : (xs 2) = .bool true := hD 2 rfl
          have d9 : (xs 9) = .bool true := hD 9 rfl
          clear hD
          clear hI
          simp only [patchS, Nat.reduceAdd, Nat.reduceEqDiff, ↓reduceIte] at hQo ⊢
          generalize xs 2 = y2 at *
          generalize xs 9 = y9 at *
          subst d2
          subst d9
          go_wp2
          exact hK.out _ _ ⟨rfl, hG, fun _ _ _ _ _ _ h => h⟩
        · intro kx xs wx hk hG hD hI Qo Kx hK hQo
          have d10 : (xs 10) = .bool true := hD 10 rfl
          clear hD
          clear hI
          simp only [patchS, Nat.reduceAdd, Nat.reduceEqDiff, ↓reduceIte] at hQo ⊢
          generalize xs 10 = y10 at *
          subst d10
          go_wp2
          exact hK.out _ _ ⟨rfl, hG, fun _ _ _ _ _ _ h => h⟩
        · intro kx xs wx hk hG hD hI Qo Kx hK hQo
          have d11 : (xs 11) = .bool true := hD 11 rfl
          clear hD
          clear hI
          simp only [patchS, Nat.reduceAdd, Nat.reduceEqDiff, ↓reduceIte] at hQo ⊢
          generalize xs 11 = y11 at *
          subst d11
          obtain ⟨k0, k1, k2⟩ := (f10.ext hG).cells
          go_wp2
          exact hK.out _ _ ⟨rfl, hG, fun _ _ _ _ _ _ h => h⟩
        · intro kx xs wx hk hG hD hI Qo Kx hK hQo
          have d11 : (xs 11) = .bool true := hD 11 rfl
          clear hD
          clear hI
          simp only [patchS, Nat.reduceAdd, Nat.reduceEqDiff, ↓reduceIte] at hQo ⊢
          generalize xs 11 = y11 at *
          subst d11
          go_wp2
          exact hK.out _ _ ⟨rfl, hG, fun _ _ _ _ _ _ h => h⟩
        · intro kx xs wx hk hG hD hI Qo Kx hK hQo
          have d12 : (xs 12) = .agg #[.int .i64 W, .int .i64 H, .slice a8 n c8] := hD 12 rfl
          have d13 : (xs 13) = .int .i64 q := hD 13 rfl
          have d11 : (xs 11) = .bool true := hD 11 rfl
          clear hD
          clear hI
          simp only [patchS, Nat.reduceAdd, Nat.reduceEqDiff, ↓reduceIte] at hQo ⊢
          generalize xs 12 = y12 at *
          generalize xs 13 = y13 at *
          generalize xs 11 = y11 at *
          subst d12
          subst d13
          subst d11
          go_wp2_with fail
          refine (HD.out _ (hT.ext (E7.trans hG)) (s10.ext hG)).mono ?_
          rintro e wz ⟨az, cz, rfl, ownz, ez⟩
          go_wp2
          exact hK.out _ _ ⟨⟨az, cz, rfl, Sl.of_owns ownz⟩, hG.trans ez, fun i _ _ _ own ys h => Hext.out i own ys _ _ ez h⟩
        · intro kx xs wx hk hG hD hI Qo Kx hK hQo
          have d11 : (xs 11) = .bool true := hD 11 rfl
          clear hD
          clear hI
          simp only [patchS, Nat.reduceAdd, Nat.reduceEqDiff, ↓reduceIte] at hQo ⊢
          generalize xs 11 = y11 at *
          subst d11
          obtain ⟨k0, k1, k2⟩ := (f10.ext hG).cells
          go_wp2
          exact hK.out _ _ ⟨rfl, hG, fun _ _ _ _ _ _ h => h⟩
        · intro kx xs wx hk hG hD hI Qo Kx hK hQo
          have d14 : ∃ (a2 : Option Addr) (c2 : Nat), (xs 14) = .agg #[.int .i64 W, .int .i64 H, .slice a2 n c2] ∧ Sl wx a2 n ((List.replicate n v).map (Value.int .i64)) := hD 14 rfl
          have d15 : (xs 15) = .agg #[.int .i64 W, .int .i64 H, .slice a8 n c8] := hD 15 rfl
          have d11 : (xs 11) = .bool true := hD 11 rfl
          clear hD
          clear hI
          simp only [patchS, Nat.reduceAdd, Nat.reduceEqDiff, ↓reduceIte] at hQo ⊢
          generalize xs 14 = y14 at *
          generalize xs 15 = y15 at *
          generalize xs 11 = y11 at *
          obtain ⟨a14, c14, rfl, o14⟩ := d14
          subst d15
          subst d11
          go_wp2_with fail
          refine (samePicture_same W H a14 a8 c14 c8 n (List.replicate n v) _ (by omega) o14 (s10.ext hG)).mono ?_
          rintro e wz ⟨rfl, ez⟩
          go_wp2
          exact hK.out _ _ ⟨rfl, hG.trans ez, fun i _ _ _ own ys h => Hext.out i own ys _ _ ez h⟩
        · intro kx xs wx hk hG hD hI Qo Kx hK hQo
          have d11 : (xs 11) = .bool true := hD 11 rfl
          have d16 : (xs 16) = .bool true := hD 16 rfl
          clear hD
          clear hI
          simp only [patchS, Nat.reduceAdd, Nat.reduceEqDiff, ↓reduceIte] at hQo ⊢
          generalize xs 11 = y11 at *
          generalize xs 16 = y16 at *
          subst d11
          subst d16
          go_wp2
          exact hK.out _ _ ⟨rfl, hG, fun _ _ _ _ _ _ h => h⟩
        · intro kx xs wx hk hG hD hI Qo Kx hK hQo
          have d17 : (xs 17) = .bool true := hD 17 rfl
          clear hD
          clear hI
          simp only [patchS, Nat.reduceAdd, Nat.reduceEqDiff, ↓reduceIte] at hQo ⊢
          generalize xs 17 = y17 at *
          subst d17
          go_wp2
          exact hK.out _ _ ⟨rfl, hG, fun _ _ _ _ _ _ h => h⟩
      clear Hext
      intro xs wx hV hG
      have d0 : (xs 0) = .agg #[.int .i64 R.w, .int .i64 R.h, .slice a3 k c3] := hV 0 (by decide)
      have d1 : (xs 1) = .bool true := hV 1 (by decide)
      have d2 : (xs 2) = .bool true := hV 2 (by decide)
      have d3 : (xs 3) = .int .i64 q := hV 3 (by decide)
      have d4 : (xs 4) = .bool true := hV 4 (by decide)
      have d5 : (xs 5) = .bool true := hV 5 (by decide)
      have d9 : (xs 9) = .bool true := hV 9 (by decide)
      have d10 : (xs 10) = .bool true := hV 10 (by decide)
      have d11 : (xs 11) = .bool true := hV 11 (by decide)
      have d12 : (xs 12) = .agg #[.int .i64 W, .int .i64 H, .slice a8 n c8] := hV 12 (by decide)
      have d13 : (xs 13) = .int .i64 q := hV 13 (by decide)
      have d14 : ∃ (a2 : Option Addr) (c2 : Nat), (xs 14) = .agg #[.int .i64 W, .int .i64 H, .slice a2 n c2] ∧ Sl wx a2 n ((List.replicate n v).map (Value.int .i64)) := hV 14 (by decide)
      have d15 : (xs 15) = .agg #[.int .i64 W, .int .i64 H, .slice a8 n c8] := hV 15 (by decide)
      have d16 : (xs 16) = .bool true := hV 16 (by decide)
      have d17 : (xs 17) = .bool true := hV 17 (by decide)
      have d18 : (xs 18) = .bool true := hV 18 (by decide)
      clear hV
      simp only [patchS, Nat.reduceAdd, Nat.reduceEqDiff, ↓reduceIte]
      generalize xs 0 = y0 at *
      generalize xs 1 = y1 at *
      generalize xs 2 = y2 at *
      generalize xs 3 = y3 at *
      generalize xs 4 = y4 at *
      generalize xs 5 = y5 at *
      generalize xs 6 = y6 at *
      generalize xs 7 = y7 at *
      generalize xs 8 = y8 at *
      generalize xs 9 = y9 at *
      generalize xs 10 = y10 at *
      generalize xs 11 = y11 at *
      generalize xs 12 = y12 at *
      generalize xs 13 = y13 at *
      generalize xs 14 = y14 at *
      generalize xs 15 = y15 at *
      generalize xs 16 = y16 at *
      generalize xs 17 = y17 at *
      generalize xs 18 = y18 at *
      replace hG : Ext w7 wx := hG
      clear d0 d1 d2 d3 d4 d5 d9 d10 d11 d12 d13 d14 d15 d16 d17
      subst d18
      go_wp2
      go_ret
      exact ⟨rfl, E7.trans hG⟩
    · have hdq3 : decide (2 < q) = false := by simpa using hq2
      have hRp := HFI.out (by omega)
      have hkn : k = n := by rw [HK.out, hRp, HN.out]
      subst hkn
      have HRW := Lib.hid (congrArg Pic.w hRp)
      have HRH := Lib.hid (congrArg Pic.h hRp)
      have HRP := Lib.hid (congrArg Pic.px hRp)
      simp only at HRW HRH HRP
      have t7b := t7
      rw [HRP.out] at t7b
      clear hRp
      go_upto_region 10 with fail
      have hext : ∀ (i : Nat) (own : Value) (ys : Nat → Value) (wa wb : World), Ext wa wb → (match i with | 0 => own = .agg #[.int .i64 R.w, .int .i64 R.h, .slice a3 k c3] | 1 => own = .bool true | 2 => own = .bool true | 3 => own = .int .i64 q | 4 => own = .bool false | 5 => own = .bool false | 6 => own = .agg #[.int .i64 R.w, .int .i64 R.h, .slice a3 k c3] | 7 => own = .agg #[.int .i64 W, .int .i64 H, .slice (some ⟨b0, o0, none⟩) k c] | 8 => own = .bool true | 9 => own = .bool true | 10 => own = .bool true | 11 => own = .bool true | 12 => own = .agg #[.int .i64 W, .int .i64 H, .slice a8 k c8] | 13 => own = .int .i64 q | 14 => ∃ (a2 : Option Addr) (c2 : Nat), own = .agg #[.int .i64 W, .int .i64 H, .slice a2 k c2] ∧ Sl wa a2 k ((List.replicate k v).map (Value.int .i64)) | 15 => own = .agg #[.int .i64 W, .int .i64 H, .slice a8 k c8] | 16 => own = .bool true | 17 => own = .bool true | 18 => own = .bool true | _ => True) → (match i with | 0 => own = .agg #[.int .i64 R.w, .int .i64 R.h, .slice a3 k c3] | 1 => own = .bool true | 2 => own = .bool true | 3 => own = .int .i64 q | 4 => own = .bool false | 5 => own = .bool false | 6 => own = .agg #[.int .i64 R.w, .int .i64 R.h, .slice a3 k c3] | 7 => own = .agg #[.int .i64 W, .int .i64 H, .slice (some ⟨b0, o0, none⟩) k c] | 8 => own = .bool true | 9 => own = .bool true | 10 => own = .bool true | 11 => own = .bool true | 12 => own = .agg #[.int .i64 W, .int .i64 H, .slice a8 k c8] | 13 => own = .int .i64 q | 14 => ∃ (a2 : Option Addr) (c2 : Nat), own = .agg #[.int .i64 W, .int .i64 H, .slice a2 k c2] ∧ Sl wb a2 k ((List.replicate k v).map (Value.int .i64)) | 15 => own = .agg #[.int .i64 W, .int .i64 H, .slice a8 k c8] | 16 => own = .bool true | 17 => own = .bool true | 18 => own = .bool true | _ => True) := by
        intro i own ys wa wb e h
        match i, h with
        | 0, h => exact h
        | 1, h => exact h
        | 2, h => exact h
        | 3, h => exact h
        | 4, h => exact h
        | 5, h => exact h
        | 6, h => exact h
        | 7, h => exact h
        | 8, h => exact h
        | 9, h => exact h
        | 10, h => exact h
        | 11, h => exact h
        | 12, h => exact h
        | 13, h => exact h
        | 14, h => obtain ⟨a2, c2, h1, h2⟩ := h; exact ⟨a2, c2, h1, h2.ext e⟩
        | 15, h => exact h
        | 16, h => exact h
        | 17, h => exact h
        | 18, h => exact h
        | _ + 19, _ => trivial
      have Hext := Lib.hid hext
      clear hext
      refine wp_region_inv2 (by kernel_rfl) [(2, 18), (51, 0), (52, 1), (53, 2), (54, 3), (55, 4), (56, 5), (57, 6), (58, 7), (59, 8), (60, 9), (61, 10), (62, 11), (63, 12), (64, 13), (65, 14), (66, 15), (67, 16), (68, 17)] [[], [0], [0, 1], [0, 1, 2], [0, 1, 2, 3], [0, 1, 2, 3, 4], [0, 1, 2, 3, 4, 5], [0, 1, 2, 3, 4, 5], [0, 1, 2, 3, 4, 5, 6, 7], [0, 1, 2, 3, 4, 5, 6, 7, 8], [0, 1, 2, 3, 4, 5, 6, 7, 8, 9], [0, 1, 2, 3, 4, 5, 6, 7, 8, 9, 10], [0, 1, 2, 3, 4, 5, 6, 7, 8, 9, 10, 11], [0, 1, 2, 3, 4, 5, 6, 7, 8, 9, 10, 11], [0, 1, 2, 3, 4, 5, 6, 7, 8, 9, 10, 11, 12, 13], [0, 1, 2, 3, 4, 5, 6, 7, 8, 9, 10, 11], [0, 1, 2, 3, 4, 5, 6, 7, 8, 9, 10, 11, 12, 13, 14, 15], [0, 1, 2, 3, 4, 5, 6, 7, 8, 9, 10, 11, 12, 13, 14, 15, 16], [0, 1, 2, 3, 4, 5, 6, 7, 8, 9, 10, 11, 12, 13, 14, 15, 16, 17]] (fun i own ys wx => match i with | 0 => own = .agg #[.int .i64 R.w, .int .i64 R.h, .slice a3 k c3] | 1 => own = .bool true | 2 => own = .bool true | 3 => own = .int .i64 q | 4 => own = .bool false | 5 => own = .bool false | 6 => own = .agg #[.int .i64 R.w, .int .i64 R.h, .slice a3 k c3] | 7 => own = .agg #[.int .i64 W, .int .i64 H, .slice (some ⟨b0, o0, none⟩) k c] | 8 => own = .bool true | 9 => own = .bool true | 10 => own = .bool true | 11 => own = .bool true | 12 => own = .agg #[.int .i64 W, .int .i64 H, .slice a8 k c8] | 13 => own = .int .i64 q | 14 => ∃ (a2 : Option Addr) (c2 : Nat), own = .agg #[.int .i64 W, .int .i64 H, .slice a2 k c2] ∧ Sl wx a2 k ((List.replicate k v).map (Value.int .i64)) | 15 => own = .agg #[.int .i64 W, .int .i64 H, .slice a8 k c8] | 16 => own = .bool true | 17 => own = .bool true | 18 => own = .bool true | _ => True) (fun kx wx => Ext w7 wx) (by kernel_rfl) (by kernel_rfl) (by kernel_rfl) ?g0_r4 ?gop_r4 ?gend_r4
      case g0_r4 => exact Ext.drewN _ 1
      case gop_r4 =>
        refine ⟨?_, ?_, ?_, ?_, ?_, ?_, ?_, ?_, ?_, ?_, ?_, ?_, ?_, ?_, ?_, ?_, ?_, ?_, ?_, trivial⟩
        · intro kx xs wx hk hG hD hI Qo Kx hK hQo
          clear hD
          clear hI
          simp only [patchS, Nat.reduceAdd, Nat.reduceEqDiff, ↓reduceIte] at hQo ⊢
          obtain ⟨k0, k1, k2⟩ := (X7.ext hG).cells
          go_wp2
          exact hK.out _ _ ⟨rfl, hG, fun _ _ _ _ _ _ h => h⟩
        · intro kx xs wx hk hG hD hI Qo Kx hK hQo
          have d0 : (xs 0) = .agg #[.int .i64 R.w, .int .i64 R.h, .slice a3 k c3] := hD 0 rfl
          clear hD
          clear hI
          simp only [patchS, Nat.reduceAdd, Nat.reduceEqDiff, ↓reduceIte] at hQo ⊢
          generalize xs 0 = y0 at *
          subst d0
          go_wp2_with fail
          refine (HPV.out _ (t7.ext hG)).mono ?_
          rintro e wz ⟨rfl, ez⟩
          go_wp2
          exact hK.out _ _ ⟨rfl, hG.trans ez, fun i _ _ _ own ys h => Hext.out i own ys _ _ ez h⟩
        · intro kx xs wx hk hG hD hI Qo Kx hK hQo
          have d1 : (xs 1) = .bool true := hD 1 rfl
          clear hD
          clear hI
          simp only [patchS, Nat.reduceAdd, Nat.reduceEqDiff, ↓reduceIte] at hQo ⊢
          generalize xs 1 = y1 at *
          subst d1
          go_wp2
          exact hK.out _ _ ⟨rfl, hG, fun _ _ _ _ _ _ h => h⟩
        · intro kx xs wx hk hG hD hI Qo Kx hK hQo
          have d2 : (xs 2) = .bool true := hD 2 rfl
          clear hD
          clear hI
          simp only [patchS, Nat.reduceAdd, Nat.reduceEqDiff, ↓reduceIte] at hQo ⊢
          generalize xs 2 = y2 at *
          subst d2
          go_wp2
          exact hK.out _ _ ⟨rfl, hG, fun _ _ _ _ _ _ h => h⟩
        · intro kx xs wx hk hG hD hI Qo Kx hK hQo
          have d3 : (xs 3) = .int .i64 q := hD 3 rfl
          have d2 : (xs 2) = .bool true := hD 2 rfl
          clear hD
          clear hI
          simp only [patchS, Nat.reduceAdd, Nat.reduceEqDiff, ↓reduceIte] at hQo ⊢
          generalize xs 3 = y3 at *
          generalize xs 2 = y2 at *
          subst d3
          subst d2
          go_wp2
          exact hK.out _ _ ⟨rfl, hG, fun _ _ _ _ _ _ h => h⟩
        · intro kx xs wx hk hG hD hI Qo Kx hK hQo
          have d4 : (xs 4) = .bool false := hD 4 rfl
          have d2 : (xs 2) = .bool true := hD 2 rfl
          clear hD
          clear hI
          simp only [patchS, Nat.reduceAdd, Nat.reduceEqDiff, ↓reduceIte] at hQo ⊢
          generalize xs 4 = y4 at *
          generalize xs 2 = y2 at *
          subst d4
          subst d2
          go_wp2
          exact hK.out _ _ ⟨rfl, hG, fun _ _ _ _ _ _ h => h⟩
        · intro kx xs wx hk hG hD hI Qo Kx hK hQo
          have d5 : (xs 5) = .bool false := hD 5 rfl
          clear hD
          clear hI
          simp only [patchS, Nat.reduceAdd, Nat.reduceEqDiff, ↓reduceIte] at hQo ⊢
          generalize xs 5 = y5 at *
          subst d5
          obtain ⟨k0, k1, k2⟩ := (X7.ext hG).cells
          go_wp2
          exact hK.out _ _ ⟨rfl, hG, fun _ _ _ _ _ _ h => h⟩
        · intro kx xs wx hk hG hD hI Qo Kx hK hQo
          have d5 : (xs 5) = .bool false := hD 5 rfl
          clear hD
          clear hI
          simp only [patchS, Nat.reduceAdd, Nat.reduceEqDiff, ↓reduceIte] at hQo ⊢
          generalize xs 5 = y5 at *
          subst d5
          obtain ⟨k0, k1, k2⟩ := (P7.ext hG).cells
          go_wp2
          exact hK.out _ _ ⟨rfl, hG, fun _ _ _ _ _ _ h => h⟩
        · intro kx xs wx hk hG hD hI Qo Kx hK hQo
          have d6 : (xs 6) = .agg #[.int .i64 R.w, .int .i64 R.h, .slice a3 k c3] := hD 6 rfl
          have d7 : (xs 7) = .agg #[.int .i64 W, .int .i64 H, .slice (some ⟨b0, o0, none⟩) k c] := hD 7 rfl
          have d5 : (xs 5) = .bool false := hD 5 rfl
          clear hD
          clear hI
          simp only [patchS, Nat.reduceAdd, Nat.reduceEqDiff, ↓reduceIte] at hQo ⊢
          generalize xs 6 = y6 at *
          generalize xs 7 = y7 at *
          generalize xs 5 = y5 at *
          subst d6
          subst d7
          subst d5
          go_wp2_with fail
          refine (samePicture_eqv R.w R.h W H HRW.out HRH.out a3 (some ⟨b0, o0, none⟩) c3 c k zs _ (by omega) (t7b.ext hG) (s7.ext hG)).mono ?_
          rintro e wz ⟨rfl, ez⟩
          go_wp2
          exact hK.out _ _ ⟨rfl, hG.trans ez, fun i _ _ _ own ys h => Hext.out i own ys _ _ ez h⟩
        · intro kx xs wx hk hG hD hI Qo Kx hK hQo
          have d5 : (xs 5) = .bool false := hD 5 rfl
          have d8 : (xs 8) = .bool true := hD 8 rfl
          have d2 : (xs 2) = .bool true := hD 2 rfl
          clear hD
          clear hI
          simp only [patchS, Nat.reduceAdd, Nat.reduceEqDiff, ↓reduceIte] at hQo ⊢
          generalize xs 5 = y5 at *
          generalize xs 8 = y8 at *
          generalize xs 2 = y2 at *
          subst d5
          subst d8
          subst d2
          go_wp2
          exact hK.out _ _ ⟨rfl, hG, fun _ _ _ _ _ _ h => h⟩
        · intro kx xs wx hk hG hD hI Qo Kx hK hQo
          have d2 : (xs 2) = .bool true := hD 2 rfl
          have d9 : (xs 9) = .bool true := hD 9 rfl
          clear hD
          clear hI
          simp only [patchS, Nat.reduceAdd, Nat.reduceEqDiff, ↓reduceIte] at hQo ⊢
          generalize xs 2 = y2 at *
          generalize xs 9 = y9 at *
          subst d2
          subst d9
          go_wp2
          exact hK.out _ _ ⟨rfl, hG, fun _ _ _ _ _ _ h => h⟩
        · intro kx xs wx hk hG hD hI Qo Kx hK hQo
          have d10 : (xs 10) = .bool true := hD 10 rfl
          clear hD
          clear hI
          simp only [patchS, Nat.reduceAdd, Nat.reduceEqDiff, ↓reduceIte] at hQo ⊢
          generalize xs 10 = y10 at *
          subst d10
          go_wp2
          exact hK.out _ _ ⟨rfl, hG, fun _ _ _ _ _ _ h => h⟩
        · intro kx xs wx hk hG hD hI Qo Kx hK hQo
          have d11 : (xs 11) = .bool true := hD 11 rfl
          clear hD
          clear hI
          simp only [patchS, Nat.reduceAdd, Nat.reduceEqDiff, ↓reduceIte] at hQo ⊢
          generalize xs 11 = y11 at *
          subst d11
          obtain ⟨k0, k1, k2⟩ := (f10.ext hG).cells
          go_wp2
          exact hK.out _ _ ⟨rfl, hG, fun _ _ _ _ _ _ h => h⟩
        · intro kx xs wx hk hG hD hI Qo Kx hK hQo
          have d11 : (xs 11) = .bool true := hD 11 rfl
          clear hD
          clear hI
          simp only [patchS, Nat.reduceAdd, Nat.reduceEqDiff, ↓reduceIte] at hQo ⊢
          generalize xs 11 = y11 at *
          subst d11
          go_wp2
          exact hK.out _ _ ⟨rfl, hG, fun _ _ _ _ _ _ h => h⟩
        · intro kx xs wx hk hG hD hI Qo Kx hK hQo
          have d12 : (xs 12) = .agg #[.int .i64 W, .int .i64 H, .slice a8 k c8] := hD 12 rfl
          have d13 : (xs 13) = .int .i64 q := hD 13 rfl
          have d11 : (xs 11) = .bool true := hD 11 rfl
          clear hD
          clear hI
          simp only [patchS, Nat.reduceAdd, Nat.reduceEqDiff, ↓reduceIte] at hQo ⊢
          generalize xs 12 = y12 at *
          generalize xs 13 = y13 at *
          generalize xs 11 = y11 at *
          subst d12
          subst d13
          subst d11
          go_wp2_with fail
          refine (HD.out _ (hT.ext (E7.trans hG)) (s10.ext hG)).mono ?_
          rintro e wz ⟨az, cz, rfl, ownz, ez⟩
          go_wp2
          exact hK.out _ _ ⟨⟨az, cz, rfl, Sl.of_owns ownz⟩, hG.trans ez, fun i _ _ _ own ys h => Hext.out i own ys _ _ ez h⟩
        · intro kx xs wx hk hG hD hI Qo Kx hK hQo
          have d11 : (xs 11) = .bool true := hD 11 rfl
          clear hD
          clear hI
          simp only [patchS, Nat.reduceAdd, Nat.reduceEqDiff, ↓reduceIte] at hQo ⊢
          generalize xs 11 = y11 at *
          subst d11
          obtain ⟨k0, k1, k2⟩ := (f10.ext hG).cells
          go_wp2
          exact hK.out _ _ ⟨rfl, hG, fun _ _ _ _ _ _ h => h⟩
        · intro kx xs wx hk hG hD hI Qo Kx hK hQo
          have d14 : ∃ (a2 : Option Addr) (c2 : Nat), (xs 14) = .agg #[.int .i64 W, .int .i64 H, .slice a2 k c2] ∧ Sl wx a2 k ((List.replicate k v).map (Value.int .i64)) := hD 14 rfl
          have d15 : (xs 15) = .agg #[.int .i64 W, .int .i64 H, .slice a8 k c8] := hD 15 rfl
          have d11 : (xs 11) = .bool true := hD 11 rfl
          clear hD
          clear hI
          simp only [patchS, Nat.reduceAdd, Nat.reduceEqDiff, ↓reduceIte] at hQo ⊢
          generalize xs 14 = y14 at *
          generalize xs 15 = y15 at *
          generalize xs 11 = y11 at *
          obtain ⟨a14, c14, rfl, o14⟩ := d14
          subst d15
          subst d11
          go_wp2_with fail
          refine (samePicture_same W H a14 a8 c14 c8 k (List.replicate k v) _ (by omega) o14 (s10.ext hG)).mono ?_
          rintro e wz ⟨rfl, ez⟩
          go_wp2
          exact hK.out _ _ ⟨rfl, hG.trans ez, fun i _ _ _ own ys h => Hext.out i own ys _ _ ez h⟩
        · intro kx xs wx hk hG hD hI Qo Kx hK hQo
          have d11 : (xs 11) = .bool true := hD 11 rfl
          have d16 : (xs 16) = .bool true := hD 16 rfl
          clear hD
          clear hI
          simp only [patchS, Nat.reduceAdd, Nat.reduceEqDiff, ↓reduceIte] at hQo ⊢
          generalize xs 11 = y11 at *
          generalize xs 16 = y16 at *
          subst d11
          subst d16
          go_wp2
          exact hK.out _ _ ⟨rfl, hG, fun _ _ _ _ _ _ h => h⟩
        · intro kx xs wx hk hG hD hI Qo Kx hK hQo
          have d17 : (xs 17) = .bool true := hD 17 rfl
          clear hD
          clear hI
          simp only [patchS, Nat.reduceAdd, Nat.reduceEqDiff, ↓reduceIte] at hQo ⊢
          generalize xs 17 = y17 at *
          subst d17
          go_wp2
          exact hK.out _ _ ⟨rfl, hG, fun _ _ _ _ _ _ h => h⟩
      clear Hext
      intro xs wx hV hG
      have d0 : (xs 0) = .agg #[.int .i64 R.w, .int .i64 R.h, .slice a3 k c3] := hV 0 (by decide)
      have d1 : (xs 1) = .bool true := hV 1 (by decide)
      have d2 : (xs 2) = .bool true := hV 2 (by decide)
      have d3 : (xs 3) = .int .i64 q := hV 3 (by decide)
      have d4 : (xs 4) = .bool false := hV 4 (by decide)
      have d5 : (xs 5) = .bool false := hV 5 (by decide)
      have d6 : (xs 6) = .agg #[.int .i64 R.w, .int .i64 R.h, .slice a3 k c3] := hV 6 (by decide)
      have d7 : (xs 7) = .agg #[.int .i64 W, .int .i64 H, .slice (some ⟨b0, o0, none⟩) k c] := hV 7 (by decide)
      have d8 : (xs 8) = .bool true := hV 8 (by decide)
      have d9 : (xs 9) = .bool true := hV 9 (by decide)
      have d10 : (xs 10) = .bool true := hV 10 (by decide)
      have d11 : (xs 11) = .bool true := hV 11 (by decide)
      have d12 : (xs 12) = .agg #[.int .i64 W, .int .i64 H, .slice a8 k c8] := hV 12 (by decide)
      have d13 : (xs 13) = .int .i64 q := hV 13 (by decide)
      have d14 : ∃ (a2 : Option Addr) (c2 : Nat), (xs 14) = .agg #[.int .i64 W, .int .i64 H, .slice a2 k c2] ∧ Sl wx a2 k ((List.replicate k v).map (Value.int .i64)) := hV 14 (by decide)
      have d15 : (xs 15) = .agg #[.int .i64 W, .int .i64 H, .slice a8 k c8] := hV 15 (by decide)
      have d16 : (xs 16) = .bool true := hV 16 (by decide)
      have d17 : (xs 17) = .bool true := hV 17 (by decide)
      have d18 : (xs 18) = .bool true := hV 18 (by decide)
      clear hV
      simp only [patchS, Nat.reduceAdd, Nat.reduceEqDiff, ↓reduceIte]
      generalize xs 0 = y0 at *
      generalize xs 1 = y1 at *
      generalize xs 2 = y2 at *
      generalize xs 3 = y3 at *
      generalize xs 4 = y4 at *
      generalize xs 5 = y5 at *
      generalize xs 6 = y6 at *
      generalize xs 7 = y7 at *
      generalize xs 8 = y8 at *
      generalize xs 9 = y9 at *
      generalize xs 10 = y10 at *
      generalize xs 11 = y11 at *
      generalize xs 12 = y12 at *
      generalize xs 13 = y13 at *
      generalize xs 14 = y14 at *
      generalize xs 15 = y15 at *
      generalize xs 16 = y16 at *
      generalize xs 17 = y17 at *
      generalize xs 18 = y18 at *
      replace hG : Ext w7 wx := hG
      clear d0 d1 d2 d3 d4 d5 d6 d7 d8 d9 d10 d11 d12 d13 d14 d15 d16 d17
      subst d18
      go_wp2
      go_ret
      exact ⟨rfl, E7.trans hG⟩
  · have hx := HR2.out
    unfold dbPic at hx
    rw [if_neg hv] at hx
    have hk0 : k = 0 := by rw [HK.out, hx]; rfl
    subst hk0
    have HX := Lib.hid hx
    clear hx
    obtain ⟨k0, k1, k2⟩ := X6.cells
    have hft : (decide p.valid = false) ∨ (decide p.valid = true ∧ decide (q < 0) = true) ∨ (decide p.valid = true ∧ decide (q < 0) = false ∧ decide (15 < q) = true) := by
      simp only [decide_eq_true_eq, decide_eq_false_iff_not]
      by_cases hpv : p.valid
      · by_cases h2 : q < 0
        · exact .inr (.inl ⟨hpv, h2⟩)
        · exact .inr (.inr ⟨hpv, h2, Int.not_le.1 (fun h3 => hv ⟨hpv, by omega, h3⟩)⟩)
      · exact .inl hpv
    clear hv HI HS HV
    rcases hft with d1 | ⟨d1, d2⟩ | ⟨d1, d2, d3⟩
    all_goals
      rw [d1]
      clear d1
      go_wp2_with fail
      refine (alive_any _).mono ?_
      rintro e w9 ⟨rfl, e9⟩
      go_wp2
      go_ret
      exact ⟨rfl, E6.trans e9⟩
end Go.Proofs.YtlmoeabchiddnaaDoor
