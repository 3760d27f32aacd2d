/- Packets: contracts of PacketBytes. -/
import Derived.Test.YtpjjadmjdafkeaaK2
import Derived.Test.YtpjjadmjdafkeaaKeep
import Derived.Test.YtpjjadmjdafkeaaRegion
import Derived.Test.YtpjjadmjdafkeaaOwn
namespace Go.Proofs.Ytpjjadmjdafkeaa
open Go.RowKit
set_option maxHeartbeats 1000000

theorem wrap8 {n : Int} (h0 : 0 ≤ n) (h1 : n ≤ 255) : IntKind.u8.wrap n = n := by
  simp [IntKind.wrap, IntKind.signed, IntKind.bits]; omega
theorem wrap8m (n : Int) : IntKind.u8.wrap n = n % 256 := by simp [IntKind.wrap, IntKind.signed, IntKind.bits]
theorem bx6 {w : World} {b : Nat} {x0 x1 x2 x3 x4 x5 : Value} {T : TypeId} (h : w.heap[b]? = some (.cells #[x0, x1, x2, x3, x4, x5] T (0, 0))) : b < w.heap.size ∧ w.cell? ⟨b, 0, none⟩ = some x0 ∧ w.cell? ⟨b, 1, none⟩ = some x1 ∧ w.cell? ⟨b, 2, none⟩ = some x2 ∧ w.cell? ⟨b, 3, none⟩ = some x3 ∧ w.cell? ⟨b, 4, none⟩ = some x4 ∧ w.cell? ⟨b, 5, none⟩ = some x5 :=
  ⟨lt_of_block h, by simp [World.cell?, h], by simp [World.cell?, h], by simp [World.cell?, h], by simp [World.cell?, h], by simp [World.cell?, h], by simp [World.cell?, h]⟩
theorem fz6 {w : World} {b : Nat} {x0 x1 x2 x3 x4 x5 : Value} {T : TypeId} (h : w.heap[b]? = some (.cells #[x0, x1, x2, x3, x4, x5] T (0, 0))) : w.frozen? ⟨b, 0, none⟩ = false ∧ w.frozen? ⟨b, 1, none⟩ = false ∧ w.frozen? ⟨b, 2, none⟩ = false ∧ w.frozen? ⟨b, 3, none⟩ = false ∧ w.frozen? ⟨b, 4, none⟩ = false ∧ w.frozen? ⟨b, 5, none⟩ = false :=
  ⟨by simp [World.frozen?, h], by simp [World.frozen?, h], by simp [World.frozen?, h], by simp [World.frozen?, h], by simp [World.frozen?, h], by simp [World.frozen?, h]⟩
theorem ext_none {w w' : World} {row : Option Nat} (g : w.grownBy w' row) (h : row = none) : Ext w w' := by
  subst h; exact Ext.grown (Below.refl _ _) g (by simp)
theorem appendPair_any (v : Value) (n : Nat) (l : List Int) (x : Int) (base : Nat) (w : World) (own : w.ownsRow base 5 1 v n (l.map (Value.int .u8))) (hbase : base ≤ w.heap.size) (hn : n ≤ 2^40) (h0 : 0 ≤ x) (h1 : x < 65536) :
    Calls Try.prog 53 #[v, .int .i64 x] w fun e w' => ∃ a c, e = .returned (.slice a (n + 2) c) ∧ w'.ownsRow base 5 1 (.slice a (n + 2) c) (n + 2) ((l ++ pair x).map (Value.int .u8)) ∧ w.grownBy w' v.ownBlock ∧
      (∀ b' n' own xs', n' ≤ n → w.ownsRow b' 5 1 own n' xs' → w'.ownsRow b' 5 1 own n' xs') := by
  obtain ⟨q, hq⟩ : ∃ q, q = x / 256 := ⟨_, rfl⟩
  obtain ⟨r, hr⟩ : ∃ r, r = x % 256 := ⟨_, rfl⟩
  have hP : Hid (pair x = [q, r]) := Lib.hid (by rw [hq, hr]; rfl)
  have hqx : x / 256 = q := hq.symm
  have hq8 : IntKind.u8.wrap q = q := wrap8 (by omega) (by omega)
  have hr8 : IntKind.u8.wrap x = r := by rw [hr]; exact wrap8m x
  clear hq hr
  go_enter Try.func53, Try.ntmps53
  go_wp2_with (at_builtin; go_loud (refine wpList_appk _ rfl (own.alloc _) (by simp; omega) _ _ 22 rfl (.int .u8 0) 1 Try.underlying22 info_uint8 rfl (by decide) rfl ⟨w.heap.size, 0, none⟩ 2 2 [.int .u8 q, .int .u8 r] rfl rfl ((Sl_new w [.int .u8 q, .int .u8 r] 5).cellsOf _ (by simp)) (by intro u hu; simp at hu; rcases hu with rfl | rfl <;> rfl) (by omega) (by omega) ?_; intro v2 w2 own2 gr2 keep2))
  obtain ⟨a2, c2, rfl⟩ := owns_form own2
  go_ret
  refine ⟨a2, c2, rfl, ?_, grownBy_trans (World.grownBy_alloc _ _ _) gr2, fun b' n' own xs' hn' ho => keep2 _ _ _ _ hn' (ho.alloc _)⟩
  rw [hP.out, List.map_append]
  exact own2
theorem flagByte_any (b : Bool) (w : World) :
    Calls Try.prog 54 #[.bool b] w fun e w' => e = .returned (.int .u8 (flag b)) ∧ w = w' := by
  cases b
  · go_enter Try.func54, Try.ntmps54
    go_wp2
    go_ret
    exact ⟨rfl, rfl⟩
  · go_enter Try.func54, Try.ntmps54
    go_wp2
    go_ret
    exact ⟨rfl, rfl⟩
abbrev pkV (p : Pkt) (a : Option Addr) (c : Nat) : Value := .agg #[.int .i64 p.num, .int .i64 p.fr, .int .i64 p.row, .int .i64 p.part, .bool p.last, .slice a p.data.length c]
set_option maxRecDepth 100000 in
theorem impl_PacketBytes_yes (num fr row part : Int) (last : Bool) (zs : List Int) (a : Option Addr) (n c : Nat) (w : World) (h : pval num fr row part n) (r : Sl w a n (zs.map (Value.int .u8))) (hb : bys zs) :
    Calls Try.prog 15 #[.agg #[.int .i64 num, .int .i64 fr, .int .i64 row, .int .i64 part, .bool last, .slice a n c]] w fun e w' => ∃ a' c', e = .returned (.slice a' (n + 9) c') ∧ w'.ownsRow w.heap.size 5 1 (.slice a' (n + 9) c') (n + 9) ((pby ⟨num, fr, row, part, last, zs⟩).map (Value.int .u8)) ∧ Ext w w' := by
  have Hv := Lib.hid h
  have Hl := Lib.hid r.int_len
  have Hb := Lib.hid hb
  obtain ⟨h1, h2, h3, h4, h5, h6, h7, h8, h9, h10⟩ := h
  clear hb
  go_enter Try.func15, Try.ntmps15
  go_wp2_with fail
  refine (impl_PacketValid_yes num fr row part last a n c _ Hv.out).mono ?_
  rintro e w1 ⟨rfl, e1⟩
  have E1 : Ext w w1 := (Ext.alloc w _).trans e1
  have p1 := e1.blk (blk_new w _)
  obtain ⟨m, m0, m1, m2, m3, m4, m5⟩ := bx6 p1
  have r1 := r.ext E1
  have hs1 := E1.size
  clear r e1 p1
  go_wp2_with fail
  have hext : ∀ (i : Nat) (own : Value) (ys : Nat → Value) (wa wb : World), Ext wa wb → (match i with | 0 => own = .pointer (some ⟨w.heap.size, 0, none⟩) | 1 => own = .int .i64 num | 2 => ∃ (a2 : Option Addr) (c2 : Nat), own = .slice a2 2 c2 ∧ wa.ownsRow w1.heap.size 5 1 (.slice a2 2 c2) 2 ((pair num).map (Value.int .u8)) | 3 => own = .pointer (some ⟨w.heap.size, 1, none⟩) | 4 => own = .int .i64 fr | 5 => ∃ (a5 : Option Addr) (c5 : Nat), own = .slice a5 4 c5 ∧ wa.ownsRow w1.heap.size 5 1 (.slice a5 4 c5) 4 ((pair num ++ pair fr).map (Value.int .u8)) | 6 => ∃ (a5 : Option Addr) (c5 : Nat), own = .slice a5 4 c5 ∧ wa.ownsRow w1.heap.size 5 1 (.slice a5 4 c5) 4 ((pair num ++ pair fr).map (Value.int .u8)) | _ => True) → (match i with | 0 => own = .pointer (some ⟨w.heap.size, 0, none⟩) | 1 => own = .int .i64 num | 2 => ∃ (a2 : Option Addr) (c2 : Nat), own = .slice a2 2 c2 ∧ wb.ownsRow w1.heap.size 5 1 (.slice a2 2 c2) 2 ((pair num).map (Value.int .u8)) | 3 => own = .pointer (some ⟨w.heap.size, 1, none⟩) | 4 => own = .int .i64 fr | 5 => ∃ (a5 : Option Addr) (c5 : Nat), own = .slice a5 4 c5 ∧ wb.ownsRow w1.heap.size 5 1 (.slice a5 4 c5) 4 ((pair num ++ pair fr).map (Value.int .u8)) | 6 => ∃ (a5 : Option Addr) (c5 : Nat), own = .slice a5 4 c5 ∧ wb.ownsRow w1.heap.size 5 1 (.slice a5 4 c5) 4 ((pair num ++ pair fr).map (Value.int .u8)) | _ => True) := by
    intro i own ys wa wb e h
    match i, h with
    | 0, h => exact h
    | 1, h => exact h
    | 2, h => obtain ⟨a2, c2, h1, h2⟩ := h; exact ⟨a2, c2, h1, owns_ext h2 e⟩
    | 3, h => exact h
    | 4, h => exact h
    | 5, h => obtain ⟨a5, c5, h1, h2⟩ := h; exact ⟨a5, c5, h1, owns_ext h2 e⟩
    | 6, h => obtain ⟨a5, c5, h1, h2⟩ := h; exact ⟨a5, c5, h1, owns_ext h2 e⟩
    | _ + 7, _ => trivial
  have Hext := Lib.hid hext
  clear hext
  refine wp_region_inv2 (by kernel_rfl) [(3, 6), (7, 0), (8, 1), (9, 2), (10, 3), (11, 4), (12, 5)] [[], [0], [0, 1], [], [3], [0, 1, 2, 3, 4], [0, 1, 2, 3, 4, 5]] (fun i own ys wx => match i with | 0 => own = .pointer (some ⟨w.heap.size, 0, none⟩) | 1 => own = .int .i64 num | 2 => ∃ (a2 : Option Addr) (c2 : Nat), own = .slice a2 2 c2 ∧ wx.ownsRow w1.heap.size 5 1 (.slice a2 2 c2) 2 ((pair num).map (Value.int .u8)) | 3 => own = .pointer (some ⟨w.heap.size, 1, none⟩) | 4 => own = .int .i64 fr | 5 => ∃ (a5 : Option Addr) (c5 : Nat), own = .slice a5 4 c5 ∧ wx.ownsRow w1.heap.size 5 1 (.slice a5 4 c5) 4 ((pair num ++ pair fr).map (Value.int .u8)) | 6 => ∃ (a5 : Option Addr) (c5 : Nat), own = .slice a5 4 c5 ∧ wx.ownsRow w1.heap.size 5 1 (.slice a5 4 c5) 4 ((pair num ++ pair fr).map (Value.int .u8)) | _ => True) (fun kx wx => Ext w1 wx) (by kernel_rfl) (by kernel_rfl) (by kernel_rfl) ?g0_r2 ?gop_r2 ?gend_r2
  case g0_r2 => exact Ext.drewN _ 1
  case gop_r2 =>
    refine ⟨?_, ?_, ?_, ?_, ?_, ?_, ?_, trivial⟩
    · intro kx xs wx hk hG hD hI Qo Kx hK hQo
      clear hD
      clear hI
      simp only [patchS, Nat.reduceAdd, Nat.reduceEqDiff, ↓reduceIte] at hQo ⊢
      go_wp2
      exact hK.out _ _ ⟨rfl, hG, fun _ _ _ _ _ _ h => h⟩
    · intro kx xs wx hk hG hD hI Qo Kx hK hQo
      have d0 : (xs 0) = .pointer (some ⟨w.heap.size, 0, none⟩) := hD 0 rfl
      clear hD
      clear hI
      simp only [patchS, Nat.reduceAdd, Nat.reduceEqDiff, ↓reduceIte] at hQo ⊢
      generalize xs 0 = y0 at *
      subst d0
      have f0 := cell_ext hG m0
      go_wp2
      exact hK.out _ _ ⟨rfl, hG, fun _ _ _ _ _ _ h => h⟩
    · intro kx xs wx hk hG hD hI Qo Kx hK hQo
      have d1 : (xs 1) = .int .i64 num := hD 1 rfl
      clear hD
      clear hI
      simp only [patchS, Nat.reduceAdd, Nat.reduceEqDiff, ↓reduceIte] at hQo ⊢
      generalize xs 1 = y1 at *
      subst d1
      go_wp2_with fail
      refine (appendPair_any (.slice none 0 0) 0 [] num w1.heap.size wx (World.ownsRow_nil _ _ _ _) hG.size (by omega) h1 (by omega)).mono ?_
      rintro e w6 ⟨a6, c6, rfl, own6, gr6, -⟩
      have e6 := ext_none gr6 rfl
      go_wp2
      exact hK.out _ _ ⟨⟨a6, c6, rfl, own6⟩, hG.trans e6, fun i _ _ _ own ys h => Hext.out i own ys _ _ e6 h⟩
    · intro kx xs wx hk hG hD hI Qo Kx hK hQo
      clear hD
      clear hI
      simp only [patchS, Nat.reduceAdd, Nat.reduceEqDiff, ↓reduceIte] at hQo ⊢
      go_wp2
      exact hK.out _ _ ⟨rfl, hG, fun _ _ _ _ _ _ h => h⟩
    · intro kx xs wx hk hG hD hI Qo Kx hK hQo
      have d3 : (xs 3) = .pointer (some ⟨w.heap.size, 1, none⟩) := hD 3 rfl
      clear hD
      clear hI
      simp only [patchS, Nat.reduceAdd, Nat.reduceEqDiff, ↓reduceIte] at hQo ⊢
      generalize xs 3 = y3 at *
      subst d3
      have f0 := cell_ext hG m1
      go_wp2
      exact hK.out _ _ ⟨rfl, hG, fun _ _ _ _ _ _ h => h⟩
    · intro kx xs wx hk hG hD hI Qo Kx hK hQo
      have d2 : ∃ (a2 : Option Addr) (c2 : Nat), (xs 2) = .slice a2 2 c2 ∧ wx.ownsRow w1.heap.size 5 1 (.slice a2 2 c2) 2 ((pair num).map (Value.int .u8)) := hD 2 rfl
      have d4 : (xs 4) = .int .i64 fr := hD 4 rfl
      clear hD
      clear hI
      simp only [patchS, Nat.reduceAdd, Nat.reduceEqDiff, ↓reduceIte] at hQo ⊢
      generalize xs 2 = y2 at *
      generalize xs 4 = y4 at *
      obtain ⟨a2, c2, rfl, o2⟩ := d2
      subst d4
      go_wp2_with fail
      refine (appendPair_any _ 2 _ fr w1.heap.size wx o2 hG.size (by omega) h3 (by omega)).mono ?_
      rintro e w6 ⟨a6, c6, rfl, own6, gr6, keep6⟩
      go_wp2
      have hst : ∀ (wy : World), (∀ b' n' own xs', n' ≤ 2 → wx.ownsRow b' 5 1 own n' xs' → wy.ownsRow b' 5 1 own n' xs') → ∀ (ii : Nat), ii < 7 → ii ≠ 5 → ([[], [0], [0, 1], [], [3], [0, 1, 2, 3, 4], [0, 1, 2, 3, 4, 5]].getD ii []).contains 5 = false → ∀ (own : Value) (ys : Nat → Value), (match ii with | 0 => own = .pointer (some ⟨w.heap.size, 0, none⟩) | 1 => own = .int .i64 num | 2 => ∃ (a2 : Option Addr) (c2 : Nat), own = .slice a2 2 c2 ∧ wx.ownsRow w1.heap.size 5 1 (.slice a2 2 c2) 2 ((pair num).map (Value.int .u8)) | 3 => own = .pointer (some ⟨w.heap.size, 1, none⟩) | 4 => own = .int .i64 fr | 5 => ∃ (a5 : Option Addr) (c5 : Nat), own = .slice a5 4 c5 ∧ wx.ownsRow w1.heap.size 5 1 (.slice a5 4 c5) 4 ((pair num ++ pair fr).map (Value.int .u8)) | 6 => ∃ (a5 : Option Addr) (c5 : Nat), own = .slice a5 4 c5 ∧ wx.ownsRow w1.heap.size 5 1 (.slice a5 4 c5) 4 ((pair num ++ pair fr).map (Value.int .u8)) | _ => True) → (match ii with | 0 => own = .pointer (some ⟨w.heap.size, 0, none⟩) | 1 => own = .int .i64 num | 2 => ∃ (a2 : Option Addr) (c2 : Nat), own = .slice a2 2 c2 ∧ wy.ownsRow w1.heap.size 5 1 (.slice a2 2 c2) 2 ((pair num).map (Value.int .u8)) | 3 => own = .pointer (some ⟨w.heap.size, 1, none⟩) | 4 => own = .int .i64 fr | 5 => ∃ (a5 : Option Addr) (c5 : Nat), own = .slice a5 4 c5 ∧ wy.ownsRow w1.heap.size 5 1 (.slice a5 4 c5) 4 ((pair num ++ pair fr).map (Value.int .u8)) | 6 => ∃ (a5 : Option Addr) (c5 : Nat), own = .slice a5 4 c5 ∧ wy.ownsRow w1.heap.size 5 1 (.slice a5 4 c5) 4 ((pair num ++ pair fr).map (Value.int .u8)) | _ => True) := by
        intro wy hy ii hii hne hc own ys h
        match ii, h with
        | 0, h => exact h
        | 1, h => exact h
        | 2, h => obtain ⟨a2, c2, h1, h2⟩ := h; exact ⟨a2, c2, h1, hy _ _ _ _ (by omega) h2⟩
        | 3, h => exact h
        | 4, h => exact h
        | 5, h => exact absurd rfl hne
        | 6, h => exact absurd hc (by decide)
        | _ + 7, _ => trivial
      exact hK.out _ _ ⟨⟨a6, c6, rfl, own6⟩, Ext.grown hG gr6 (owns_ge o2), hst _ keep6⟩
    · intro kx xs wx hk hG hD hI Qo Kx hK hQo
      have d5 : ∃ (a5 : Option Addr) (c5 : Nat), (xs 5) = .slice a5 4 c5 ∧ wx.ownsRow w1.heap.size 5 1 (.slice a5 4 c5) 4 ((pair num ++ pair fr).map (Value.int .u8)) := hD 5 rfl
      clear hD
      clear hI
      simp only [patchS, Nat.reduceAdd, Nat.reduceEqDiff, ↓reduceIte] at hQo ⊢
      generalize xs 5 = y5 at *
      obtain ⟨a5, c5, rfl, o5⟩ := d5
      go_wp2
      exact hK.out _ _ ⟨⟨_, _, rfl, o5⟩, hG, fun _ _ _ _ _ _ h => h⟩
  clear Hext
  intro xs wx hV hG
  have d0 : (xs 0) = .pointer (some ⟨w.heap.size, 0, none⟩) := hV 0 (by decide)
  have d1 : (xs 1) = .int .i64 num := hV 1 (by decide)
  have d2 : ∃ (a2 : Option Addr) (c2 : Nat), (xs 2) = .slice a2 2 c2 ∧ wx.ownsRow w1.heap.size 5 1 (.slice a2 2 c2) 2 ((pair num).map (Value.int .u8)) := hV 2 (by decide)
  have d3 : (xs 3) = .pointer (some ⟨w.heap.size, 1, none⟩) := hV 3 (by decide)
  have d4 : (xs 4) = .int .i64 fr := hV 4 (by decide)
  have d5 : ∃ (a5 : Option Addr) (c5 : Nat), (xs 5) = .slice a5 4 c5 ∧ wx.ownsRow w1.heap.size 5 1 (.slice a5 4 c5) 4 ((pair num ++ pair fr).map (Value.int .u8)) := hV 5 (by decide)
  have d6 : ∃ (a5 : Option Addr) (c5 : Nat), (xs 6) = .slice a5 4 c5 ∧ wx.ownsRow w1.heap.size 5 1 (.slice a5 4 c5) 4 ((pair num ++ pair fr).map (Value.int .u8)) := hV 6 (by decide)
  clear hV
  simp only [patchS, Nat.reduceAdd, Nat.reduceEqDiff, ↓reduceIte]
  generalize xs 0 = y0 at *
  generalize xs 1 = y1 at *
  generalize xs 2 = y2 at *
  generalize xs 3 = y3 at *
  generalize xs 4 = y4 at *
  generalize xs 5 = y5 at *
  generalize xs 6 = y6 at *
  replace hG : Ext w1 wx := hG
  clear d0 d1 d2 d3 d4 d5
  obtain ⟨a6, c6, rfl, o6⟩ := d6
  have Ew : Ext w1 wx := hG
  clear hG
  generalize wx = w2 at *
  have hrow8 : IntKind.u8.wrap row = row := wrap8 h5 (by omega)
  have hpart8 : IntKind.u8.wrap part = part := wrap8 h7 h8
  go_wp2_with fail
  have hext : ∀ (i : Nat) (own : Value) (ys : Nat → Value) (wa wb : World), Ext wa wb → (match i with | 0 => own = .slice a6 4 c6 | 1 => own = .pointer (some ⟨w.heap.size, 2, none⟩) | 2 => own = .int .i64 row | 3 => own = .int .u8 row | 4 => own = .pointer (some ⟨w.heap.size, 3, none⟩) | 5 => own = .int .i64 part | 6 => own = .int .u8 part | 7 => own = .pointer (some ⟨w.heap.size, 4, none⟩) | 8 => own = .bool last | 9 => own = .int .u8 (flag last) | 10 => ∃ (q : Nat), own = .slice (some ⟨q, 0, none⟩) 3 3 ∧ wa.ownsRow w1.heap.size 5 1 (.slice (some ⟨q, 0, none⟩) 3 3) 3 [.int .u8 row, .int .u8 part, .int .u8 (flag last)] | 11 => ∃ (a14 : Option Addr) (c14 : Nat), own = .slice a14 7 c14 ∧ wa.ownsRow w1.heap.size 5 1 (.slice a14 7 c14) 7 ((phead ⟨num, fr, row, part, last, zs⟩).map (Value.int .u8)) | 12 => ∃ (a14 : Option Addr) (c14 : Nat), own = .slice a14 7 c14 ∧ wa.ownsRow w1.heap.size 5 1 (.slice a14 7 c14) 7 ((phead ⟨num, fr, row, part, last, zs⟩).map (Value.int .u8)) | _ => True) → (match i with | 0 => own = .slice a6 4 c6 | 1 => own = .pointer (some ⟨w.heap.size, 2, none⟩) | 2 => own = .int .i64 row | 3 => own = .int .u8 row | 4 => own = .pointer (some ⟨w.heap.size, 3, none⟩) | 5 => own = .int .i64 part | 6 => own = .int .u8 part | 7 => own = .pointer (some ⟨w.heap.size, 4, none⟩) | 8 => own = .bool last | 9 => own = .int .u8 (flag last) | 10 => ∃ (q : Nat), own = .slice (some ⟨q, 0, none⟩) 3 3 ∧ wb.ownsRow w1.heap.size 5 1 (.slice (some ⟨q, 0, none⟩) 3 3) 3 [.int .u8 row, .int .u8 part, .int .u8 (flag last)] | 11 => ∃ (a14 : Option Addr) (c14 : Nat), own = .slice a14 7 c14 ∧ wb.ownsRow w1.heap.size 5 1 (.slice a14 7 c14) 7 ((phead ⟨num, fr, row, part, last, zs⟩).map (Value.int .u8)) | 12 => ∃ (a14 : Option Addr) (c14 : Nat), own = .slice a14 7 c14 ∧ wb.ownsRow w1.heap.size 5 1 (.slice a14 7 c14) 7 ((phead ⟨num, fr, row, part, last, zs⟩).map (Value.int .u8)) | _ => True) := by
    intro i own ys wa wb e h
    match i, h with
    | 0, h => exact h
    | 1, h => exact h
    | 2, h => exact h
    | 3, h => exact h
    | 4, h => exact h
    | 5, h => exact h
    | 6, h => exact h
    | 7, h => exact h
    | 8, h => exact h
    | 9, h => exact h
    | 10, h => obtain ⟨q, h1, h2⟩ := h; exact ⟨q, h1, owns_ext h2 e⟩
    | 11, h => obtain ⟨a14, c14, h1, h2⟩ := h; exact ⟨a14, c14, h1, owns_ext h2 e⟩
    | 12, h => obtain ⟨a14, c14, h1, h2⟩ := h; exact ⟨a14, c14, h1, owns_ext h2 e⟩
    | _ + 13, _ => trivial
  have Hext := Lib.hid hext
  clear hext
  refine wp_region_inv2 (by kernel_rfl) [(3, 12), (13, 0), (14, 1), (15, 2), (16, 3), (17, 4), (18, 5), (19, 6), (20, 7), (21, 8), (22, 9), (23, 10), (24, 11)] [[], [], [1], [1, 2], [], [4], [4, 5], [], [7], [7, 8], [1, 2, 3, 4, 5, 6, 7, 8, 9], [0, 1, 2, 3, 4, 5, 6, 7, 8, 9, 10], [0, 1, 2, 3, 4, 5, 6, 7, 8, 9, 10, 11]] (fun i own ys wx => match i with | 0 => own = .slice a6 4 c6 | 1 => own = .pointer (some ⟨w.heap.size, 2, none⟩) | 2 => own = .int .i64 row | 3 => own = .int .u8 row | 4 => own = .pointer (some ⟨w.heap.size, 3, none⟩) | 5 => own = .int .i64 part | 6 => own = .int .u8 part | 7 => own = .pointer (some ⟨w.heap.size, 4, none⟩) | 8 => own = .bool last | 9 => own = .int .u8 (flag last) | 10 => ∃ (q : Nat), own = .slice (some ⟨q, 0, none⟩) 3 3 ∧ wx.ownsRow w1.heap.size 5 1 (.slice (some ⟨q, 0, none⟩) 3 3) 3 [.int .u8 row, .int .u8 part, .int .u8 (flag last)] | 11 => ∃ (a14 : Option Addr) (c14 : Nat), own = .slice a14 7 c14 ∧ wx.ownsRow w1.heap.size 5 1 (.slice a14 7 c14) 7 ((phead ⟨num, fr, row, part, last, zs⟩).map (Value.int .u8)) | 12 => ∃ (a14 : Option Addr) (c14 : Nat), own = .slice a14 7 c14 ∧ wx.ownsRow w1.heap.size 5 1 (.slice a14 7 c14) 7 ((phead ⟨num, fr, row, part, last, zs⟩).map (Value.int .u8)) | _ => True) (fun kx wx => Ext w1 wx ∧ wx.ownsRow w1.heap.size 5 1 (.slice a6 4 c6) 4 ((pair num ++ pair fr).map (Value.int .u8))) (by kernel_rfl) (by kernel_rfl) (by kernel_rfl) ?g0_r3 ?gop_r3 ?gend_r3
  case g0_r3 => exact ⟨Ew.trans (Ext.drewN _ 1), owns_ext o6 (Ext.drewN _ 1)⟩
  case gop_r3 =>
    refine ⟨?_, ?_, ?_, ?_, ?_, ?_, ?_, ?_, ?_, ?_, ?_, ?_, ?_, trivial⟩
    · intro kx xs wx hk hG hD hI Qo Kx hK hQo
      clear hD
      have i12 := hI 12 3 rfl rfl
      simp only [List.getD_cons_succ, List.getD_cons_zero] at i12
      clear hI
      simp only [patchS, Nat.reduceAdd, Nat.reduceEqDiff, ↓reduceIte] at hQo ⊢
      rw [i12] at hQo ⊢
      clear i12
      go_wp2
      exact hK.out _ _ ⟨rfl, hG, fun _ _ _ _ _ _ h => h⟩
    · intro kx xs wx hk hG hD hI Qo Kx hK hQo
      clear hD
      clear hI
      simp only [patchS, Nat.reduceAdd, Nat.reduceEqDiff, ↓reduceIte] at hQo ⊢
      go_wp2
      exact hK.out _ _ ⟨rfl, hG, fun _ _ _ _ _ _ h => h⟩
    · intro kx xs wx hk hG hD hI Qo Kx hK hQo
      have d1 : (xs 1) = .pointer (some ⟨w.heap.size, 2, none⟩) := hD 1 rfl
      clear hD
      clear hI
      simp only [patchS, Nat.reduceAdd, Nat.reduceEqDiff, ↓reduceIte] at hQo ⊢
      generalize xs 1 = y1 at *
      subst d1
      have f0 := cell_ext hG.1 m2
      go_wp2
      exact hK.out _ _ ⟨rfl, hG, fun _ _ _ _ _ _ h => h⟩
    · intro kx xs wx hk hG hD hI Qo Kx hK hQo
      have d2 : (xs 2) = .int .i64 row := hD 2 rfl
      clear hD
      clear hI
      simp only [patchS, Nat.reduceAdd, Nat.reduceEqDiff, ↓reduceIte] at hQo ⊢
      generalize xs 2 = y2 at *
      subst d2
      go_wp2
      exact hK.out _ _ ⟨rfl, hG, fun _ _ _ _ _ _ h => h⟩
    · intro kx xs wx hk hG hD hI Qo Kx hK hQo
      clear hD
      clear hI
      simp only [patchS, Nat.reduceAdd, Nat.reduceEqDiff, ↓reduceIte] at hQo ⊢
      go_wp2
      exact hK.out _ _ ⟨rfl, hG, fun _ _ _ _ _ _ h => h⟩
    · intro kx xs wx hk hG hD hI Qo Kx hK hQo
      have d4 : (xs 4) = .pointer (some ⟨w.heap.size, 3, none⟩) := hD 4 rfl
      clear hD
      clear hI
      simp only [patchS, Nat.reduceAdd, Nat.reduceEqDiff, ↓reduceIte] at hQo ⊢
      generalize xs 4 = y4 at *
      subst d4
      have f0 := cell_ext hG.1 m3
      go_wp2
      exact hK.out _ _ ⟨rfl, hG, fun _ _ _ _ _ _ h => h⟩
    · intro kx xs wx hk hG hD hI Qo Kx hK hQo
      have d5 : (xs 5) = .int .i64 part := hD 5 rfl
      clear hD
      clear hI
      simp only [patchS, Nat.reduceAdd, Nat.reduceEqDiff, ↓reduceIte] at hQo ⊢
      generalize xs 5 = y5 at *
      subst d5
      go_wp2
      exact hK.out _ _ ⟨rfl, hG, fun _ _ _ _ _ _ h => h⟩
    · intro kx xs wx hk hG hD hI Qo Kx hK hQo
      clear hD
      clear hI
      simp only [patchS, Nat.reduceAdd, Nat.reduceEqDiff, ↓reduceIte] at hQo ⊢
      go_wp2
      exact hK.out _ _ ⟨rfl, hG, fun _ _ _ _ _ _ h => h⟩
    · intro kx xs wx hk hG hD hI Qo Kx hK hQo
      have d7 : (xs 7) = .pointer (some ⟨w.heap.size, 4, none⟩) := hD 7 rfl
      clear hD
      clear hI
      simp only [patchS, Nat.reduceAdd, Nat.reduceEqDiff, ↓reduceIte] at hQo ⊢
      generalize xs 7 = y7 at *
      subst d7
      have f0 := cell_ext hG.1 m4
      go_wp2
      exact hK.out _ _ ⟨rfl, hG, fun _ _ _ _ _ _ h => h⟩
    · intro kx xs wx hk hG hD hI Qo Kx hK hQo
      have d8 : (xs 8) = .bool last := hD 8 rfl
      clear hD
      clear hI
      simp only [patchS, Nat.reduceAdd, Nat.reduceEqDiff, ↓reduceIte] at hQo ⊢
      generalize xs 8 = y8 at *
      subst d8
      go_wp2_with fail
      refine (flagByte_any last _).mono ?_
      rintro e w6 ⟨rfl, rfl⟩
      go_wp2
      exact hK.out _ _ ⟨rfl, hG, fun _ _ _ _ _ _ h => h⟩
    · intro kx xs wx hk hG hD hI Qo Kx hK hQo
      have d3 : (xs 3) = .int .u8 row := hD 3 rfl
      have d6 : (xs 6) = .int .u8 part := hD 6 rfl
      have d9 : (xs 9) = .int .u8 (flag last) := hD 9 rfl
      clear hD
      clear hI
      simp only [patchS, Nat.reduceAdd, Nat.reduceEqDiff, ↓reduceIte] at hQo ⊢
      generalize xs 3 = y3 at *
      generalize xs 6 = y6 at *
      generalize xs 9 = y9 at *
      subst d3
      subst d6
      subst d9
      have e5 := Ext.alloc wx (.cells #[.int .u8 row, .int .u8 part, .int .u8 (flag last)] 5)
      have o5 := World.ownsRow_lit (base := w1.heap.size) (e := 5) (size := 1) wx #[.int .u8 row, .int .u8 part, .int .u8 (flag last)] 3 hG.1.size (by unfold maxLen; omega) rfl
      go_wp2
      exact hK.out _ _ ⟨⟨_, rfl, o5⟩, ⟨hG.1.trans e5, owns_ext hG.2 e5⟩, fun i _ _ _ own ys h => Hext.out i own ys _ _ e5 h⟩
    · intro kx xs wx hk hG hD hI Qo Kx hK hQo
      have d0 : (xs 0) = .slice a6 4 c6 := hD 0 rfl
      have d10 : ∃ (q : Nat), (xs 10) = .slice (some ⟨q, 0, none⟩) 3 3 ∧ wx.ownsRow w1.heap.size 5 1 (.slice (some ⟨q, 0, none⟩) 3 3) 3 [.int .u8 row, .int .u8 part, .int .u8 (flag last)] := hD 10 rfl
      clear hD
      clear hI
      simp only [patchS, Nat.reduceAdd, Nat.reduceEqDiff, ↓reduceIte] at hQo ⊢
      generalize xs 0 = y0 at *
      generalize xs 10 = y10 at *
      subst d0
      obtain ⟨q, rfl, o10⟩ := d10
      refine wpList_appk _ rfl hG.2 hG.1.size _ _ _ rfl (.int .u8 0) 1 Try.underlying22 info_uint8 rfl (by decide) rfl ⟨q, 0, none⟩ 3 3 _ rfl rfl (o10.cells rfl) (by intro u hu; simp at hu; rcases hu with rfl | rfl | rfl <;> rfl) (by omega) (by omega) ?_
      intro v14 w14 own14 gr14 keep14
      obtain ⟨a14, c14, rfl⟩ := owns_form own14
      have hst : ∀ (wy : World), (∀ b' n' own xs', n' ≤ 4 → wx.ownsRow b' 5 1 own n' xs' → wy.ownsRow b' 5 1 own n' xs') → ∀ (ii : Nat), ii < 13 → ii ≠ 11 → ([[], [], [1], [1, 2], [], [4], [4, 5], [], [7], [7, 8], [1, 2, 3, 4, 5, 6, 7, 8, 9], [0, 1, 2, 3, 4, 5, 6, 7, 8, 9, 10], [0, 1, 2, 3, 4, 5, 6, 7, 8, 9, 10, 11]].getD ii []).contains 11 = false → ∀ (own : Value) (ys : Nat → Value), (match ii with | 0 => own = .slice a6 4 c6 | 1 => own = .pointer (some ⟨w.heap.size, 2, none⟩) | 2 => own = .int .i64 row | 3 => own = .int .u8 row | 4 => own = .pointer (some ⟨w.heap.size, 3, none⟩) | 5 => own = .int .i64 part | 6 => own = .int .u8 part | 7 => own = .pointer (some ⟨w.heap.size, 4, none⟩) | 8 => own = .bool last | 9 => own = .int .u8 (flag last) | 10 => ∃ (q : Nat), own = .slice (some ⟨q, 0, none⟩) 3 3 ∧ wx.ownsRow w1.heap.size 5 1 (.slice (some ⟨q, 0, none⟩) 3 3) 3 [.int .u8 row, .int .u8 part, .int .u8 (flag last)] | 11 => ∃ (a14 : Option Addr) (c14 : Nat), own = .slice a14 7 c14 ∧ wx.ownsRow w1.heap.size 5 1 (.slice a14 7 c14) 7 ((phead ⟨num, fr, row, part, last, zs⟩).map (Value.int .u8)) | 12 => ∃ (a14 : Option Addr) (c14 : Nat), own = .slice a14 7 c14 ∧ wx.ownsRow w1.heap.size 5 1 (.slice a14 7 c14) 7 ((phead ⟨num, fr, row, part, last, zs⟩).map (Value.int .u8)) | _ => True) → (match ii with | 0 => own = .slice a6 4 c6 | 1 => own = .pointer (some ⟨w.heap.size, 2, none⟩) | 2 => own = .int .i64 row | 3 => own = .int .u8 row | 4 => own = .pointer (some ⟨w.heap.size, 3, none⟩) | 5 => own = .int .i64 part | 6 => own = .int .u8 part | 7 => own = .pointer (some ⟨w.heap.size, 4, none⟩) | 8 => own = .bool last | 9 => own = .int .u8 (flag last) | 10 => ∃ (q : Nat), own = .slice (some ⟨q, 0, none⟩) 3 3 ∧ wy.ownsRow w1.heap.size 5 1 (.slice (some ⟨q, 0, none⟩) 3 3) 3 [.int .u8 row, .int .u8 part, .int .u8 (flag last)] | 11 => ∃ (a14 : Option Addr) (c14 : Nat), own = .slice a14 7 c14 ∧ wy.ownsRow w1.heap.size 5 1 (.slice a14 7 c14) 7 ((phead ⟨num, fr, row, part, last, zs⟩).map (Value.int .u8)) | 12 => ∃ (a14 : Option Addr) (c14 : Nat), own = .slice a14 7 c14 ∧ wy.ownsRow w1.heap.size 5 1 (.slice a14 7 c14) 7 ((phead ⟨num, fr, row, part, last, zs⟩).map (Value.int .u8)) | _ => True) := by
        intro wy hy ii hii hne hc own ys h
        match ii, h with
        | 0, h => exact h
        | 1, h => exact h
        | 2, h => exact h
        | 3, h => exact h
        | 4, h => exact h
        | 5, h => exact h
        | 6, h => exact h
        | 7, h => exact h
        | 8, h => exact h
        | 9, h => exact h
        | 10, h => obtain ⟨q, h1, h2⟩ := h; exact ⟨q, h1, hy _ _ _ _ (by omega) h2⟩
        | 11, h => exact absurd rfl hne
        | 12, h => exact absurd hc (by decide)
        | _ + 13, _ => trivial
      exact hQo _ _ (hK.out _ _ ⟨⟨_, _, rfl, own14⟩, ⟨Ext.grown hG.1 gr14 (owns_ge hG.2), keep14 _ _ _ _ (by omega) hG.2⟩, hst _ keep14⟩)
    · intro kx xs wx hk hG hD hI Qo Kx hK hQo
      have d11 : ∃ (a14 : Option Addr) (c14 : Nat), (xs 11) = .slice a14 7 c14 ∧ wx.ownsRow w1.heap.size 5 1 (.slice a14 7 c14) 7 ((phead ⟨num, fr, row, part, last, zs⟩).map (Value.int .u8)) := hD 11 rfl
      clear hD
      clear hI
      simp only [patchS, Nat.reduceAdd, Nat.reduceEqDiff, ↓reduceIte] at hQo ⊢
      generalize xs 11 = y11 at *
      obtain ⟨a14, c14, rfl, o14⟩ := d11
      go_wp2
      exact hK.out _ _ ⟨⟨_, _, rfl, o14⟩, hG, fun _ _ _ _ _ _ h => h⟩
  clear Hext
  intro xs wx hV hG
  have d0 : (xs 0) = .slice a6 4 c6 := hV 0 (by decide)
  have d1 : (xs 1) = .pointer (some ⟨w.heap.size, 2, none⟩) := hV 1 (by decide)
  have d2 : (xs 2) = .int .i64 row := hV 2 (by decide)
  have d3 : (xs 3) = .int .u8 row := hV 3 (by decide)
  have d4 : (xs 4) = .pointer (some ⟨w.heap.size, 3, none⟩) := hV 4 (by decide)
  have d5 : (xs 5) = .int .i64 part := hV 5 (by decide)
  have d6 : (xs 6) = .int .u8 part := hV 6 (by decide)
  have d7 : (xs 7) = .pointer (some ⟨w.heap.size, 4, none⟩) := hV 7 (by decide)
  have d8 : (xs 8) = .bool last := hV 8 (by decide)
  have d9 : (xs 9) = .int .u8 (flag last) := hV 9 (by decide)
  have d10 : ∃ (q : Nat), (xs 10) = .slice (some ⟨q, 0, none⟩) 3 3 ∧ wx.ownsRow w1.heap.size 5 1 (.slice (some ⟨q, 0, none⟩) 3 3) 3 [.int .u8 row, .int .u8 part, .int .u8 (flag last)] := hV 10 (by decide)
  have d11 : ∃ (a14 : Option Addr) (c14 : Nat), (xs 11) = .slice a14 7 c14 ∧ wx.ownsRow w1.heap.size 5 1 (.slice a14 7 c14) 7 ((phead ⟨num, fr, row, part, last, zs⟩).map (Value.int .u8)) := hV 11 (by decide)
  have d12 : ∃ (a14 : Option Addr) (c14 : Nat), (xs 12) = .slice a14 7 c14 ∧ wx.ownsRow w1.heap.size 5 1 (.slice a14 7 c14) 7 ((phead ⟨num, fr, row, part, last, zs⟩).map (Value.int .u8)) := hV 12 (by decide)
  clear hV
  simp only [patchS, Nat.reduceAdd, Nat.reduceEqDiff, ↓reduceIte]
  generalize xs 0 = y0 at *
  generalize xs 1 = y1 at *
  generalize xs 2 = y2 at *
  generalize xs 3 = y3 at *
  generalize xs 4 = y4 at *
  generalize xs 5 = y5 at *
  generalize xs 6 = y6 at *
  generalize xs 7 = y7 at *
  generalize xs 8 = y8 at *
  generalize xs 9 = y9 at *
  generalize xs 10 = y10 at *
  generalize xs 11 = y11 at *
  generalize xs 12 = y12 at *
  replace hG : Ext w1 wx ∧ wx.ownsRow w1.heap.size 5 1 (.slice a6 4 c6) 4 ((pair num ++ pair fr).map (Value.int .u8)) := hG
  clear d0 d1 d2 d3 d4 d5 d6 d7 d8 d9 d10 d11
  obtain ⟨a7, c7, rfl, o7⟩ := d12
  have E3 : Ext w1 wx := hG.1
  have r3 := r1.ext E3
  have m5' := cell_ext E3 m5
  have hs3 := E3.size
  clear hG Ew o6 m0 m1 m2 m3 m4 m5 hrow8 hpart8
  generalize wx = w3 at *
  go_wp2_with (at_builtin; refine wpList_apps _ o7 hs3 rfl _ _ 22 rfl (.int .u8 0) 1 Try.underlying22 info_uint8 rfl rfl a n c _ rfl r3 (by intro u hu; simp at hu; obtain ⟨z, -, rfl⟩ := hu; rfl) (by omega) (by omega) ?_; intro v8 w8 own8 gr8; refine Hid.out ?_)
  obtain ⟨a8, c8, rfl⟩ := owns_form own8
  have E8 : Ext w1 w8 := Ext.grown E3 gr8 (owns_ge o7)
  obtain ⟨N, hN⟩ : ∃ N, N = 7 + n := ⟨_, rfl⟩
  rw [← hN] at own8 ⊢
  have hN9 : n + 9 = N + 2 := by omega
  have hNs : N < 1000 := by omega
  have HN := Lib.hid hN9
  clear hN hN9
  obtain ⟨B, hB⟩ : ∃ B, B = pbody ⟨num, fr, row, part, last, zs⟩ := ⟨_, rfl⟩
  have own9 : w8.ownsRow w1.heap.size 5 1 (.slice a8 N c8) N (B.map (Value.int .u8)) := by
    rw [hB, pbody, List.map_append]; exact own8
  have hpb : bys B := by rw [hB]; exact pbody_bys (show Pkt.ok ⟨num, fr, row, part, last, zs⟩ from by have h9 := Hv.out; rw [← Hl.out] at h9; exact h9) Hb.out
  have hcl := crc_lt hpb
  have Hpb := Lib.hid hpb
  have HP : Hid (pby ⟨num, fr, row, part, last, zs⟩ = B ++ pair (crc B)) := Lib.hid (by rw [hB]; exact if_pos (show Pkt.ok ⟨num, fr, row, part, last, zs⟩ from by have h9 := Hv.out; rw [← Hl.out] at h9; exact h9))
  have hs8 := E8.size
  have s9 := Sl.of_owns own9
  have hsw := E1.size
  clear hpb hB own8 gr8 o7 r3 E3 m5' hs3
  refine Lib.hid ?_
  go_wp2_with fail
  refine (impl_Checksum_any a8 c8 N B _ (by omega) s9 Hpb.out).mono ?_
  rintro e w9 ⟨rfl, e9⟩
  have own10 := owns_ext own9 e9
  have E9 := E8.trans e9
  have hs9 := E9.size
  generalize crc B = C at *
  clear own9 s9 e9 E8
  go_wp2_with fail
  refine (appendPair_any _ N B C w1.heap.size _ own10 hs9 (by omega) (by omega) (by omega)).mono ?_
  rintro e w10 ⟨a10, c10, rfl, own11, gr11, -⟩
  have E10 : Ext w w10 := E1.trans (Ext.grown E9 gr11 (owns_ge own10))
  clear own10 gr11
  go_wp2
  go_ret
  rw [HN.out, HP.out]
  exact ⟨a10, c10, rfl, owns_mono own11 hsw, E10⟩
theorem impl_PacketBytes_no (num fr row part : Int) (last : Bool) (a : Option Addr) (n c : Nat) (w : World) (h : ¬ pval num fr row part n) :
    Calls Try.prog 15 #[.agg #[.int .i64 num, .int .i64 fr, .int .i64 row, .int .i64 part, .bool last, .slice a n c]] w fun e w' => e = .returned (.slice none 0 0) ∧ Ext w w' := by
  have Hv := Lib.hid h
  clear h
  go_enter Try.func15, Try.ntmps15
  go_wp2_with fail
  refine (impl_PacketValid_no num fr row part last a n c _ Hv.out).mono ?_
  rintro e w1 ⟨rfl, e1⟩
  go_wp2
  go_ret
  exact ⟨rfl, (Ext.alloc w _).trans e1⟩
theorem impl_PacketBytes_any (p : Pkt) (a : Option Addr) (c : Nat) (w : World) (r : Sl w a p.data.length (p.data.map (Value.int .u8))) (hb : bys p.data) :
    Calls Try.prog 15 #[pkV p a c] w fun e w' => ∃ a' c', e = .returned (.slice a' (pby p).length c') ∧ w'.ownsRow w.heap.size 5 1 (.slice a' (pby p).length c') (pby p).length ((pby p).map (Value.int .u8)) ∧ Ext w w' := by
  by_cases h : p.ok
  · rw [pby_len h]
    exact impl_PacketBytes_yes p.num p.fr p.row p.part p.last p.data a p.data.length c w h r hb
  · rw [pby_no h]
    refine (impl_PacketBytes_no p.num p.fr p.row p.part p.last a p.data.length c w h).mono ?_
    rintro e w1 ⟨rfl, e1⟩
    exact ⟨none, 0, rfl, World.ownsRow_nil _ _ _ _, e1⟩
end Go.Proofs.Ytpjjadmjdafkeaa
