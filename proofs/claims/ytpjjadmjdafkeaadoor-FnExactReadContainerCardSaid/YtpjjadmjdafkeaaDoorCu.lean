/- The cursor: contracts of take, one, pair. -/
import Derived.Test.YtpjjadmjdafkeaaDoorK3
import Derived.Test.YtpjjadmjdafkeaaDoorK6
import Derived.Deep.Cut
namespace Go.Proofs.YtpjjadmjdafkeaaDoor
open Go.RowKit
set_option maxHeartbeats 1000000
theorem Sl.mid {w : World} {b o n : Nat} {xs : List Int} (s : Sl w (some ⟨b, o, none⟩) n (xs.map (Value.int .u8))) {i m : Nat} (h : i + m ≤ n) : Sl w (some ⟨b, o + i, none⟩) m (((xs.drop i).take m).map (Value.int .u8)) := by
  have hl := s.int_len
  refine ⟨by simp; omega, fun j hj => ?_⟩
  obtain ⟨b', off', h1, h2⟩ := s.int (show i + j < n by omega)
  simp only [Option.some.injEq, Addr.mk.injEq, and_true] at h1
  obtain ⟨rfl, rfl⟩ := h1
  refine ⟨_, _, rfl, ?_⟩
  rw [Nat.add_assoc, h2, getD_map_int _ _ _ (by simp; omega)]
  simp only [nth, List.getD_eq_getElem?_getD, List.getElem?_take, hj, ↓reduceIte, List.getElem?_drop]
theorem gr_set1 (w : World) (b j : Nat) (v : Value) : w.grownBy (w.setCell ⟨b, j, none⟩ v) (some b) :=
  ⟨rfl, rfl, rfl, by simp, fun k _ hk => heap_setCell_other w ⟨b, j, none⟩ k v (fun e => hk (by simp [e]))⟩
theorem ext_gr' {w w' : World} {r : Option Nat} (e : Ext w w') : w.grownBy w' r := ⟨e.os, e.tape, e.output, e.size, fun k hk _ => e.block k hk⟩
def tkE (rest : List Int) (er : Bool) (n : Nat) : Bool := er || decide (rest.length < n)
def tkB (rest : List Int) (er : Bool) (n : Nat) : List Int := if tkE rest er n = true then List.replicate n 0 else rest.take n
def tkR (rest : List Int) (er : Bool) (n : Nat) : List Int := if tkE rest er n = true then [] else rest.drop n
/-- Block q is a cursor. -/
def CuS (w : World) (q : Nat) (rest : List Int) (er : Bool) : Prop :=
  if er = true then ∃ (x : Value) (s : ByteArray), w.heap[q]? = some (.cells #[x, .iface 70 (.agg #[.string s])] 61 (0, 0))
  else ∃ (a : Option Addr) (n c : Nat), w.heap[q]? = some (.cells #[.slice a n c, .nilIface] 61 (0, 0)) ∧ Sl w a n (rest.map (Value.int .u8)) ∧ n ≤ c ∧ c ≤ 9223372036854775807 ∧ ∀ y, a = some y → y.block < q
theorem CuS.gr {w w' : World} {q : Nat} {rest : List Int} {er : Bool} (h : CuS w q rest er) (g : w.grownBy w' none) : CuS w' q rest er := by
  have e := ext_none g rfl
  cases er with
  | true => obtain ⟨x, s, h1⟩ := h; exact ⟨x, s, e.blk h1⟩
  | false => obtain ⟨a, n, c, h1, h2, h3, h4, h5⟩ := h; exact ⟨a, n, c, e.blk h1, h2.ext e, h3, h4, h5⟩
theorem CuS.own {w w' : World} {q base ee size n : Nat} {v : Value} {xs : List Value} {rest : List Int} {er : Bool} (h : CuS w q rest er) (g : w.grownBy w' v.ownBlock) (o : w.ownsRow base ee size v n xs) (hb : q < base) : CuS w' q rest er := by
  have hne : ∀ k, v.ownBlock = some k → q < k := fun k hk => by have := owns_ge o k hk; omega
  cases er with
  | true => obtain ⟨x, s, h1⟩ := h; exact ⟨x, s, blk_gr h1 g (fun e => by have := hne q e; omega)⟩
  | false =>
    obtain ⟨a, n, c, h1, h2, h3, h4, h5⟩ := h
    exact ⟨a, n, c, blk_gr h1 g (fun e => by have := hne q e; omega), h2.grown g (fun x hx e => by have := h5 x hx; have := hne _ e.symm; omega), h3, h4, h5⟩
theorem CuS.lt {w : World} {q : Nat} {rest : List Int} {er : Bool} (h : CuS w q rest er) : q < w.heap.size := by
  cases er with
  | true => obtain ⟨x, s, h1⟩ := h; exact lt_of_block h1
  | false => obtain ⟨a, n, c, h1, -⟩ := h; exact lt_of_block h1
theorem tkB_len (rest : List Int) (er : Bool) (n : Nat) : (tkB rest er n).length = n := by
  unfold tkB
  cases h : tkE rest er n with
  | true => simp
  | false =>
    simp only [tkE, Bool.or_eq_false_iff, decide_eq_false_iff_not] at h
    simp; omega
theorem tkB_bys {rest : List Int} (hb : bys rest) (er : Bool) (n : Nat) : bys (tkB rest er n) := by
  unfold tkB
  split
  · intro z hz; simp at hz; omega
  · intro z hz; exact hb z (List.mem_of_mem_take hz)
theorem tkR_bys {rest : List Int} (hb : bys rest) (er : Bool) (n : Nat) : bys (tkR rest er n) := by
  unfold tkR
  split
  · intro z hz; simp at hz
  · intro z hz; exact hb z (List.mem_of_mem_drop hz)
/-- What take returns. -/
def TkR (w : World) (q : Nat) (rest : List Int) (er : Bool) (n : Nat) (e : Ending) (w' : World) : Prop :=
  ∃ a c, e = .returned (.slice a n c) ∧ w'.ownsRow w.heap.size 5 1 (.slice a n c) n ((tkB rest er n).map (Value.int .u8)) ∧ CuS w' q (tkR rest er n) (tkE rest er n) ∧ w.grownBy w' (some q)
theorem take_er (q n : Nat) (s : ByteArray) (rest : List Int) (w : World) (hn : n ≤ 1048576) (h : CuS w q rest true) :
    Calls Tryd.prog 40 #[.pointer (some ⟨q, 0, none⟩), .int .i64 n, .string s] w (TkR w q rest true n) := by
  obtain ⟨x, s', h1⟩ := h
  obtain ⟨hq, m0, m1, f0, f1⟩ := bx2 h1
  have H1 := Lib.hid h1
  clear h1
  go_enter Tryd.func40, Tryd.ntmps40
  go_wp2_with (at_make; refine wpList_mk _ rfl _ _ 22 rfl 5 (.int .u8 0) 1 Tryd.underlying22 info_uint8 rfl _ n rfl rfl rfl (by omega) (by omega) ?_; intro w1 hown hgrow)
  have e1 := ext_none hgrow rfl
  go_wp2
  go_ret
  have ht : tkE rest true n = true := by simp [tkE]
  refine ⟨_, _, rfl, ?_, ?_, ext_gr' e1⟩
  · unfold tkB; rw [if_pos ht, List.map_replicate]; exact hown
  · unfold tkR; rw [ht]; exact ⟨x, s', e1.blk H1.out⟩
theorem take_short (q n : Nat) (s : ByteArray) (rest : List Int) (w : World) (hn : n ≤ 1048576) (hlt : rest.length < n) (h : CuS w q rest false) :
    Calls Tryd.prog 40 #[.pointer (some ⟨q, 0, none⟩), .int .i64 n, .string s] w (TkR w q rest false n) := by
  obtain ⟨a, m, c, h1, h2, h3, h4, h5⟩ := h
  obtain ⟨hq, m0, m1, f0, f1⟩ := bx2 h1
  have H1 := Lib.hid h1
  have hmn : m < n := by have := h2.int_len; omega
  have hmc : m ≤ 9223372036854775807 := by omega
  clear h1 h2 h3 h5
  go_enter Tryd.func40, Tryd.ntmps40
  go_wp2_with (at_make; refine wpList_mk _ rfl _ _ 22 rfl 5 (.int .u8 0) 1 Tryd.underlying22 info_uint8 rfl _ n rfl rfl rfl (by omega) (by omega) ?_; intro w1 hown hgrow)
  have e1 := ext_none hgrow rfl
  have P1 := e1.blk (heap_setCell_same w q 1 _ _ (.iface 70 (.agg #[.string s])) H1.out)
  go_wp2
  go_ret
  have ht : tkE rest false n = true := by simp [tkE, hlt]
  refine ⟨_, _, rfl, ?_, ?_, grown_ext (gr_set1 w q 1 _) e1⟩
  · unfold tkB; rw [if_pos ht, List.map_replicate]; simpa using hown
  · unfold tkR; rw [ht]; exact ⟨_, s, by simpa using P1⟩
theorem take_ok (q n : Nat) (s : ByteArray) (rest : List Int) (w : World) (hn : n ≤ 1048576) (hle : n ≤ rest.length) (h : CuS w q rest false) :
    Calls Tryd.prog 40 #[.pointer (some ⟨q, 0, none⟩), .int .i64 n, .string s] w (TkR w q rest false n) := by
  obtain ⟨a, m, c, h1, h2, h3, h4, h5⟩ := h
  obtain ⟨hq, m0, m1, f0, f1⟩ := bx2 h1
  have hl := h2.int_len
  have ht : tkE rest false n = false := by simp [tkE]; omega
  have HB : Hid (tkB rest false n = rest.take n) := Lib.hid (by unfold tkB; rw [ht]; rfl)
  have HR : Hid (tkR rest false n = rest.drop n) := Lib.hid (by unfold tkR; rw [ht]; rfl)
  have HT := Lib.hid ht
  have hnm : n ≤ m := by omega
  have hmc : m ≤ 9223372036854775807 := by omega
  have sT : Sl w a n ((rest.take n).map (Value.int .u8)) := by
    refine ⟨by simp; omega, fun i hi => ?_⟩
    obtain ⟨b, off, ha, hc⟩ := h2.int (show i < m by omega)
    exact ⟨b, off, ha, by rw [hc, getD_map_int _ _ _ (by simp; omega)]; simp [nth, hi]⟩
  have hn1 : n + 0 ≤ 1048576 := by omega
  have hnc : n ≤ c := by omega
  have H1 := Lib.hid h1
  have H5 := Lib.hid h5
  clear h1 ht
  -- the cursor behind
  have fin : ∀ (w1 : World) (a1 : Option Addr) (c1 : Nat) (a2 : Option Addr) (c2 : Nat), w1.ownsRow w.heap.size 5 1 (.slice a1 n c1) n ((rest.take n).map (Value.int .u8)) → Ext w w1 → (n < m → Sl w a2 (m - n) ((rest.drop n).map (Value.int .u8))) → m - n ≤ c2 → c2 ≤ 9223372036854775807 → (∀ y, a2 = some y → y.block < q) →
      TkR w q rest false n (.returned (.slice a1 n c1)) (w1.setCell ⟨q, 0, none⟩ (.slice a2 (m - n) c2)) := by
    intro w1 a1 c1 a2 c2 o1 e1 sD k1 k2 k3
    have hP := heap_setCell_same w1 q 0 _ _ (.slice a2 (m - n) c2) (e1.blk H1.out)
    have gS := gr_set1 w1 q 0 (.slice a2 (m - n) c2)
    refine ⟨a1, c1, rfl, by rw [HB.out]; exact own_gr o1 gS hq, ?_, ext_grown e1 gS⟩
    rw [HR.out, HT.out]
    refine ⟨a2, m - n, c2, by simpa using hP, ?_, k1, k2, k3⟩
    by_cases hlt : n < m
    · exact ((sD hlt).ext e1).grown gS (fun x hx e => by have h8 := k3 x hx; have h9 : x.block = q := (by simpa using e); omega)
    · have h0 : m - n = 0 := by omega
      rw [h0, List.drop_of_length_le (by omega)]
      exact Sl.nil _ _
  have FIN := Lib.hid fin
  have sD : n < m → ∀ b o, a = some ⟨b, o, none⟩ → Sl w (some ⟨b, o + n, none⟩) (m - n) ((rest.drop n).map (Value.int .u8)) := by
    intro hlt b o ha
    subst ha
    have := Sl.mid (i := n) (m := m - n) h2 (by omega)
    rwa [List.take_of_length_le (by simp; omega)] at this
  have SD := Lib.hid sD
  have hspot : n < m → ∃ b o, a = some ⟨b, o, none⟩ := fun hlt => by
    obtain ⟨b, off, ha, -⟩ := h2.int hlt
    exact ⟨b, off, ha⟩
  have HSP := Lib.hid hspot
  have HPM : Hid (0 < m → ∃ b o, a = some ⟨b, o, none⟩) := Lib.hid (fun hlt => by
    obtain ⟨b, off, ha, -⟩ := h2.int hlt
    exact ⟨b, off, ha⟩)
  clear fin sD hspot hl h5
  have hd : ¬ ((m : Int) < (n : Int)) := by omega
  by_cases hm0 : 0 < m
  · have hsp : ∃ b o, a = some ⟨b, o, none⟩ := HPM.out hm0
    obtain ⟨bb, o, rfl⟩ := hsp
    go_enter Tryd.func40, Tryd.ntmps40
    go_upto_region 5 with (fail)
    have hext : ∀ (i : Nat) (own : Value) (ys : Nat → Value) (wa wb : World), Ext wa wb → (match i with | 0 => own = .pointer (some ⟨q, 0, none⟩) | 1 => own = .pointer (some ⟨q, 0, none⟩) | 2 => own = .pointer (some ⟨q, 0, none⟩) | 3 => own = .slice (some ⟨bb, o, none⟩) m c | 4 => own = .int .i64 n | 5 => own = .slice (some ⟨bb, o, none⟩) n c | 6 => ∃ (a1 : Option Addr) (c1 : Nat), own = .slice a1 n c1 ∧ wa.ownsRow w.heap.size 5 1 (.slice a1 n c1) n ((rest.take n).map (Value.int .u8)) | 7 => ∃ (a1 : Option Addr) (c1 : Nat), own = .slice a1 n c1 ∧ wa.ownsRow w.heap.size 5 1 (.slice a1 n c1) n ((rest.take n).map (Value.int .u8)) | _ => True) → (match i with | 0 => own = .pointer (some ⟨q, 0, none⟩) | 1 => own = .pointer (some ⟨q, 0, none⟩) | 2 => own = .pointer (some ⟨q, 0, none⟩) | 3 => own = .slice (some ⟨bb, o, none⟩) m c | 4 => own = .int .i64 n | 5 => own = .slice (some ⟨bb, o, none⟩) n c | 6 => ∃ (a1 : Option Addr) (c1 : Nat), own = .slice a1 n c1 ∧ wb.ownsRow w.heap.size 5 1 (.slice a1 n c1) n ((rest.take n).map (Value.int .u8)) | 7 => ∃ (a1 : Option Addr) (c1 : Nat), own = .slice a1 n c1 ∧ wb.ownsRow w.heap.size 5 1 (.slice a1 n c1) n ((rest.take n).map (Value.int .u8)) | _ => True) := by
      intro i own ys wa wb e h
      match i, h with
      | 0, h => exact h
      | 1, h => exact h
      | 2, h => exact h
      | 3, h => exact h
      | 4, h => exact h
      | 5, h => exact h
      | 6, h => obtain ⟨a2, c2, h1, h2⟩ := h; exact ⟨a2, c2, h1, owns_ext h2 e⟩
      | 7, h => obtain ⟨a2, c2, h1, h2⟩ := h; exact ⟨a2, c2, h1, owns_ext h2 e⟩
      | _ + 8, _ => trivial
    have Hext := Lib.hid hext
    clear hext
    refine wp_region_seq [(7, 7), (35, 0), (36, 1), (37, 2), (38, 3), (39, 4), (40, 5), (41, 6)] [[], [0], [0, 1], [0, 1, 2], [0, 1, 2, 3], [0, 1, 2, 3, 4], [0, 1, 2, 3, 4, 5], [0, 1, 2, 3, 4, 5, 6]] (fun i own ys wx => match i with | 0 => own = .pointer (some ⟨q, 0, none⟩) | 1 => own = .pointer (some ⟨q, 0, none⟩) | 2 => own = .pointer (some ⟨q, 0, none⟩) | 3 => own = .slice (some ⟨bb, o, none⟩) m c | 4 => own = .int .i64 n | 5 => own = .slice (some ⟨bb, o, none⟩) n c | 6 => ∃ (a1 : Option Addr) (c1 : Nat), own = .slice a1 n c1 ∧ wx.ownsRow w.heap.size 5 1 (.slice a1 n c1) n ((rest.take n).map (Value.int .u8)) | 7 => ∃ (a1 : Option Addr) (c1 : Nat), own = .slice a1 n c1 ∧ wx.ownsRow w.heap.size 5 1 (.slice a1 n c1) n ((rest.take n).map (Value.int .u8)) | _ => True) (fun kx wx => Ext w wx) (by kernel_rfl) (by kernel_rfl) ?g0_r1 ?gop_r1 ?gend_r1
    case g0_r1 => exact Below.refl _ _
    case gop_r1 =>
      refine ⟨?_, ?_, ?_, ?_, ?_, ?_, ?_, ?_, trivial⟩
      · intro kx xs wx hk hG hD hI Qo Kx hK hQo
        clear hD
        clear hI
        simp only [patchS, Nat.reduceAdd, Nat.reduceEqDiff, ↓reduceIte] at hQo ⊢
        go_wp2
        exact hK.out _ _ ⟨rfl, hG, fun _ _ _ _ _ _ h => h⟩
      · intro kx xs wx hk hG hD hI Qo Kx hK hQo
        have d0 : (xs 0) = .pointer (some ⟨q, 0, none⟩) := hD 0 rfl
        clear hD
        clear hI
        simp only [patchS, Nat.reduceAdd, Nat.reduceEqDiff, ↓reduceIte] at hQo ⊢
        generalize xs 0 = y0 at *
        subst d0
        go_wp2
        exact hK.out _ _ ⟨rfl, hG, fun _ _ _ _ _ _ h => h⟩
      · intro kx xs wx hk hG hD hI Qo Kx hK hQo
        have d1 : (xs 1) = .pointer (some ⟨q, 0, none⟩) := hD 1 rfl
        clear hD
        clear hI
        simp only [patchS, Nat.reduceAdd, Nat.reduceEqDiff, ↓reduceIte] at hQo ⊢
        generalize xs 1 = y1 at *
        subst d1
        go_wp2
        exact hK.out _ _ ⟨rfl, hG, fun _ _ _ _ _ _ h => h⟩
      · intro kx xs wx hk hG hD hI Qo Kx hK hQo
        have d2 : (xs 2) = .pointer (some ⟨q, 0, none⟩) := hD 2 rfl
        clear hD
        clear hI
        simp only [patchS, Nat.reduceAdd, Nat.reduceEqDiff, ↓reduceIte] at hQo ⊢
        generalize xs 2 = y2 at *
        subst d2
        have k0 := cell_ext hG m0
        go_wp2
        exact hK.out _ _ ⟨rfl, hG, fun _ _ _ _ _ _ h => h⟩
      · intro kx xs wx hk hG hD hI Qo Kx hK hQo
        clear hD
        clear hI
        simp only [patchS, Nat.reduceAdd, Nat.reduceEqDiff, ↓reduceIte] at hQo ⊢
        go_wp2
        exact hK.out _ _ ⟨rfl, hG, fun _ _ _ _ _ _ h => h⟩
      · intro kx xs wx hk hG hD hI Qo Kx hK hQo
        have d3 : (xs 3) = .slice (some ⟨bb, o, none⟩) m c := hD 3 rfl
        have d4 : (xs 4) = .int .i64 n := hD 4 rfl
        clear hD
        clear hI
        simp only [patchS, Nat.reduceAdd, Nat.reduceEqDiff, ↓reduceIte] at hQo ⊢
        generalize xs 3 = y3 at *
        generalize xs 4 = y4 at *
        subst d3
        subst d4
        go_wp2
        exact hK.out _ _ ⟨rfl, hG, fun _ _ _ _ _ _ h => h⟩
      · intro kx xs wx hk hG hD hI Qo Kx hK hQo
        have d5 : (xs 5) = .slice (some ⟨bb, o, none⟩) n c := hD 5 rfl
        clear hD
        clear hI
        simp only [patchS, Nat.reduceAdd, Nat.reduceEqDiff, ↓reduceIte] at hQo ⊢
        generalize xs 5 = y5 at *
        subst d5
        refine wpList_apps _ (World.ownsRow_nil _ w.heap.size _ _) hG.size rfl _ _ 22 rfl (.int .u8 0) 1 Tryd.underlying22 info_uint8 rfl rfl (some ⟨bb, o, none⟩) n c _ rfl (sT.ext hG) (by intro u hu; obtain ⟨z, -, rfl⟩ := List.mem_map.1 hu; rfl) (by omega) (by omega) ?_
        intro v14 w14 own14 gr14
        rw [Nat.zero_add, List.nil_append] at own14
        obtain ⟨a14, c14, rfl⟩ := owns_form own14
        have e8 := ext_none gr14 rfl
        exact hQo _ _ (hK.out _ _ ⟨⟨_, _, rfl, own14⟩, hG.trans e8, fun i _ _ _ own ys h => Hext.out i own ys _ _ e8 h⟩)
      · intro kx xs wx hk hG hD hI Qo Kx hK hQo
        have d6 : ∃ (a1 : Option Addr) (c1 : Nat), (xs 6) = .slice a1 n c1 ∧ wx.ownsRow w.heap.size 5 1 (.slice a1 n c1) n ((rest.take n).map (Value.int .u8)) := hD 6 rfl
        clear hD
        clear hI
        simp only [patchS, Nat.reduceAdd, Nat.reduceEqDiff, ↓reduceIte] at hQo ⊢
        generalize xs 6 = y6 at *
        obtain ⟨a1, c1, rfl, o1⟩ := d6
        go_wp2
        exact hK.out _ _ ⟨⟨_, _, rfl, o1⟩, hG, fun _ _ _ _ _ _ h => h⟩
    clear Hext
    intro xs wx hV hG
    have d0 : (xs 0) = .pointer (some ⟨q, 0, none⟩) := hV 0 (by decide)
    have d1 : (xs 1) = .pointer (some ⟨q, 0, none⟩) := hV 1 (by decide)
    have d2 : (xs 2) = .pointer (some ⟨q, 0, none⟩) := hV 2 (by decide)
    have d3 : (xs 3) = .slice (some ⟨bb, o, none⟩) m c := hV 3 (by decide)
    have d4 : (xs 4) = .int .i64 n := hV 4 (by decide)
    have d5 : (xs 5) = .slice (some ⟨bb, o, none⟩) n c := hV 5 (by decide)
    have d6 : ∃ (a1 : Option Addr) (c1 : Nat), (xs 6) = .slice a1 n c1 ∧ wx.ownsRow w.heap.size 5 1 (.slice a1 n c1) n ((rest.take n).map (Value.int .u8)) := hV 6 (by decide)
    have d7 : ∃ (a1 : Option Addr) (c1 : Nat), (xs 7) = .slice a1 n c1 ∧ wx.ownsRow w.heap.size 5 1 (.slice a1 n c1) n ((rest.take n).map (Value.int .u8)) := hV 7 (by decide)
    clear hV
    simp only [patchS, Nat.reduceAdd, Nat.reduceEqDiff, ↓reduceIte]
    generalize xs 0 = y0 at *
    generalize xs 1 = y1 at *
    generalize xs 2 = y2 at *
    generalize xs 3 = y3 at *
    generalize xs 4 = y4 at *
    generalize xs 5 = y5 at *
    generalize xs 6 = y6 at *
    generalize xs 7 = y7 at *
    replace hG : Ext w wx := hG
    clear d0 d1 d2 d3 d4 d5 d6
    obtain ⟨a7, c7, rfl, o7⟩ := d7
    have k0 := cell_ext hG m0
    obtain ⟨-, -, -, g0, g1⟩ := bx2 (hG.blk H1.out)
    clear m0 m1 f0 f1
    by_cases hlt : n < m
    · have sDD := Lib.hid (SD.out hlt bb o rfl)
      go_wp2
      go_ret
      exact FIN.out _ a7 c7 _ _ o7 hG (fun _ => sDD.out) (by omega) (by omega) (fun y hy => by cases hy; exact H5.out ⟨bb, o, none⟩ rfl)
    · obtain rfl : n = m := by omega
      have hnn : n - n = 0 := Nat.sub_self n
      have FN : ∀ (a2 : Option Addr) (c2 : Nat), c2 ≤ 9223372036854775807 → (∀ y, a2 = some y → y.block < q) → TkR w q rest false n (.returned (.slice a7 n c7)) (wx.setCell ⟨q, 0, none⟩ (.slice a2 0 c2)) := fun a2 c2 h1 h2 => by
        have := FIN.out wx a7 c7 a2 c2 o7 hG (fun h => absurd h hlt) (by omega) h1 h2
        rwa [hnn] at this
      have FNH := Lib.hid FN
      clear FN
      by_cases hc : c = n
      · subst hc
        go_wp2
        go_ret
        exact FNH.out _ _ (by omega) (fun y hy => by cases hy; exact H5.out ⟨bb, o, none⟩ rfl)
      · go_wp2
        go_ret
        exact FNH.out _ _ (by omega) (fun y hy => by cases hy; exact H5.out ⟨bb, o, none⟩ rfl)
  · obtain rfl : m = 0 := by omega
    obtain rfl : n = 0 := by omega
    have FN : ∀ (w1 : World) (a1 : Option Addr) (c1 : Nat) (a2 : Option Addr) (c2 : Nat), w1.ownsRow w.heap.size 5 1 (.slice a1 0 c1) 0 ((rest.take 0).map (Value.int .u8)) → Ext w w1 → c2 ≤ 9223372036854775807 → (∀ y, a2 = some y → y.block < q) → TkR w q rest false 0 (.returned (.slice a1 0 c1)) (w1.setCell ⟨q, 0, none⟩ (.slice a2 0 c2)) := fun w1 a1 c1 a2 c2 o7 hG h1 h2 =>
      FIN.out w1 a1 c1 a2 c2 o7 hG (fun h => by omega) (by omega) h1 h2
    have FNH := Lib.hid FN
    clear FN hd hm0
    cases a with
    | none =>
      go_enter Tryd.func40, Tryd.ntmps40
      go_upto_region 5 with (fail)
      have hext : ∀ (i : Nat) (own : Value) (ys : Nat → Value) (wa wb : World), Ext wa wb → (match i with | 0 => own = .pointer (some ⟨q, 0, none⟩) | 1 => own = .pointer (some ⟨q, 0, none⟩) | 2 => own = .pointer (some ⟨q, 0, none⟩) | 3 => own = .slice none 0 c | 4 => own = .int .i64 0 | 5 => own = .slice none 0 c | 6 => ∃ (a1 : Option Addr) (c1 : Nat), own = .slice a1 0 c1 ∧ wa.ownsRow w.heap.size 5 1 (.slice a1 0 c1) 0 ((rest.take 0).map (Value.int .u8)) | 7 => ∃ (a1 : Option Addr) (c1 : Nat), own = .slice a1 0 c1 ∧ wa.ownsRow w.heap.size 5 1 (.slice a1 0 c1) 0 ((rest.take 0).map (Value.int .u8)) | _ => True) → (match i with | 0 => own = .pointer (some ⟨q, 0, none⟩) | 1 => own = .pointer (some ⟨q, 0, none⟩) | 2 => own = .pointer (some ⟨q, 0, none⟩) | 3 => own = .slice none 0 c | 4 => own = .int .i64 0 | 5 => own = .slice none 0 c | 6 => ∃ (a1 : Option Addr) (c1 : Nat), own = .slice a1 0 c1 ∧ wb.ownsRow w.heap.size 5 1 (.slice a1 0 c1) 0 ((rest.take 0).map (Value.int .u8)) | 7 => ∃ (a1 : Option Addr) (c1 : Nat), own = .slice a1 0 c1 ∧ wb.ownsRow w.heap.size 5 1 (.slice a1 0 c1) 0 ((rest.take 0).map (Value.int .u8)) | _ => True) := by
        intro i own ys wa wb e h
        match i, h with
        | 0, h => exact h
        | 1, h => exact h
        | 2, h => exact h
        | 3, h => exact h
        | 4, h => exact h
        | 5, h => exact h
        | 6, h => obtain ⟨a2, c2, h1, h2⟩ := h; exact ⟨a2, c2, h1, owns_ext h2 e⟩
        | 7, h => obtain ⟨a2, c2, h1, h2⟩ := h; exact ⟨a2, c2, h1, owns_ext h2 e⟩
        | _ + 8, _ => trivial
      have Hext := Lib.hid hext
      clear hext
      refine wp_region_seq [(7, 7), (35, 0), (36, 1), (37, 2), (38, 3), (39, 4), (40, 5), (41, 6)] [[], [0], [0, 1], [0, 1, 2], [0, 1, 2, 3], [0, 1, 2, 3, 4], [0, 1, 2, 3, 4, 5], [0, 1, 2, 3, 4, 5, 6]] (fun i own ys wx => match i with | 0 => own = .pointer (some ⟨q, 0, none⟩) | 1 => own = .pointer (some ⟨q, 0, none⟩) | 2 => own = .pointer (some ⟨q, 0, none⟩) | 3 => own = .slice none 0 c | 4 => own = .int .i64 0 | 5 => own = .slice none 0 c | 6 => ∃ (a1 : Option Addr) (c1 : Nat), own = .slice a1 0 c1 ∧ wx.ownsRow w.heap.size 5 1 (.slice a1 0 c1) 0 ((rest.take 0).map (Value.int .u8)) | 7 => ∃ (a1 : Option Addr) (c1 : Nat), own = .slice a1 0 c1 ∧ wx.ownsRow w.heap.size 5 1 (.slice a1 0 c1) 0 ((rest.take 0).map (Value.int .u8)) | _ => True) (fun kx wx => Ext w wx) (by kernel_rfl) (by kernel_rfl) ?g0_r2 ?gop_r2 ?gend_r2
      case g0_r2 => exact Below.refl _ _
      case gop_r2 =>
        refine ⟨?_, ?_, ?_, ?_, ?_, ?_, ?_, ?_, trivial⟩
        · intro kx xs wx hk hG hD hI Qo Kx hK hQo
          clear hD
          clear hI
          simp only [patchS, Nat.reduceAdd, Nat.reduceEqDiff, ↓reduceIte] at hQo ⊢
          go_wp2
          exact hK.out _ _ ⟨rfl, hG, fun _ _ _ _ _ _ h => h⟩
        · intro kx xs wx hk hG hD hI Qo Kx hK hQo
          have d0 : (xs 0) = .pointer (some ⟨q, 0, none⟩) := hD 0 rfl
          clear hD
          clear hI
          simp only [patchS, Nat.reduceAdd, Nat.reduceEqDiff, ↓reduceIte] at hQo ⊢
          generalize xs 0 = y0 at *
          subst d0
          go_wp2
          exact hK.out _ _ ⟨rfl, hG, fun _ _ _ _ _ _ h => h⟩
        · intro kx xs wx hk hG hD hI Qo Kx hK hQo
          have d1 : (xs 1) = .pointer (some ⟨q, 0, none⟩) := hD 1 rfl
          clear hD
          clear hI
          simp only [patchS, Nat.reduceAdd, Nat.reduceEqDiff, ↓reduceIte] at hQo ⊢
          generalize xs 1 = y1 at *
          subst d1
          go_wp2
          exact hK.out _ _ ⟨rfl, hG, fun _ _ _ _ _ _ h => h⟩
        · intro kx xs wx hk hG hD hI Qo Kx hK hQo
          have d2 : (xs 2) = .pointer (some ⟨q, 0, none⟩) := hD 2 rfl
          clear hD
          clear hI
          simp only [patchS, Nat.reduceAdd, Nat.reduceEqDiff, ↓reduceIte] at hQo ⊢
          generalize xs 2 = y2 at *
          subst d2
          have k0 := cell_ext hG m0
          go_wp2
          exact hK.out _ _ ⟨rfl, hG, fun _ _ _ _ _ _ h => h⟩
        · intro kx xs wx hk hG hD hI Qo Kx hK hQo
          clear hD
          clear hI
          simp only [patchS, Nat.reduceAdd, Nat.reduceEqDiff, ↓reduceIte] at hQo ⊢
          go_wp2
          exact hK.out _ _ ⟨rfl, hG, fun _ _ _ _ _ _ h => h⟩
        · intro kx xs wx hk hG hD hI Qo Kx hK hQo
          have d3 : (xs 3) = .slice none 0 c := hD 3 rfl
          have d4 : (xs 4) = .int .i64 0 := hD 4 rfl
          clear hD
          clear hI
          simp only [patchS, Nat.reduceAdd, Nat.reduceEqDiff, ↓reduceIte] at hQo ⊢
          generalize xs 3 = y3 at *
          generalize xs 4 = y4 at *
          subst d3
          subst d4
          go_wp2
          exact hK.out _ _ ⟨rfl, hG, fun _ _ _ _ _ _ h => h⟩
        · intro kx xs wx hk hG hD hI Qo Kx hK hQo
          have d5 : (xs 5) = .slice none 0 c := hD 5 rfl
          clear hD
          clear hI
          simp only [patchS, Nat.reduceAdd, Nat.reduceEqDiff, ↓reduceIte] at hQo ⊢
          generalize xs 5 = y5 at *
          subst d5
          refine wpList_apps _ (World.ownsRow_nil _ w.heap.size _ _) hG.size rfl _ _ 22 rfl (.int .u8 0) 1 Tryd.underlying22 info_uint8 rfl rfl none 0 c _ rfl (sT.ext hG) (by intro u hu; obtain ⟨z, -, rfl⟩ := List.mem_map.1 hu; rfl) (by omega) (by omega) ?_
          intro v14 w14 own14 gr14
          rw [Nat.zero_add, List.nil_append] at own14
          obtain ⟨a14, c14, rfl⟩ := owns_form own14
          have e8 := ext_none gr14 rfl
          exact hQo _ _ (hK.out _ _ ⟨⟨_, _, rfl, own14⟩, hG.trans e8, fun i _ _ _ own ys h => Hext.out i own ys _ _ e8 h⟩)
        · intro kx xs wx hk hG hD hI Qo Kx hK hQo
          have d6 : ∃ (a1 : Option Addr) (c1 : Nat), (xs 6) = .slice a1 0 c1 ∧ wx.ownsRow w.heap.size 5 1 (.slice a1 0 c1) 0 ((rest.take 0).map (Value.int .u8)) := hD 6 rfl
          clear hD
          clear hI
          simp only [patchS, Nat.reduceAdd, Nat.reduceEqDiff, ↓reduceIte] at hQo ⊢
          generalize xs 6 = y6 at *
          obtain ⟨a1, c1, rfl, o1⟩ := d6
          go_wp2
          exact hK.out _ _ ⟨⟨_, _, rfl, o1⟩, hG, fun _ _ _ _ _ _ h => h⟩
      clear Hext
      intro xs wx hV hG
      have d0 : (xs 0) = .pointer (some ⟨q, 0, none⟩) := hV 0 (by decide)
      have d1 : (xs 1) = .pointer (some ⟨q, 0, none⟩) := hV 1 (by decide)
      have d2 : (xs 2) = .pointer (some ⟨q, 0, none⟩) := hV 2 (by decide)
      have d3 : (xs 3) = .slice none 0 c := hV 3 (by decide)
      have d4 : (xs 4) = .int .i64 0 := hV 4 (by decide)
      have d5 : (xs 5) = .slice none 0 c := hV 5 (by decide)
      have d6 : ∃ (a1 : Option Addr) (c1 : Nat), (xs 6) = .slice a1 0 c1 ∧ wx.ownsRow w.heap.size 5 1 (.slice a1 0 c1) 0 ((rest.take 0).map (Value.int .u8)) := hV 6 (by decide)
      have d7 : ∃ (a1 : Option Addr) (c1 : Nat), (xs 7) = .slice a1 0 c1 ∧ wx.ownsRow w.heap.size 5 1 (.slice a1 0 c1) 0 ((rest.take 0).map (Value.int .u8)) := hV 7 (by decide)
      clear hV
      simp only [patchS, Nat.reduceAdd, Nat.reduceEqDiff, ↓reduceIte]
      generalize xs 0 = y0 at *
      generalize xs 1 = y1 at *
      generalize xs 2 = y2 at *
      generalize xs 3 = y3 at *
      generalize xs 4 = y4 at *
      generalize xs 5 = y5 at *
      generalize xs 6 = y6 at *
      generalize xs 7 = y7 at *
      replace hG : Ext w wx := hG
      clear d0 d1 d2 d3 d4 d5 d6
      obtain ⟨a7, c7, rfl, o7⟩ := d7
      have k0 := cell_ext hG m0
      obtain ⟨-, -, -, g0, g1⟩ := bx2 (hG.blk H1.out)
      clear m0 m1 f0 f1
      go_wp2
      go_ret
      exact FNH.out _ _ _ _ _ o7 hG (by omega) (fun y hy => by cases hy)
    | some y =>
      go_enter Tryd.func40, Tryd.ntmps40
      go_upto_region 5 with (fail)
      have hext : ∀ (i : Nat) (own : Value) (ys : Nat → Value) (wa wb : World), Ext wa wb → (match i with | 0 => own = .pointer (some ⟨q, 0, none⟩) | 1 => own = .pointer (some ⟨q, 0, none⟩) | 2 => own = .pointer (some ⟨q, 0, none⟩) | 3 => own = .slice (some y) 0 c | 4 => own = .int .i64 0 | 5 => own = .slice (some y) 0 c | 6 => ∃ (a1 : Option Addr) (c1 : Nat), own = .slice a1 0 c1 ∧ wa.ownsRow w.heap.size 5 1 (.slice a1 0 c1) 0 ((rest.take 0).map (Value.int .u8)) | 7 => ∃ (a1 : Option Addr) (c1 : Nat), own = .slice a1 0 c1 ∧ wa.ownsRow w.heap.size 5 1 (.slice a1 0 c1) 0 ((rest.take 0).map (Value.int .u8)) | _ => True) → (match i with | 0 => own = .pointer (some ⟨q, 0, none⟩) | 1 => own = .pointer (some ⟨q, 0, none⟩) | 2 => own = .pointer (some ⟨q, 0, none⟩) | 3 => own = .slice (some y) 0 c | 4 => own = .int .i64 0 | 5 => own = .slice (some y) 0 c | 6 => ∃ (a1 : Option Addr) (c1 : Nat), own = .slice a1 0 c1 ∧ wb.ownsRow w.heap.size 5 1 (.slice a1 0 c1) 0 ((rest.take 0).map (Value.int .u8)) | 7 => ∃ (a1 : Option Addr) (c1 : Nat), own = .slice a1 0 c1 ∧ wb.ownsRow w.heap.size 5 1 (.slice a1 0 c1) 0 ((rest.take 0).map (Value.int .u8)) | _ => True) := by
        intro i own ys wa wb e h
        match i, h with
        | 0, h => exact h
        | 1, h => exact h
        | 2, h => exact h
        | 3, h => exact h
        | 4, h => exact h
        | 5, h => exact h
        | 6, h => obtain ⟨a2, c2, h1, h2⟩ := h; exact ⟨a2, c2, h1, owns_ext h2 e⟩
        | 7, h => obtain ⟨a2, c2, h1, h2⟩ := h; exact ⟨a2, c2, h1, owns_ext h2 e⟩
        | _ + 8, _ => trivial
      have Hext := Lib.hid hext
      clear hext
      refine wp_region_seq [(7, 7), (35, 0), (36, 1), (37, 2), (38, 3), (39, 4), (40, 5), (41, 6)] [[], [0], [0, 1], [0, 1, 2], [0, 1, 2, 3], [0, 1, 2, 3, 4], [0, 1, 2, 3, 4, 5], [0, 1, 2, 3, 4, 5, 6]] (fun i own ys wx => match i with | 0 => own = .pointer (some ⟨q, 0, none⟩) | 1 => own = .pointer (some ⟨q, 0, none⟩) | 2 => own = .pointer (some ⟨q, 0, none⟩) | 3 => own = .slice (some y) 0 c | 4 => own = .int .i64 0 | 5 => own = .slice (some y) 0 c | 6 => ∃ (a1 : Option Addr) (c1 : Nat), own = .slice a1 0 c1 ∧ wx.ownsRow w.heap.size 5 1 (.slice a1 0 c1) 0 ((rest.take 0).map (Value.int .u8)) | 7 => ∃ (a1 : Option Addr) (c1 : Nat), own = .slice a1 0 c1 ∧ wx.ownsRow w.heap.size 5 1 (.slice a1 0 c1) 0 ((rest.take 0).map (Value.int .u8)) | _ => True) (fun kx wx => Ext w wx) (by kernel_rfl) (by kernel_rfl) ?g0_r3 ?gop_r3 ?gend_r3
      case g0_r3 => exact Below.refl _ _
      case gop_r3 =>
        refine ⟨?_, ?_, ?_, ?_, ?_, ?_, ?_, ?_, trivial⟩
        · intro kx xs wx hk hG hD hI Qo Kx hK hQo
          clear hD
          clear hI
          simp only [patchS, Nat.reduceAdd, Nat.reduceEqDiff, ↓reduceIte] at hQo ⊢
          go_wp2
          exact hK.out _ _ ⟨rfl, hG, fun _ _ _ _ _ _ h => h⟩
        · intro kx xs wx hk hG hD hI Qo Kx hK hQo
          have d0 : (xs 0) = .pointer (some ⟨q, 0, none⟩) := hD 0 rfl
          clear hD
          clear hI
          simp only [patchS, Nat.reduceAdd, Nat.reduceEqDiff, ↓reduceIte] at hQo ⊢
          generalize xs 0 = y0 at *
          subst d0
          go_wp2
          exact hK.out _ _ ⟨rfl, hG, fun _ _ _ _ _ _ h => h⟩
        · intro kx xs wx hk hG hD hI Qo Kx hK hQo
          have d1 : (xs 1) = .pointer (some ⟨q, 0, none⟩) := hD 1 rfl
          clear hD
          clear hI
          simp only [patchS, Nat.reduceAdd, Nat.reduceEqDiff, ↓reduceIte] at hQo ⊢
          generalize xs 1 = y1 at *
          subst d1
          go_wp2
          exact hK.out _ _ ⟨rfl, hG, fun _ _ _ _ _ _ h => h⟩
        · intro kx xs wx hk hG hD hI Qo Kx hK hQo
          have d2 : (xs 2) = .pointer (some ⟨q, 0, none⟩) := hD 2 rfl
          clear hD
          clear hI
          simp only [patchS, Nat.reduceAdd, Nat.reduceEqDiff, ↓reduceIte] at hQo ⊢
          generalize xs 2 = y2 at *
          subst d2
          have k0 := cell_ext hG m0
          go_wp2
          exact hK.out _ _ ⟨rfl, hG, fun _ _ _ _ _ _ h => h⟩
        · intro kx xs wx hk hG hD hI Qo Kx hK hQo
          clear hD
          clear hI
          simp only [patchS, Nat.reduceAdd, Nat.reduceEqDiff, ↓reduceIte] at hQo ⊢
          go_wp2
          exact hK.out _ _ ⟨rfl, hG, fun _ _ _ _ _ _ h => h⟩
        · intro kx xs wx hk hG hD hI Qo Kx hK hQo
          have d3 : (xs 3) = .slice (some y) 0 c := hD 3 rfl
          have d4 : (xs 4) = .int .i64 0 := hD 4 rfl
          clear hD
          clear hI
          simp only [patchS, Nat.reduceAdd, Nat.reduceEqDiff, ↓reduceIte] at hQo ⊢
          generalize xs 3 = y3 at *
          generalize xs 4 = y4 at *
          subst d3
          subst d4
          go_wp2
          exact hK.out _ _ ⟨rfl, hG, fun _ _ _ _ _ _ h => h⟩
        · intro kx xs wx hk hG hD hI Qo Kx hK hQo
          have d5 : (xs 5) = .slice (some y) 0 c := hD 5 rfl
          clear hD
          clear hI
          simp only [patchS, Nat.reduceAdd, Nat.reduceEqDiff, ↓reduceIte] at hQo ⊢
          generalize xs 5 = y5 at *
          subst d5
          refine wpList_apps _ (World.ownsRow_nil _ w.heap.size _ _) hG.size rfl _ _ 22 rfl (.int .u8 0) 1 Tryd.underlying22 info_uint8 rfl rfl (some y) 0 c _ rfl (sT.ext hG) (by intro u hu; obtain ⟨z, -, rfl⟩ := List.mem_map.1 hu; rfl) (by omega) (by omega) ?_
          intro v14 w14 own14 gr14
          rw [Nat.zero_add, List.nil_append] at own14
          obtain ⟨a14, c14, rfl⟩ := owns_form own14
          have e8 := ext_none gr14 rfl
          exact hQo _ _ (hK.out _ _ ⟨⟨_, _, rfl, own14⟩, hG.trans e8, fun i _ _ _ own ys h => Hext.out i own ys _ _ e8 h⟩)
        · intro kx xs wx hk hG hD hI Qo Kx hK hQo
          have d6 : ∃ (a1 : Option Addr) (c1 : Nat), (xs 6) = .slice a1 0 c1 ∧ wx.ownsRow w.heap.size 5 1 (.slice a1 0 c1) 0 ((rest.take 0).map (Value.int .u8)) := hD 6 rfl
          clear hD
          clear hI
          simp only [patchS, Nat.reduceAdd, Nat.reduceEqDiff, ↓reduceIte] at hQo ⊢
          generalize xs 6 = y6 at *
          obtain ⟨a1, c1, rfl, o1⟩ := d6
          go_wp2
          exact hK.out _ _ ⟨⟨_, _, rfl, o1⟩, hG, fun _ _ _ _ _ _ h => h⟩
      clear Hext
      intro xs wx hV hG
      have d0 : (xs 0) = .pointer (some ⟨q, 0, none⟩) := hV 0 (by decide)
      have d1 : (xs 1) = .pointer (some ⟨q, 0, none⟩) := hV 1 (by decide)
      have d2 : (xs 2) = .pointer (some ⟨q, 0, none⟩) := hV 2 (by decide)
      have d3 : (xs 3) = .slice (some y) 0 c := hV 3 (by decide)
      have d4 : (xs 4) = .int .i64 0 := hV 4 (by decide)
      have d5 : (xs 5) = .slice (some y) 0 c := hV 5 (by decide)
      have d6 : ∃ (a1 : Option Addr) (c1 : Nat), (xs 6) = .slice a1 0 c1 ∧ wx.ownsRow w.heap.size 5 1 (.slice a1 0 c1) 0 ((rest.take 0).map (Value.int .u8)) := hV 6 (by decide)
      have d7 : ∃ (a1 : Option Addr) (c1 : Nat), (xs 7) = .slice a1 0 c1 ∧ wx.ownsRow w.heap.size 5 1 (.slice a1 0 c1) 0 ((rest.take 0).map (Value.int .u8)) := hV 7 (by decide)
      clear hV
      simp only [patchS, Nat.reduceAdd, Nat.reduceEqDiff, ↓reduceIte]
      generalize xs 0 = y0 at *
      generalize xs 1 = y1 at *
      generalize xs 2 = y2 at *
      generalize xs 3 = y3 at *
      generalize xs 4 = y4 at *
      generalize xs 5 = y5 at *
      generalize xs 6 = y6 at *
      generalize xs 7 = y7 at *
      replace hG : Ext w wx := hG
      clear d0 d1 d2 d3 d4 d5 d6
      obtain ⟨a7, c7, rfl, o7⟩ := d7
      have k0 := cell_ext hG m0
      obtain ⟨-, -, -, g0, g1⟩ := bx2 (hG.blk H1.out)
      clear m0 m1 f0 f1
      by_cases hc : c = 0
      · subst hc
        go_wp2
        go_ret
        exact FNH.out _ _ _ _ _ o7 hG (by omega) (fun z hz => by cases hz; exact H5.out y rfl)
      · go_wp2
        go_ret
        exact FNH.out _ _ _ _ _ o7 hG (by omega) (fun z hz => by cases hz; exact H5.out y rfl)
theorem take_any (q n : Nat) (s : ByteArray) (rest : List Int) (er : Bool) (w : World) (hn : n ≤ 1048576) (h : CuS w q rest er) :
    Calls Tryd.prog 40 #[.pointer (some ⟨q, 0, none⟩), .int .i64 n, .string s] w (TkR w q rest er n) := by
  cases er with
  | true => exact take_er q n s rest w hn h
  | false =>
    by_cases hlt : rest.length < n
    · exact take_short q n s rest w hn hlt h
    · exact take_ok q n s rest w hn (by omega) h
end Go.Proofs.YtpjjadmjdafkeaaDoor
