/- PictureValid, both sides. -/
import Derived.Test.YtlmoeabchiddnaaDoorPc
import Derived.Test.YtlmoeabchiddnaaDoorA2
import Derived.Test.YtlmoeabchiddnaaDoorV
namespace Go.Proofs.YtlmoeabchiddnaaDoor
open Go.RowKit
set_option maxHeartbeats 1000000
theorem smp_no {zs : List Int} {k : Nat} (hk : k < zs.length) (h : nth zs k < 0 ∨ 255 < nth zs k) : ¬ smp zs := fun hs => by
  have := smp_nth hs hk
  omega
theorem smp_yes {zs : List Int} (h : ∀ j, j < zs.length → 0 ≤ nth zs j ∧ nth zs j ≤ 255) : smp zs := smp_of_nth h
def shaped (W H : Int) (n : Nat) : Prop := side W ∧ side H ∧ (n : Int) = W * H
set_option maxRecDepth 100000 in
theorem spec_PictureValid_in (W H : Int) (a : Option Addr) (c n : Nat) (zs : List Int) (w : World) (r : Sl w a n (zs.map (Value.int .i64))) (hs : shaped W H n) :
    Calls Tryd.prog 29 #[.agg #[.int .i64 W, .int .i64 H, .slice a n c]] w fun e w' => e = .returned (.bool (decide (smp zs))) ∧ Ext w w' := by
  obtain ⟨⟨w1, w2, w3⟩, ⟨h1, h2, h3⟩, hn⟩ := hs
  have hp := area_le ⟨w1, w2, w3⟩ ⟨h1, h2, h3⟩
  have hl := r.int_len
  have Hl := Lib.hid hl
  have hnb : n ≤ 1024 := by omega
  have hd1 : ((n : Int) != W * H) = false := by simp [hn]
  have hdw : (W % 8 != 0) = false := by simp [w3]
  have hdh : (H % 8 != 0) = false := by simp [h3]
  have E0 := Ext.alloc w (.cells #[.int .i64 W, .int .i64 H, .slice a n c] 46)
  have p0 := blk_new w (.cells #[.int .i64 W, .int .i64 H, .slice a n c] 46)
  clear hn w3 h3 hl
  go_enter Tryd.func29, Tryd.ntmps29
  go_wp2_with fail
  refine (l1In_yes _ _ _ _ w1 w2).mono ?_
  rintro e w1' ⟨rfl, rfl⟩
  go_wp2_with fail
  refine (l1In_yes _ _ _ _ h1 h2).mono ?_
  rintro e w1' ⟨rfl, rfl⟩
  go_wp2_with fail
  go_loop [3] (fun i => ∃ k : Nat, k ≤ n ∧ i = .int .i64 k ∧ Hid (∀ j, j < k → 0 ≤ nth zs j ∧ nth zs j ≤ 255)) (fun i => n - (intOf i).toNat)
  case atStart => exact ⟨0, by omega, rfl, Lib.hid (fun j hj => by omega)⟩
  case round =>
    obtain ⟨k, hk, rfl, hall⟩ := hrel
    by_cases hlt : k < n
    · obtain ⟨b1, o1, rfl, g1⟩ := (r.ext E0).int hlt
      by_cases hin : 0 ≤ nth zs k ∧ nth zs k ≤ 255
      · have hall2 := Lib.hid (show ∀ j, j < k + 1 → 0 ≤ nth zs j ∧ nth zs j ≤ 255 from fun j hj => by
          rcases Nat.lt_succ_iff_lt_or_eq.1 hj with h | rfl
          · exact hall.out j h
          · exact hin)
        generalize nth zs k = z at *
        go_wp2_with fail
        refine (l1In_yes _ _ _ _ hin.1 hin.2).mono ?_
        rintro e w2' ⟨rfl, rfl⟩
        go_wp2
        go_round
        case rel => exact ⟨k + 1, by omega, by go_num, hall2⟩
        case measure => simp [intOf]; omega
      · have hno := Lib.hid (smp_no (zs := zs) (k := k) (by rw [Hl.out]; exact hlt) (by omega))
        generalize nth zs k = z at *
        go_wp2_with fail
        refine (l1In_no _ _ _ _ (by omega)).mono ?_
        rintro e w2' ⟨rfl, rfl⟩
        go_wp2
        go_ret
        exact ⟨(ret_bool (decide_eq_false hno.out)).symm, E0⟩
    · obtain rfl : k = n := by omega
      go_wp2
      go_ret
      exact ⟨(ret_bool (decide_eq_true (smp_yes (fun j hj => hall.out j (by rw [Hl.out] at hj; exact hj))))).symm, E0⟩
set_option maxRecDepth 100000 in
theorem spec_PictureValid_out (W H : Int) (a : Option Addr) (c n : Nat) (w : World) (hc : n ≤ 9223372036854775807) (hs : ¬ shaped W H n) :
    Calls Tryd.prog 29 #[.agg #[.int .i64 W, .int .i64 H, .slice a n c]] w fun e w' => e = .returned (.bool false) ∧ Ext w w' := by
  have E0 := Ext.alloc w (.cells #[.int .i64 W, .int .i64 H, .slice a n c] 46)
  have p0 := blk_new w (.cells #[.int .i64 W, .int .i64 H, .slice a n c] 46)
  by_cases hw : 8 ≤ W ∧ W ≤ 32
  · by_cases hh : 8 ≤ H ∧ H ≤ 32
    · by_cases hw8 : W % 8 = 0
      · have hdw : (W % 8 != 0) = false := by simp [hw8]
        by_cases hh8 : H % 8 = 0
        · have hdh : (H % 8 != 0) = false := by simp [hh8]
          have hp := area_le ⟨hw.1, hw.2, hw8⟩ ⟨hh.1, hh.2, hh8⟩
          have hd1 : ((n : Int) != W * H) = true := by
            simp
            intro he
            exact hs ⟨⟨hw.1, hw.2, hw8⟩, ⟨hh.1, hh.2, hh8⟩, he⟩
          clear hw8 hh8 hs
          go_enter Tryd.func29, Tryd.ntmps29
          go_wp2_with fail
          refine (l1In_yes _ _ _ _ hw.1 hw.2).mono ?_
          rintro e w1' ⟨rfl, rfl⟩
          go_wp2_with fail
          refine (l1In_yes _ _ _ _ hh.1 hh.2).mono ?_
          rintro e w1' ⟨rfl, rfl⟩
          go_wp2
          go_ret
          exact ⟨rfl, E0⟩
        · have hdh : (H % 8 != 0) = true := by simp [hh8]
          clear hw8 hs
          go_enter Tryd.func29, Tryd.ntmps29
          go_wp2_with fail
          refine (l1In_yes _ _ _ _ hw.1 hw.2).mono ?_
          rintro e w1' ⟨rfl, rfl⟩
          go_wp2_with fail
          refine (l1In_yes _ _ _ _ hh.1 hh.2).mono ?_
          rintro e w1' ⟨rfl, rfl⟩
          go_wp2
          go_ret
          exact ⟨rfl, E0⟩
      · have hdw : (W % 8 != 0) = true := by simp [hw8]
        clear hs
        go_enter Tryd.func29, Tryd.ntmps29
        go_wp2_with fail
        refine (l1In_yes _ _ _ _ hw.1 hw.2).mono ?_
        rintro e w1' ⟨rfl, rfl⟩
        go_wp2_with fail
        refine (l1In_yes _ _ _ _ hh.1 hh.2).mono ?_
        rintro e w1' ⟨rfl, rfl⟩
        go_wp2
        go_ret
        exact ⟨rfl, E0⟩
    · clear hs
      go_enter Tryd.func29, Tryd.ntmps29
      go_wp2_with fail
      refine (l1In_yes _ _ _ _ hw.1 hw.2).mono ?_
      rintro e w1' ⟨rfl, rfl⟩
      go_wp2_with fail
      refine (l1In_no _ _ _ _ (by omega)).mono ?_
      rintro e w1' ⟨rfl, rfl⟩
      go_wp2
      go_ret
      exact ⟨rfl, E0⟩
  · clear hs
    go_enter Tryd.func29, Tryd.ntmps29
    go_wp2_with fail
    refine (l1In_no _ _ _ _ (by omega)).mono ?_
    rintro e w1' ⟨rfl, rfl⟩
    go_wp2
    go_ret
    exact ⟨rfl, E0⟩
theorem spec_PictureValid_any (p : Pic) (a : Option Addr) (c n : Nat) (w : World) (hn : n = p.px.length) (hc : n ≤ 9223372036854775807) (r : Sl w a n (p.px.map (Value.int .i64))) :
    Calls Tryd.prog 29 #[.agg #[.int .i64 p.w, .int .i64 p.h, .slice a n c]] w fun e w' => e = .returned (.bool (decide p.valid)) ∧ Ext w w' := by
  subst hn
  by_cases hs : shaped p.w p.h p.px.length
  · have h := spec_PictureValid_in p.w p.h a c _ p.px w r hs
    rw [show decide (smp p.px) = decide p.valid from decide_eq_decide.2 ⟨fun h => ⟨hs.1, hs.2.1, hs.2.2, h⟩, fun h => h.2.2.2⟩] at h
    exact h
  · rw [decide_eq_false (fun h => hs ⟨h.1, h.2.1, h.2.2.1⟩)]
    exact spec_PictureValid_out p.w p.h a c _ w hc hs
theorem sideValid_dec (x : Int) (w : World) : Calls Tryd.prog 58 #[.int .i64 x] w fun e w' => e = .returned (.bool (decide (side x))) ∧ w = w' := by
  by_cases h1 : 8 ≤ x
  · have d1 : decide (8 ≤ x) = true := by simpa using h1
    by_cases h2 : x ≤ 32
    · have d2 : decide (x ≤ 32) = true := by simpa using h2
      by_cases h3 : x % 8 = 0
      · have d3 : (x % 8 == 0) = true := by simp [h3]
        have H := Lib.hid (show decide (side x) = true from decide_eq_true ⟨h1, h2, h3⟩)
        clear h3
        go_enter Tryd.func58, Tryd.ntmps58
        go_wp2
        go_ret
        exact ⟨(ret_bool H.out).symm, rfl⟩
      · have d3 : (x % 8 == 0) = false := by simp [h3]
        have H := Lib.hid (show decide (side x) = false from decide_eq_false (fun h => h3 h.2.2))
        clear h3
        go_enter Tryd.func58, Tryd.ntmps58
        go_wp2
        go_ret
        exact ⟨(ret_bool H.out).symm, rfl⟩
    · have d2 : decide (x ≤ 32) = false := by simpa using h2
      have H := Lib.hid (show decide (side x) = false from decide_eq_false (fun h => h2 h.2.1))
      go_enter Tryd.func58, Tryd.ntmps58
      go_wp2
      go_ret
      exact ⟨(ret_bool H.out).symm, rfl⟩
  · have d1 : decide (8 ≤ x) = false := by simpa using h1
    have H := Lib.hid (show decide (side x) = false from decide_eq_false (fun h => h1 h.1))
    go_enter Tryd.func58, Tryd.ntmps58
    go_wp2
    go_ret
    exact ⟨(ret_bool H.out).symm, rfl⟩
theorem sampleValid_no (x : Int) (w : World) (h : x < 0 ∨ 255 < x) : Calls Tryd.prog 75 #[.int .i64 x] w fun e w' => e = .returned (.bool false) ∧ w = w' := by
  by_cases h1 : 0 ≤ x
  · have d1 : decide (0 ≤ x) = true := by simpa using h1
    have d2 : decide (x ≤ 255) = false := by simp; omega
    go_enter Tryd.func75, Tryd.ntmps75
    go_wp2
    go_ret
    exact ⟨rfl, rfl⟩
  · have d1 : decide (0 ≤ x) = false := by simpa using h1
    go_enter Tryd.func75, Tryd.ntmps75
    go_wp2
    go_ret
    exact ⟨rfl, rfl⟩
set_option maxRecDepth 100000 in
theorem samplesIn_any (a : Option Addr) (c n : Nat) (zs : List Int) (w : World) (hn : n < 2^47) (r : Sl w a n (zs.map (Value.int .i64))) :
    Calls Tryd.prog 76 #[.slice a n c] w fun e w' => e = .returned (.bool (decide (smp zs))) ∧ w = w' := by
  have Hl := Lib.hid r.int_len
  go_enter Tryd.func76, Tryd.ntmps76
  go_wp2
  go_loop [7] (fun i => ∃ k : Nat, k ≤ n ∧ i = .int .i64 k ∧ Hid (∀ j, j < k → 0 ≤ nth zs j ∧ nth zs j ≤ 255)) (fun i => n - (intOf i).toNat)
  case atStart => exact ⟨0, by omega, rfl, Lib.hid (fun j hj => by omega)⟩
  case round =>
    obtain ⟨k, hk, rfl, hall⟩ := hrel
    by_cases hlt : k < n
    · obtain ⟨b1, o1, rfl, g1⟩ := r.int hlt
      by_cases hin : 0 ≤ nth zs k ∧ nth zs k ≤ 255
      · have hall2 := Lib.hid (show ∀ j, j < k + 1 → 0 ≤ nth zs j ∧ nth zs j ≤ 255 from fun j hj => by
          rcases Nat.lt_succ_iff_lt_or_eq.1 hj with h | rfl
          · exact hall.out j h
          · exact hin)
        generalize nth zs k = z at *
        go_wp2_with fail
        refine (sampleValid_yes z _ hin.1 hin.2).mono ?_
        rintro e w2' ⟨rfl, rfl⟩
        go_wp2
        go_round
        case rel => exact ⟨k + 1, by omega, by go_num, hall2⟩
        case measure => simp [intOf]; omega
      · have hno := Lib.hid (smp_no (zs := zs) (k := k) (by rw [Hl.out]; exact hlt) (by omega))
        generalize nth zs k = z at *
        go_wp2_with fail
        refine (sampleValid_no z _ (by omega)).mono ?_
        rintro e w2' ⟨rfl, rfl⟩
        go_wp2
        go_ret
        exact ⟨(ret_bool (decide_eq_false hno.out)).symm, rfl⟩
    · obtain rfl : k = n := by omega
      go_wp2
      go_ret
      exact ⟨(ret_bool (decide_eq_true (smp_yes (fun j hj => hall.out j (by rw [Hl.out] at hj; exact hj))))).symm, rfl⟩
set_option maxRecDepth 100000 in
theorem impl_PictureValid_any (p : Pic) (a : Option Addr) (c n : Nat) (w : World) (hn : n = p.px.length) (hc : n ≤ 9223372036854775807) (r : Sl w a n (p.px.map (Value.int .i64))) :
    Calls Tryd.prog 31 #[.agg #[.int .i64 p.w, .int .i64 p.h, .slice a n c]] w fun e w' => e = .returned (.bool (decide p.valid)) ∧ Ext w w' := by
  obtain ⟨W, H, zs⟩ := p
  have E0 := Ext.alloc w (.cells #[.int .i64 W, .int .i64 H, .slice a n c] 46)
  have p0 := blk_new w (.cells #[.int .i64 W, .int .i64 H, .slice a n c] 46)
  have HN := Lib.hid hn
  clear hn
  go_enter Tryd.func31, Tryd.ntmps31
  go_wp2_with fail
  refine (sideValid_dec W _).mono ?_
  rintro e w1' ⟨rfl, rfl⟩
  by_cases hw : side W
  · rw [decide_eq_true hw]
    go_wp2_with fail
    refine (sideValid_dec H _).mono ?_
    rintro e w1' ⟨rfl, rfl⟩
    by_cases hh : side H
    · rw [decide_eq_true hh]
      have hp := area_le hw hh
      have hw1 := hw.1
      have hw2 := hw.2.1
      have hh1 := hh.1
      have hh2 := hh.2.1
      by_cases hd : (n : Int) = W * H
      · have hd1 : ((n : Int) != W * H) = false := by simp [hd]
        have hnb : n ≤ 1024 := by omega
        have H2 := Lib.hid (show smp zs ↔ Pic.valid ⟨W, H, zs⟩ from ⟨fun h => ⟨hw, hh, by rw [← hd, HN.out], h⟩, fun h => h.2.2.2⟩)
        clear hw hh hd
        go_wp2_with fail
        refine (samplesIn_any a c n zs _ (by omega) (r.ext E0)).mono ?_
        rintro e w1' ⟨rfl, rfl⟩
        go_wp2
        go_ret
        exact ⟨ret_bool (decide_eq_decide.2 H2.out), E0⟩
      · have hd1 : ((n : Int) != W * H) = true := by simpa using hd
        have H2 := Lib.hid (show ¬ Pic.valid ⟨W, H, zs⟩ from fun h => hd (by rw [HN.out]; exact h.2.2.1))
        clear hw hh hd
        go_wp2
        go_ret
        exact ⟨(ret_bool (decide_eq_false H2.out)).symm, E0⟩
    · rw [decide_eq_false hh]
      have H2 := Lib.hid (show ¬ Pic.valid ⟨W, H, zs⟩ from fun h => hh h.2.1)
      clear hw hh
      go_wp2
      go_ret
      exact ⟨(ret_bool (decide_eq_false H2.out)).symm, E0⟩
  · rw [decide_eq_false hw]
    have H2 := Lib.hid (show ¬ Pic.valid ⟨W, H, zs⟩ from fun h => hw h.1)
    clear hw
    go_wp2
    go_ret
    exact ⟨(ret_bool (decide_eq_false H2.out)).symm, E0⟩
end Go.Proofs.YtlmoeabchiddnaaDoor
