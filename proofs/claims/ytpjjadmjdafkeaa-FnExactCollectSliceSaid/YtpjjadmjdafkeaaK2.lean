/- Packets: contracts of their validity and bytes. -/
import Derived.Test.YtpjjadmjdafkeaaK1
import Derived.Test.YtpjjadmjdafkeaaA2
import Derived.Test.YtpjjadmjdafkeaaAppm
namespace Go.Proofs.Ytpjjadmjdafkeaa
open Go.RowKit
set_option maxHeartbeats 400000

theorem numberValid_yes (x : Int) (w : World) (h0 : 0 ≤ x) (h1 : x ≤ 9999) :
    Calls Try.prog 64 #[.int .i64 x] w fun e w' => e = .returned (.bool true) ∧ w = w' := by
  go_enter Try.func64, Try.ntmps64
  go_wp2
  go_ret
  exact ⟨by first | rfl | (simp; done) | (simp; omega), rfl⟩
theorem numberValid_no (x : Int) (w : World) (h : x < 0 ∨ 9999 < x) :
    Calls Try.prog 64 #[.int .i64 x] w fun e w' => e = .returned (.bool false) ∧ w = w' := by
  by_cases h0 : 0 ≤ x
  · have h1 : ¬ x ≤ 9999 := by omega
    go_enter Try.func64, Try.ntmps64
    go_wp2
    go_ret
    exact ⟨by first | rfl | (simp; done) | (simp; omega), rfl⟩
  · go_enter Try.func64, Try.ntmps64
    go_wp2
    go_ret
    exact ⟨by first | rfl | (simp; done) | (simp; omega), rfl⟩
theorem impl_PacketValid_yes (num fr row part : Int) (last : Bool) (a : Option Addr) (n c : Nat) (w : World) (h : pval num fr row part n) :
    Calls Try.prog 30 #[.agg #[.int .i64 num, .int .i64 fr, .int .i64 row, .int .i64 part, .bool last, .slice a n c]] w fun e w' => e = .returned (.bool true) ∧ Ext w w' := by
  obtain ⟨h1, h2, h3, h4, h5, h6, h7, h8, h9, h10⟩ := h
  go_enter Try.func30, Try.ntmps30
  go_wp2_with fail
  refine (numberValid_yes num _ h1 h2).mono ?_
  rintro e w1 ⟨rfl, rfl⟩
  go_wp2_with fail
  refine (numberValid_yes fr _ h3 h4).mono ?_
  rintro e w1 ⟨rfl, rfl⟩
  go_wp2
  go_ret
  refine ⟨by first | rfl | (simp; done) | (simp; omega), ?_⟩
  (repeat (first | with_reducible exact Below.refl _ _ | assumption | with_reducible refine below_drewN ?_ _ | with_reducible refine Below.drew ?_ | with_reducible refine Below.setCell ?_ (by simp <;> omega) _ | with_reducible refine Ext.trans ?_ (Ext.alloc _ _)))
theorem impl_PacketValid_no (num fr row part : Int) (last : Bool) (a : Option Addr) (n c : Nat) (w : World) (h : ¬ pval num fr row part n) :
    Calls Try.prog 30 #[.agg #[.int .i64 num, .int .i64 fr, .int .i64 row, .int .i64 part, .bool last, .slice a n c]] w fun e w' => e = .returned (.bool false) ∧ Ext w w' := by
  unfold pval at h
  by_cases h1 : 0 ≤ num ∧ num ≤ 9999
  · by_cases h2 : 0 ≤ fr ∧ fr ≤ 9999
    · have H := Lib.hid h
      clear h
      go_enter Try.func30, Try.ntmps30
      go_wp2_with fail
      refine (numberValid_yes num _ h1.1 h1.2).mono ?_
      rintro e w1 ⟨rfl, rfl⟩
      go_wp2_with fail
      refine (numberValid_yes fr _ h2.1 h2.2).mono ?_
      rintro e w1 ⟨rfl, rfl⟩
      by_cases h3 : 0 ≤ row
      · by_cases h4 : row < 4
        · by_cases h5 : 0 ≤ part
          · by_cases h6 : part ≤ 255
            · by_cases h7 : 1 ≤ n
              · have h8 : ¬ n ≤ 200 := fun h8 => H.out ⟨h1.1, h1.2, h2.1, h2.2, h3, h4, h5, h6, h7, h8⟩
                go_wp2
                go_ret
                refine ⟨by first | rfl | (simp; done) | (simp; omega), ?_⟩
                (repeat (first | with_reducible exact Below.refl _ _ | assumption | with_reducible refine below_drewN ?_ _ | with_reducible refine Below.drew ?_ | with_reducible refine Below.setCell ?_ (by simp <;> omega) _ | with_reducible refine Ext.trans ?_ (Ext.alloc _ _)))
              · have h8 : n = 0 := by omega
                subst h8
                go_wp2
                go_ret
                refine ⟨by first | rfl | (simp; done) | (simp; omega), ?_⟩
                (repeat (first | with_reducible exact Below.refl _ _ | assumption | with_reducible refine below_drewN ?_ _ | with_reducible refine Below.drew ?_ | with_reducible refine Below.setCell ?_ (by simp <;> omega) _ | with_reducible refine Ext.trans ?_ (Ext.alloc _ _)))
            · go_wp2
              go_ret
              refine ⟨by first | rfl | (simp; done) | (simp; omega), ?_⟩
              (repeat (first | with_reducible exact Below.refl _ _ | assumption | with_reducible refine below_drewN ?_ _ | with_reducible refine Below.drew ?_ | with_reducible refine Below.setCell ?_ (by simp <;> omega) _ | with_reducible refine Ext.trans ?_ (Ext.alloc _ _)))
          · go_wp2
            go_ret
            refine ⟨by first | rfl | (simp; done) | (simp; omega), ?_⟩
            (repeat (first | with_reducible exact Below.refl _ _ | assumption | with_reducible refine below_drewN ?_ _ | with_reducible refine Below.drew ?_ | with_reducible refine Below.setCell ?_ (by simp <;> omega) _ | with_reducible refine Ext.trans ?_ (Ext.alloc _ _)))
        · go_wp2
          go_ret
          refine ⟨by first | rfl | (simp; done) | (simp; omega), ?_⟩
          (repeat (first | with_reducible exact Below.refl _ _ | assumption | with_reducible refine below_drewN ?_ _ | with_reducible refine Below.drew ?_ | with_reducible refine Below.setCell ?_ (by simp <;> omega) _ | with_reducible refine Ext.trans ?_ (Ext.alloc _ _)))
      · go_wp2
        go_ret
        refine ⟨by first | rfl | (simp; done) | (simp; omega), ?_⟩
        (repeat (first | with_reducible exact Below.refl _ _ | assumption | with_reducible refine below_drewN ?_ _ | with_reducible refine Below.drew ?_ | with_reducible refine Below.setCell ?_ (by simp <;> omega) _ | with_reducible refine Ext.trans ?_ (Ext.alloc _ _)))
    · have H2 := Lib.hid (show fr < 0 ∨ 9999 < fr by omega)
      clear h h2
      go_enter Try.func30, Try.ntmps30
      go_wp2_with fail
      refine (numberValid_yes num _ h1.1 h1.2).mono ?_
      rintro e w1 ⟨rfl, rfl⟩
      go_wp2_with fail
      refine (numberValid_no fr _ H2.out).mono ?_
      rintro e w1 ⟨rfl, rfl⟩
      go_wp2
      go_ret
      refine ⟨by first | rfl | (simp; done) | (simp; omega), ?_⟩
      (repeat (first | with_reducible exact Below.refl _ _ | assumption | with_reducible refine below_drewN ?_ _ | with_reducible refine Below.drew ?_ | with_reducible refine Below.setCell ?_ (by simp <;> omega) _ | with_reducible refine Ext.trans ?_ (Ext.alloc _ _)))
  · have H2 := Lib.hid (show num < 0 ∨ 9999 < num by omega)
    clear h h1
    go_enter Try.func30, Try.ntmps30
    go_wp2_with fail
    refine (numberValid_no num _ H2.out).mono ?_
    rintro e w1 ⟨rfl, rfl⟩
    go_wp2
    go_ret
    refine ⟨by first | rfl | (simp; done) | (simp; omega), ?_⟩
    (repeat (first | with_reducible exact Below.refl _ _ | assumption | with_reducible refine below_drewN ?_ _ | with_reducible refine Below.drew ?_ | with_reducible refine Below.setCell ?_ (by simp <;> omega) _ | with_reducible refine Ext.trans ?_ (Ext.alloc _ _)))
theorem impl_PacketValid_any (num fr row part : Int) (last : Bool) (a : Option Addr) (n c : Nat) (w : World) :
    Calls Try.prog 30 #[.agg #[.int .i64 num, .int .i64 fr, .int .i64 row, .int .i64 part, .bool last, .slice a n c]] w fun e w' => e = .returned (.bool (decide (pval num fr row part n))) ∧ Ext w w' := by
  by_cases h : pval num fr row part n
  · rw [decide_eq_true h]; exact impl_PacketValid_yes num fr row part last a n c w h
  · rw [decide_eq_false h]; exact impl_PacketValid_no num fr row part last a n c w h
theorem spec_PacketValid_yes (num fr row part : Int) (last : Bool) (a : Option Addr) (n c : Nat) (w : World) (h : pval num fr row part n) :
    Calls Try.prog 26 #[.agg #[.int .i64 num, .int .i64 fr, .int .i64 row, .int .i64 part, .bool last, .slice a n c]] w fun e w' => e = .returned (.bool true) ∧ Ext w w' := by
  obtain ⟨h1, h2, h3, h4, h5, h6, h7, h8, h9, h10⟩ := h
  go_enter Try.func26, Try.ntmps26
  go_wp2_with fail
  refine (l1In_yes num _ _ _ h1 h2).mono ?_
  rintro e w1 ⟨rfl, rfl⟩
  go_wp2_with fail
  refine (l1In_yes fr _ _ _ h3 h4).mono ?_
  rintro e w1 ⟨rfl, rfl⟩
  go_wp2_with fail
  refine (l1In_yes row _ _ _ h5 (by omega)).mono ?_
  rintro e w1 ⟨rfl, rfl⟩
  go_wp2_with fail
  refine (l1In_yes part _ _ _ h7 h8).mono ?_
  rintro e w1 ⟨rfl, rfl⟩
  go_wp2_with fail
  refine (l1In_yes (n : Int) _ _ _ (by omega) (by omega)).mono ?_
  rintro e w1 ⟨rfl, rfl⟩
  go_wp2
  go_ret
  refine ⟨by first | rfl | (simp; done) | (simp; omega), ?_⟩
  (repeat (first | with_reducible exact Below.refl _ _ | assumption | with_reducible refine below_drewN ?_ _ | with_reducible refine Below.drew ?_ | with_reducible refine Below.setCell ?_ (by simp <;> omega) _ | with_reducible refine Ext.trans ?_ (Ext.alloc _ _)))
theorem spec_PacketValid_no (num fr row part : Int) (last : Bool) (a : Option Addr) (n c : Nat) (w : World) (hn : n ≤ 9223372036854775807) (h : ¬ pval num fr row part n) :
    Calls Try.prog 26 #[.agg #[.int .i64 num, .int .i64 fr, .int .i64 row, .int .i64 part, .bool last, .slice a n c]] w fun e w' => e = .returned (.bool false) ∧ Ext w w' := by
  unfold pval at h
  have H := Lib.hid h
  clear h
  go_enter Try.func26, Try.ntmps26
  go_wp2_with fail
  by_cases h1 : 0 ≤ num ∧ num ≤ 9999
  · refine (l1In_yes num _ _ _ h1.1 h1.2).mono ?_
    rintro e w1 ⟨rfl, rfl⟩
    go_wp2_with fail
    by_cases h2 : 0 ≤ fr ∧ fr ≤ 9999
    · refine (l1In_yes fr _ _ _ h2.1 h2.2).mono ?_
      rintro e w1 ⟨rfl, rfl⟩
      go_wp2_with fail
      by_cases h3 : 0 ≤ row ∧ row < 4
      · refine (l1In_yes row _ _ _ h3.1 (by omega)).mono ?_
        rintro e w1 ⟨rfl, rfl⟩
        go_wp2_with fail
        by_cases h4 : 0 ≤ part ∧ part ≤ 255
        · refine (l1In_yes part _ _ _ h4.1 h4.2).mono ?_
          rintro e w1 ⟨rfl, rfl⟩
          go_wp2_with fail
          have h5 : ¬ (1 ≤ n ∧ n ≤ 200) := fun h5 => H.out ⟨h1.1, h1.2, h2.1, h2.2, h3.1, h3.2, h4.1, h4.2, h5.1, h5.2⟩
          refine (l1In_no (n : Int) _ _ _ (by omega)).mono ?_
          rintro e w1 ⟨rfl, rfl⟩
          go_wp2
          go_ret
          refine ⟨by first | rfl | (simp; done) | (simp; omega), ?_⟩
          (repeat (first | with_reducible exact Below.refl _ _ | assumption | with_reducible refine below_drewN ?_ _ | with_reducible refine Below.drew ?_ | with_reducible refine Below.setCell ?_ (by simp <;> omega) _ | with_reducible refine Ext.trans ?_ (Ext.alloc _ _)))
        · refine (l1In_no part _ _ _ (by omega)).mono ?_
          rintro e w1 ⟨rfl, rfl⟩
          go_wp2
          go_ret
          refine ⟨by first | rfl | (simp; done) | (simp; omega), ?_⟩
          (repeat (first | with_reducible exact Below.refl _ _ | assumption | with_reducible refine below_drewN ?_ _ | with_reducible refine Below.drew ?_ | with_reducible refine Below.setCell ?_ (by simp <;> omega) _ | with_reducible refine Ext.trans ?_ (Ext.alloc _ _)))
      · refine (l1In_no row _ _ _ (by omega)).mono ?_
        rintro e w1 ⟨rfl, rfl⟩
        go_wp2
        go_ret
        refine ⟨by first | rfl | (simp; done) | (simp; omega), ?_⟩
        (repeat (first | with_reducible exact Below.refl _ _ | assumption | with_reducible refine below_drewN ?_ _ | with_reducible refine Below.drew ?_ | with_reducible refine Below.setCell ?_ (by simp <;> omega) _ | with_reducible refine Ext.trans ?_ (Ext.alloc _ _)))
    · refine (l1In_no fr _ _ _ (by omega)).mono ?_
      rintro e w1 ⟨rfl, rfl⟩
      go_wp2
      go_ret
      refine ⟨by first | rfl | (simp; done) | (simp; omega), ?_⟩
      (repeat (first | with_reducible exact Below.refl _ _ | assumption | with_reducible refine below_drewN ?_ _ | with_reducible refine Below.drew ?_ | with_reducible refine Below.setCell ?_ (by simp <;> omega) _ | with_reducible refine Ext.trans ?_ (Ext.alloc _ _)))
  · refine (l1In_no num _ _ _ (by omega)).mono ?_
    rintro e w1 ⟨rfl, rfl⟩
    go_wp2
    go_ret
    refine ⟨by first | rfl | (simp; done) | (simp; omega), ?_⟩
    (repeat (first | with_reducible exact Below.refl _ _ | assumption | with_reducible refine below_drewN ?_ _ | with_reducible refine Below.drew ?_ | with_reducible refine Below.setCell ?_ (by simp <;> omega) _ | with_reducible refine Ext.trans ?_ (Ext.alloc _ _)))
theorem spec_PacketValid_any (num fr row part : Int) (last : Bool) (a : Option Addr) (n c : Nat) (w : World) (hn : n ≤ 9223372036854775807) :
    Calls Try.prog 26 #[.agg #[.int .i64 num, .int .i64 fr, .int .i64 row, .int .i64 part, .bool last, .slice a n c]] w fun e w' => e = .returned (.bool (decide (pval num fr row part n))) ∧ Ext w w' := by
  by_cases h : pval num fr row part n
  · rw [decide_eq_true h]; exact spec_PacketValid_yes num fr row part last a n c w h
  · rw [decide_eq_false h]; exact spec_PacketValid_no num fr row part last a n c w hn h
end Go.Proofs.Ytpjjadmjdafkeaa
