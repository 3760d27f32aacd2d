/- Macroblocks: their validity, plain; blocks within a bound; vectors. -/
import Derived.Test.YtlmoeabchiddnaaDoorIa
import Derived.Test.YtlmoeabchiddnaaDoorA2
namespace Go.Proofs.YtlmoeabchiddnaaDoor
open Go.RowKit
set_option maxHeartbeats 400000
/-- Every number is in -B..B. -/
def inB (B : Int) (zs : List Int) : Bool := zs.all fun z => decide (-B ≤ z) && decide (z ≤ B)
theorem inB_yes {B : Int} {zs : List Int} (h : ∀ j, j < zs.length → -B ≤ nth zs j ∧ nth zs j ≤ B) : inB B zs = true := by
  unfold inB
  rw [List.all_eq_true]
  intro z hz
  obtain ⟨j, hj, rfl⟩ := List.getElem_of_mem hz
  have := h j hj
  rw [nth_eq zs j hj] at this
  simp [this]
theorem inB_no {B : Int} {zs : List Int} {j : Nat} (hj : j < zs.length) (h : nth zs j < -B ∨ B < nth zs j) : inB B zs = false := by
  unfold inB
  rw [List.all_eq_false]
  refine ⟨zs[j], List.getElem_mem hj, ?_⟩
  rw [nth_eq zs j hj] at h
  simp
  omega
theorem inB_iff {B : Int} {zs : List Int} : inB B zs = true ↔ ∀ j, j < zs.length → -B ≤ nth zs j ∧ nth zs j ≤ B := by
  constructor
  · intro h j hj
    refine Classical.byContradiction fun hn => ?_
    rw [inB_no hj (by omega)] at h
    cases h
  · exact inB_yes
theorem size_A16 : (Tryd.prog.info? 25).map (·.size) = some 16 := by kernel_rfl
theorem size_int : (Tryd.prog.info? 3).map (·.size) = some 1 := by kernel_rfl
set_option maxRecDepth 100000 in
theorem impl_blockWithin_any (zs : List Int) (B : Int) (w : World) (hl : zs.length = 16) (hB : 0 ≤ B) (hB2 : B ≤ 1099511627776) :
    Calls Tryd.prog 88 #[.agg (ic zs), .int .i64 B] w fun e w' => e = .returned (.bool (inB B zs)) ∧ Ext w w' := by
  have H := IB.new w 25 zs
  have hsa := sub_all zs 16 hl
  have Hl := Lib.hid hl
  clear hl
  go_enter Tryd.func88, Tryd.ntmps88
  go_wp2_with (refine wpList_iload 25 _ rfl rfl H 0 16 rfl _ Tryd.underlying25 rfl size_A16 (by rw [Hl.out]; omega) _ (by rw [hsa]) ?_)
  go_loopw [8] (fun i wr => ∃ k : Nat, k ≤ 16 ∧ i = .int .i64 k ∧ Ext w wr ∧ Hid (∀ j, j < k → -B ≤ nth zs j ∧ nth zs j ≤ B)) (fun i _ => 16 - (intOf i).toNat)
  case atStart => exact ⟨0, by omega, rfl, Ext.alloc _ _, Lib.hid (fun j hj => by omega)⟩
  case round =>
    obtain ⟨k, hk, rfl, E2, hall⟩ := hrel
    clear H hsa
    by_cases hlt : k < 16
    · by_cases h1 : nth zs k < -B
      · have hno := Lib.hid (inB_no (B := B) (by rw [Hl.out]; exact hlt) (.inl h1))
        go_wp2_with (refine wpList_iindex _ _ _ rfl rfl zs rfl k 16 _ rfl rfl _ Tryd.underlying25 Tryd.underlying3 size_int hlt Hl.out ?_)
        go_ret
        exact ⟨(ret_bool hno.out).symm, E2⟩
      · have hd1 : decide (nth zs k < -B) = false := by simpa using h1
        by_cases h2 : B < nth zs k
        · have hno := Lib.hid (inB_no (B := B) (by rw [Hl.out]; exact hlt) (.inr h2))
          go_wp2_with (refine wpList_iindex _ _ _ rfl rfl zs rfl k 16 _ rfl rfl _ Tryd.underlying25 Tryd.underlying3 size_int hlt Hl.out ?_)
          go_ret
          exact ⟨(ret_bool hno.out).symm, E2⟩
        · have hd2 : decide (B < nth zs k) = false := by simpa using h2
          have hall2 := Lib.hid (show ∀ j, j < k + 1 → -B ≤ nth zs j ∧ nth zs j ≤ B from fun j hj => by
            by_cases hjk : j = k
            · subst hjk; omega
            · exact hall.out j (by omega))
          go_wp2_with (refine wpList_iindex _ _ _ rfl rfl zs rfl k 16 _ rfl rfl _ Tryd.underlying25 Tryd.underlying3 size_int hlt Hl.out ?_)
          go_roundw
          case rel => exact ⟨k + 1, by omega, by go_num, E2, hall2⟩
          case measure => simp [intOf]; omega
    · obtain rfl : k = 16 := by omega
      have hy := Lib.hid (inB_yes (B := B) (zs := zs) (by rw [Hl.out]; exact hall.out))
      go_wp2
      go_ret
      exact ⟨(ret_bool hy.out).symm, E2⟩
end Go.Proofs.YtlmoeabchiddnaaDoor
