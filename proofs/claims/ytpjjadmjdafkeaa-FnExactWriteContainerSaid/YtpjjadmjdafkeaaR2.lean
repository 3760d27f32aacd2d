/- Copies of lists of entries, with what they own. -/
import Derived.Test.YtpjjadmjdafkeaaR1
import Derived.Test.YtpjjadmjdafkeaaS1
namespace Go.Proofs.Ytpjjadmjdafkeaa
open Go.RowKit
set_option maxHeartbeats 400000
theorem toSampleS_own (a : Option Addr) (c n : Nat) (L : List Smp) (w : World) (hn : n < 2^40) (r : SP w a n L) (hL : ∀ x ∈ L, x.2.2.length ≤ 1048576) :
    Calls Try.prog 47 #[.slice a n c] w fun e w' => e = .returned (.slice (some ⟨w.heap.size, 0, none⟩) n n) ∧ SP w' (some ⟨w.heap.size, 0, none⟩) n L ∧ RSo 2 91 w' w.heap.size w'.heap.size n ∧ Ext w w' := by
  obtain ⟨i0, hi, hz0, hz1, hz2⟩ := info_parts info_Sample
  go_enter Try.func47, Try.ntmps47
  go_wp2_with (at_make; refine wpList_make_full _ rfl _ _ 60 rfl w.heap.size 91 i0 (.agg #[.int .i64 0, .bool false, .slice none 0 0]) 3 Try.underlying60 hi hz0 hz1 .i64 .i64 _ _ n rfl rfl rfl rfl (by rw [hz2]; omega) (by unfold maxLen; omega) (Nat.le_refl _) ?_; intro w1 hown hgrow)
  have E1 : Ext w w1 := (Ext.grown (Below.refl _ _) hgrow (by simp))
  have hs1 : w.heap.size < w1.heap.size := (hown.lt w.heap.size rfl).2
  go_loopw [4] (fun i wr => ∃ (k : Nat) (cs : List Value), k ≤ n ∧ i = .int .i64 k ∧ Ext w wr ∧ w.heap.size < wr.heap.size ∧ wr.ownsRow w.heap.size 91 3 (.slice (some ⟨w.heap.size, 0, none⟩) n n) n cs ∧ (∀ j, j < k → SmpAt (w.heap.size + 1) wr w.heap.size (j * 3) (sget L j)) ∧ Hid (∃ bs, RSk 2 wr w.heap.size k wr.heap.size bs)) (fun i _ => n - (intOf i).toNat)
  case atStart => exact ⟨0, _, by omega, rfl, E1, hs1, hown, fun j hj => by omega, Lib.hid (RSk.zero 2 w1 (by omega))⟩
  case round =>
    obtain ⟨k, cs, hk, rfl, E2, hs2, own2, hall, HR⟩ := hrel
    clear hown E1 hgrow hs1
    have Hall := Lib.hid hall
    clear hall
    by_cases hlt : k < n
    · obtain ⟨b1, o1, rfl, g1⟩ := (r.ext E2).2 k hlt
      obtain ⟨a2, n2, c2, h1, h2, h3, h4, h5, h6, -⟩ := g1
      have hdl : (sget L k).2.2.length ≤ 1048576 := by
        rw [sget_eq L k (by rw [r.1]; exact hlt)]
        exact hL _ (List.getElem_mem _)
      have hn2 : n2 ≤ 1048576 := by rw [← h4.int_len]; exact hdl
      go_wp2_with fail
      refine (toSample_any (sget L k).1 (sget L k).2.1 a2 n2 c2 (sget L k).2.2 wr (by omega) h4).mono ?_
      rintro e w2 ⟨a3, c3, rfl, own3, e3⟩
      have own4 := owns_ext own2 e3
      obtain ⟨u0, d0, -⟩ := owns_at own4 (j := k * 3) (by omega)
      obtain ⟨u1, d1, -⟩ := owns_at own4 (j := k * 3 + 1) (by omega)
      obtain ⟨u2, d2, -⟩ := owns_at own4 (j := k * 3 + 2) (by omega)
      have f0 := own4.frozenAt (k * 3)
      have f1 := own4.frozenAt (k * 3 + 1)
      have f2 := own4.frozenAt (k * 3 + 2)
      have hs3 : w.heap.size < w2.heap.size := Nat.lt_of_lt_of_le hs2 e3.size
      have E3 := E2.trans e3
      have All2 := Lib.hid (fun j hj => (Hall.out j hj).ext e3)
      have s3 := Sl.of_owns own3
      have hge := owns_ge own3
      have hn3 : n2 = (sget L k).2.2.length := h4.int_len.symm
      have Hn3 := Lib.hid hn3
      have HR2 : Hid (∃ bs, RSk 2 (put3 w2 w.heap.size (k * 3) (.int .i64 (sget L k).1) (.bool (sget L k).2.1) (.slice a3 n2 c3)) w.heap.size (k + 1) (put3 w2 w.heap.size (k * 3) (.int .i64 (sget L k).1) (.bool (sget L k).2.1) (.slice a3 n2 c3)).heap.size bs) :=
        Lib.hid (RSk.snoc HR.out e3 own3 hn2 (put3_grown _ _ _ _ _ _) hs2 (fun q hq => put3_cell (by omega)) (put3_at d0 d1 d2).2.2)
      clear e3 own2 E2 Hall h1 h2 h3 h4 h5 h6 hn3 HR
      go_wp2
      go_roundw
      case rel =>
        obtain ⟨o1, g1⟩ := own4.stored (k * 3) (.int .i64 (sget L k).1)
        obtain ⟨o2, g2⟩ := o1.stored (k * 3 + 1) (.bool (sget L k).2.1)
        obtain ⟨o3, g3⟩ := o2.stored (k * 3 + 2) (.slice a3 n2 c3)
        have G3 := grownBy_trans (grownBy_trans g1 g2) g3
        refine ⟨k + 1, _, by omega, rfl, Ext.grown E3 G3 (by simp), by simpa using hs3, o3, fun j hj => ?_, HR2⟩
        have hgo : ∀ y, a3 = some y → w.heap.size + 1 ≤ y.block := fun y hy => by
          have := hge y.block (by rw [hy]; rfl)
          omega
        by_cases hjk : j = k
        · subst hjk
          exact SmpAt.put_same d0 d1 d2 s3 (owns_cap own3).1 (owns_cap own3).2 hgo
        · exact SmpAt.put_other (All2.out j (by omega)) (by omega)
      case measure => simp [intOf]; omega
    · obtain rfl : k = n := by omega
      go_wp2
      go_ret
      refine ⟨rfl, ⟨r.1, fun i hi => ⟨w.heap.size, 0, rfl, ?_⟩⟩, ⟨⟨cs, own2⟩, HR.out⟩, E2⟩
      rw [Nat.zero_add]
      exact (Hall.out i hi).mono (Nat.zero_le _)
end Go.Proofs.Ytpjjadmjdafkeaa
