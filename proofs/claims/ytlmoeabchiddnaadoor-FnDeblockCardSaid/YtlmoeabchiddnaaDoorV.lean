/- A new picture of one value; the law's 'alive'. -/
import Derived.Test.YtlmoeabchiddnaaDoorH
namespace Go.Proofs.YtlmoeabchiddnaaDoor
open Go.RowKit
set_option maxHeartbeats 400000

theorem sideValid_yes (x : Int) (w : World) (h1 : 8 ≤ x) (h2 : x ≤ 32) (h3 : x % 8 = 0) :
    Calls Tryd.prog 58 #[.int .i64 x] w fun e w' => e = .returned (.bool true) ∧ w = w' := by
  have hm := Lib.hid h3
  clear h3
  go_enter Tryd.func58, Tryd.ntmps58
  go_wp2
  go_ret
  exact ⟨by simp [hm.out], rfl⟩
theorem sampleValid_yes (x : Int) (w : World) (h1 : 0 ≤ x) (h2 : x ≤ 255) :
    Calls Tryd.prog 75 #[.int .i64 x] w fun e w' => e = .returned (.bool true) ∧ w = w' := by
  go_enter Tryd.func75, Tryd.ntmps75
  go_wp2
  go_ret
  exact ⟨by simp, rfl⟩
theorem NewPicture_any (x y v : Int) (n : Nat) (w : World) (hx : 8 ≤ x ∧ x ≤ 32 ∧ x % 8 = 0) (hy : 8 ≤ y ∧ y ≤ 32 ∧ y % 8 = 0) (hv : 0 ≤ v ∧ v ≤ 255) (hn : x * y = n) (hn2 : n ≤ 1024) :
    Calls Tryd.prog 30 #[.int .i64 x, .int .i64 y, .int .i64 v] w fun e w' => ∃ a c, e = .returned (.agg #[.int .i64 x, .int .i64 y, .slice a n c]) ∧ w'.ownsRow w.heap.size 3 1 (.slice a n c) n (List.replicate n (.int .i64 v)) ∧ Ext w w' := by
  have Hx := Lib.hid hx
  have Hy := Lib.hid hy
  have Hv := Lib.hid hv
  have Hn := Lib.hid hn
  clear hx hy hv hn
  go_enter Tryd.func30, Tryd.ntmps30
  go_wp2_with fail
  refine (sideValid_yes x _ Hx.out.1 Hx.out.2.1 Hx.out.2.2).mono ?_
  rintro e w1 ⟨rfl, rfl⟩
  go_wp2_with fail
  refine (sideValid_yes y _ Hy.out.1 Hy.out.2.1 Hy.out.2.2).mono ?_
  rintro e w1 ⟨rfl, rfl⟩
  go_wp2_with fail
  refine (sampleValid_yes v _ Hv.out.1 Hv.out.2).mono ?_
  rintro e w1 ⟨rfl, rfl⟩
  have hb : x * y ≤ 1024 := by rw [Hn.out]; omega
  have hb0 : 0 ≤ x * y := by rw [Hn.out]; omega
  have p0 := blk_new w (.cells #[.int .i64 0, .int .i64 0, .slice none 0 0] 46)
  go_wp2_with (at_make; refine wpList_mk _ rfl _ _ 29 rfl 3 (.int .i64 0) 8 Tryd.underlying29 info_int rfl _ n rfl rfl Hn.out (by omega) (by omega) ?_; intro w1 hown hgrow)
  have e1 : Ext (w.alloc (.cells #[.int .i64 0, .int .i64 0, .slice none 0 0] 46)) w1 := Ext.grown (Below.refl _ _) hgrow (by simp)
  simp only [World.size_alloc] at hown
  have E1 : Ext w w1 := Ext.trans (Ext.alloc _ _) e1
  have hB : w.heap.size + 1 < w1.heap.size := (hown.lt _ rfl).2
  have p1 := e1.blk p0
  clear p0 e1 hgrow
  have p2 := blk_alloc p1 (.cells #[.int .i64 x, .int .i64 y, .slice (some ⟨w.heap.size + 1, 0, none⟩) n n] 46)
  have q2 := blk_new w1 (.cells #[.int .i64 x, .int .i64 y, .slice (some ⟨w.heap.size + 1, 0, none⟩) n n] 46)
  have E2 : Ext w (w1.alloc (.cells #[.int .i64 x, .int .i64 y, .slice (some ⟨w.heap.size + 1, 0, none⟩) n n] 46)) := E1.trans (Ext.alloc _ _)
  have hsz : w.heap.size + 1 ≤ w1.heap.size := by have := lt_of_block p1; omega
  have own2 := owns_ext hown (Ext.alloc w1 (.cells #[.int .i64 x, .int .i64 y, .slice (some ⟨w.heap.size + 1, 0, none⟩) n n] 46))
  have H0 := mix_zero (List.replicate n (.int .i64 v)) (List.replicate n (.int .i64 0))
  rw [← H0] at own2
  clear H0 p1 hown E1
  generalize w1.alloc (.cells #[.int .i64 x, .int .i64 y, .slice (some ⟨w.heap.size + 1, 0, none⟩) n n] 46) = w2 at *
  generalize w1.heap.size = B at *
  go_loopw [8, 33] (fun _ i wr => ∃ k : Nat, k ≤ n ∧ i = .int .i64 k ∧ Ext w wr ∧ wr.heap[w.heap.size]? = some (.cells #[.int .i64 0, .int .i64 0, .slice none 0 0] 46 (0, 0)) ∧ wr.heap[B]? = some (.cells #[.int .i64 x, .int .i64 y, .slice (some ⟨w.heap.size + 1, 0, none⟩) n n] 46 (0, 0)) ∧ wr.ownsRow (w.heap.size + 1) 3 1 (.slice (some ⟨w.heap.size + 1, 0, none⟩) n n) n (mix (List.replicate n (.int .i64 v)) (List.replicate n (.int .i64 0)) k)) (fun _ i _ => n - (intOf i).toNat)
  case atStart => exact ⟨0, by omega, rfl, E2, p2, q2, own2⟩
  case round =>
    obtain ⟨k, hk, rfl, E3, p3, q3, own3⟩ := hrel
    clear p2 q2 own2 E2
    obtain ⟨z0, z1, z2, z3, z4, z5, z6⟩ := bx3 q3
    by_cases hlt : k < n
    · obtain ⟨u, g2, -⟩ := owns_get own3 hlt
      have g3 := own3.frozenAt k
      go_wp2
      go_roundw
      case rel =>
        obtain ⟨o2, gr⟩ := own3.stored k (.int .i64 v)
        rw [mix_set _ _ k (by simp) (by simp [hlt]) _ (by simp [hlt])] at o2
        exact ⟨k + 1, by omega, rfl, Ext.grown E3 gr (by simp), by rw [gr.block _ (lt_of_block p3) (by simp)]; exact p3, by rw [gr.block _ (lt_of_block q3) (by simp; omega)]; exact q3, o2⟩
      case measure => simp [intOf]; omega
    · obtain rfl : k = n := by omega
      rw [mix_all _ _ k (by simp) (by simp)] at own3
      obtain ⟨y0, y1, y2, y3, y4, y5, y6⟩ := bx3 p3
      have hne : B ≠ w.heap.size := by omega
      go_wp2
      have p4 := blk_set3 (x' := .int .i64 x) (y' := .int .i64 y) (z' := .slice (some ⟨w.heap.size + 1, 0, none⟩) k k) p3
      obtain ⟨x0, x1, x2, x3, -⟩ := bx3 p4
      refine bodyPost_ret (v := .agg #[.int .i64 x, .int .i64 y, .slice (some ⟨w.heap.size + 1, 0, none⟩) k k]) (by simp [results, Tryd.results30, go_sem, x1, x2, x3]) rfl ⟨_, _, rfl, ?_, ?_⟩
      · have hlt : ∀ i : Nat, (⟨w.heap.size, i, none⟩ : Addr).block < w.heap.size + 1 := fun i => Nat.lt_succ_self _
        exact owns_mono (ownsRow_setCell_below (ownsRow_setCell_below (ownsRow_setCell_below own3 (hlt 0) _) (hlt 1) _) (hlt 2) _) (by omega)
      · exact (((E3.setCell (Nat.le_refl _) _).setCell (Nat.le_refl _) _).setCell (Nat.le_refl _) _)
theorem alive_any (w : World) : Calls Tryd.prog 19 #[] w fun e w' => e = .returned (.bool true) ∧ Ext w w' := by
  go_enter Tryd.func19, Tryd.ntmps19
  go_wp2_with fail
  refine (NewPicture_any 8 8 7 64 _ (by decide) (by decide) (by decide) (by decide) (by decide)).mono ?_
  rintro e w1 ⟨a, c, rfl, -, e1⟩
  have hfd : ∀ w : World, (Instr.field 46 (.agg #[.int .i64 8, .int .i64 8, .slice a 64 c]) 2).run Tryd.prog w = .ok (.slice a 64 c) w := fun _ => by kernel_rfl
  go_wp2
  go_ret
  exact ⟨rfl, e1⟩
end Go.Proofs.YtlmoeabchiddnaaDoor
