/- Drawing: odd, buffers. -/
import Derived.Test.YtlmoeabchiddnaaDoorD2
import Derived.Deep.Cut
namespace Go.Proofs.YtlmoeabchiddnaaDoor
open Go.RowKit
set_option maxHeartbeats 400000

theorem mul_rng {a b A B : Int} (h1 : 0 ≤ a) (h2 : a ≤ A) (h3 : 0 ≤ b) (h4 : b ≤ B) : 0 ≤ a * b ∧ a * b ≤ A * B :=
  ⟨Int.mul_nonneg h1 h3, Int.mul_le_mul h2 h4 h3 (by omega)⟩
theorem mod_rng {a b : Int} (h1 : 0 ≤ a) (h2 : 1 ≤ b) : 0 ≤ a % b ∧ a % b < b ∧ a % b ≤ a :=
  ⟨Int.emod_nonneg _ (by omega), Int.emod_lt_of_pos _ (by omega), by
    have h3 := Int.mul_ediv_add_emod a b
    have h4 := Int.mul_nonneg (show 0 ≤ b by omega) (Int.ediv_nonneg h1 (show 0 ≤ b by omega))
    omega⟩
theorem div_rng {a b : Int} (h1 : 0 ≤ a) (h2 : 1 ≤ b) : 0 ≤ a / b ∧ a / b ≤ a :=
  ⟨Int.ediv_nonneg h1 (by omega), Int.ediv_le_self _ h1⟩

theorem odd_c (b P : Nat) (n : Int) (w : World) (h : RdP w b P) (hp : P < 2^40) (hn0 : 1 ≤ n) (hn : n ≤ 1000000000) :
    Calls Tryd.prog 64 #[.pointer (some ⟨b, 0, none⟩), .int .i64 n] w fun e w' => ∃ x : Bool, e = .returned (.bool x) ∧ RdP w' b (P + 1) ∧ w.grownBy w' (some b) := by
  go_enter Tryd.func64, Tryd.ntmps64
  go_wp2_with fail
  refine (pick_c b P n _ h hp hn0 hn).mono ?_
  rintro e w1 ⟨x, rfl, x0, x1, r, g⟩
  go_wp2
  go_ret
  exact ⟨_, rfl, r, g⟩
theorem odd_0 (b : Nat) (n : Int) (w : World) (hn : n ≤ 0) :
    Calls Tryd.prog 64 #[.pointer (some ⟨b, 0, none⟩), .int .i64 n] w fun e w' => e = .returned (.bool false) ∧ w = w' := by
  go_enter Tryd.func64, Tryd.ntmps64
  go_wp2
  go_ret
  exact ⟨rfl, rfl⟩

theorem gr_blk {w w' : World} {b q : Nat} {o : Obj} (g : w.grownBy w' (some b)) (h : w.heap[q]? = some o) (hne : q ≠ b) : w'.heap[q]? = some o := by
  rw [g.block q (lt_of_block h) (by simp; exact fun e => hne e)]; exact h
end Go.Proofs.YtlmoeabchiddnaaDoor
