/- The exact laws' helpers over byte strings and lists of them: size, copy, compare, mark, hold. -/
import Derived.Test.YtpjjadmjdafkeaaDoorP0
import Derived.Test.YtpjjadmjdafkeaaDoorOwn
import Derived.Test.YtpjjadmjdafkeaaDoorRegion
namespace Go.Proofs.YtpjjadmjdafkeaaDoor
open Go.RowKit
set_option maxHeartbeats 400000

/-- Between w and w' only blocks of lo..hi-1 have changed. -/
structure Tch (w w' : World) (lo hi : Nat) : Prop where
  os : w'.os = w.os
  tape : w'.tape = w.tape
  output : w'.output = w.output
  size : w.heap.size ≤ w'.heap.size
  block : ∀ k, k < w.heap.size → (k < lo ∨ hi ≤ k) → w'.heap[k]? = w.heap[k]?
theorem Tch.refl (w : World) (lo hi : Nat) : Tch w w lo hi := ⟨rfl, rfl, rfl, Nat.le_refl _, fun _ _ _ => rfl⟩
theorem Tch.trans {a b c : World} {lo hi : Nat} (h : Tch a b lo hi) (k : Tch b c lo hi) : Tch a c lo hi :=
  ⟨k.os.trans h.os, k.tape.trans h.tape, k.output.trans h.output, Nat.le_trans h.size k.size, fun i hi ho => (k.block i (Nat.lt_of_lt_of_le hi h.size) ho).trans (h.block i hi ho)⟩
theorem Tch.of_grown {w w' : World} {lo hi : Nat} {row : Option Nat} (g : w.grownBy w' row) (h : ∀ k, row = some k → lo ≤ k ∧ k < hi) : Tch w w' lo hi :=
  ⟨g.os, g.tape, g.output, g.size, fun k hk ho => g.block k hk (fun e => by have := h k e.symm; omega)⟩
theorem Tch.ext {w w1 w2 : World} {lo hi : Nat} (h : Tch w w1 lo hi) (e : Ext w1 w2) : Tch w w2 lo hi :=
  ⟨e.os.trans h.os, e.tape.trans h.tape, e.output.trans h.output, Nat.le_trans h.size e.size, fun k hk ho => (e.block k (Nat.lt_of_lt_of_le hk h.size)).trans (h.block k hk ho)⟩
theorem Ext.tch {a w w' : World} {lo hi : Nat} (e : Ext a w) (h : Tch w w' lo hi) (hl : a.heap.size ≤ lo) : Ext a w' :=
  ⟨h.os.trans e.os, h.tape.trans e.tape, h.output.trans e.output, Nat.le_trans e.size h.size, fun k hk => (h.block k (Nat.lt_of_lt_of_le hk e.size) (by omega)).trans (e.block k hk)⟩
theorem Tch.cell {w w' : World} {lo hi : Nat} (t : Tch w w' lo hi) {p : Addr} {v : Value} (h : w.cell? p = some v) (ho : p.block < lo ∨ hi ≤ p.block) : w'.cell? p = some v := by
  have hb := t.block p.block (World.block_lt_of_cell? w _ h) ho
  obtain ⟨b, o, s⟩ := p
  simp only [World.cell?] at h ⊢
  simp only at hb
  rw [hb]; exact h
theorem Sl.tch {w w' : World} {lo hi n : Nat} {a : Option Addr} {xs : List Value} (h : Sl w a n xs) (t : Tch w w' lo hi) (ho : ∀ x, a = some x → x.block < lo ∨ hi ≤ x.block) : Sl w' a n xs := by
  refine ⟨h.1, fun i hi => ?_⟩
  obtain ⟨b, off, ha, hc⟩ := h.2 i hi
  have h2 := ho _ ha
  exact ⟨b, off, ha, t.cell hc h2⟩
theorem owns_tch {w w' : World} {lo hi base e n : Nat} {v : Value} {xs : List Value} (h : w.ownsRow base e 1 v n xs) (t : Tch w w' lo hi) (ho : ∀ k, v.ownBlock = some k → k < lo ∨ hi ≤ k) : w'.ownsRow base e 1 v n xs := by
  obtain ⟨h1, h2⟩ := h
  refine ⟨h1, ?_⟩
  rcases h2 with h2 | ⟨g, cap, cur, rfl, hg, r1, r2⟩
  · exact .inl h2
  · exact .inr ⟨g, cap, cur, rfl, hg, by rw [t.block g (lt_of_block r1) (ho g rfl)]; exact r1, r2⟩

/-- The bytes from k on. -/
def marksB (k : Int) (n : Nat) : List Int := tab n fun i => (k + (i : Int)) % 256
theorem markByteS_any (v : Value) (n : Nat) (xs : List Value) (k : Int) (base : Nat) (w : World) (hn : n < 2^47) (hk0 : 0 ≤ k) (hk : k < 2^60)
    (own : w.ownsRow base 5 1 v n xs) :
    Calls Tryd.prog 17 #[v, .int .i64 k] w fun e w' => e = .returned (.int .i64 (k + n)) ∧ w'.ownsRow base 5 1 v n ((marksB k n).map (Value.int .u8)) ∧ w.grownBy w' v.ownBlock := by
  have hxl : xs.length = n := by have := own.1; omega
  rcases id own.2 with ⟨rfl, rfl⟩ | ⟨g, cap, cur, rfl, -⟩
  · go_enter Tryd.func17, Tryd.ntmps17
    go_wp2
    go_loopw [1, 5] (fun q i wr => i = .int .i64 0 ∧ q = .int .i64 k ∧ w = wr) (fun _ _ _ => 0)
    case atStart => exact ⟨rfl, rfl, rfl⟩
    case round =>
      obtain ⟨rfl, rfl, rfl⟩ := hrel
      go_wp2
      go_ret
      exact ⟨by simp, World.ownsRow_nil _ _ _ _, World.grownBy.refl _ _⟩
  · have H0 := mix_zero ((marksB k n).map (Value.int .u8)) xs
    rw [← H0] at own
    clear H0
    go_enter Tryd.func17, Tryd.ntmps17
    go_wp2
    go_loopw [1, 5] (fun q i wr => ∃ j : Nat, j ≤ n ∧ i = .int .i64 j ∧ q = .int .i64 (k + j) ∧ w.grownBy wr (some g) ∧ wr.ownsRow base 5 1 (.slice (some ⟨g, 0, none⟩) n cap) n (mix ((marksB k n).map (Value.int .u8)) xs j)) (fun _ i _ => n - (intOf i).toNat)
    case atStart => exact ⟨0, by omega, rfl, by simp, World.grownBy.refl _ _, own⟩
    case round =>
      obtain ⟨j, hj, rfl, rfl, E2, hown2⟩ := hrel
      clear own
      by_cases hlt : j < n
      · obtain ⟨u, g2, -⟩ := owns_get hown2 hlt
        have g3 := hown2.frozenAt j
        have Hx := Lib.hid hxl
        have hrel2 : (wr.setCell ⟨g, j, none⟩ (.int .u8 (IntKind.u8.wrap (k + j)))).ownsRow base 5 1 (.slice (some ⟨g, 0, none⟩) n cap) n (mix ((marksB k n).map (Value.int .u8)) xs (j + 1)) ∧ wr.grownBy (wr.setCell ⟨g, j, none⟩ (.int .u8 (IntKind.u8.wrap (k + j)))) (some g) := by
          obtain ⟨o2, gr⟩ := hown2.stored j (.int .u8 (IntKind.u8.wrap (k + j)))
          rw [mix_set _ _ j (by simp [marksB, tab_len, hxl]) (by simp [marksB, tab_len, hlt]) _ (by rw [getD_map_int _ _ _ (by rw [marksB, tab_len]; exact hlt), marksB, nth_tab _ _ _ hlt, wrap_u8])] at o2
          exact ⟨o2, gr⟩
        have Hrel := Lib.hid hrel2
        have GG := Lib.hid (grownBy_trans E2 hrel2.2)
        clear hxl hrel2 hown2 E2
        go_wp2
        go_roundw
        case rel => exact ⟨j + 1, by omega, rfl, by go_num, by first | exact GG.out | simpa [wrap_u8] using GG.out, by first | exact Hrel.out.1 | simpa [wrap_u8] using Hrel.out.1⟩
        case measure => simp [intOf]; omega
      · obtain rfl : j = n := by omega
        rw [mix_all _ _ j (by simp [marksB, tab_len]) hxl] at hown2
        clear hxl
        go_wp2
        go_ret
        exact ⟨rfl, hown2, E2⟩
theorem heldByteS_any (a : Option Addr) (c n : Nat) (k : Int) (w : World) (hn : n < 2^47) (hk0 : 0 ≤ k) (hk : k < 2^60)
    (r : Sl w a n ((marksB k n).map (Value.int .u8))) :
    Calls Tryd.prog 32 #[.slice a n c, .int .i64 k] w fun e w' => e = .returned (.int .i64 (k + n)) ∧ ∃ m, w' = w.drewN m := by
  go_enter Tryd.func32, Tryd.ntmps32
  go_wp2
  go_loopw [1, 5] (fun q i wr => ∃ j : Nat, j ≤ n ∧ i = .int .i64 j ∧ q = .int .i64 (k + j) ∧ ∃ m, wr = w.drewN m) (fun _ i _ => n - (intOf i).toNat)
  case atStart => exact ⟨0, by omega, rfl, by simp, 0, rfl⟩
  case round =>
    obtain ⟨j, hj, rfl, rfl, m, rfl⟩ := hrel
    by_cases hlt : j < n
    · obtain ⟨b1, o1, rfl, g1⟩ := r.int hlt
      rw [marksB, nth_tab _ _ _ hlt] at g1
      have hw : IntKind.u8.wrap (k + (j : Int)) = (k + (j : Int)) % 256 := wrap_u8 _
      generalize (k + (j : Int)) % 256 = y at g1 hw
      have hb : (y != y) = false := by simp
      go_wp2
      go_roundw
      case rel => exact ⟨j + 1, by omega, rfl, by go_num, m, rfl⟩
      case measure => simp [intOf]; omega
    · obtain rfl : j = n := by omega
      go_wp2
      go_ret
      exact ⟨rfl, m, rfl⟩
theorem eqByteS_same (a1 a2 : Option Addr) (c1 c2 n : Nat) (xs : List Int) (w : World) (hn : n < 2^47) (r1 : Sl w a1 n (xs.map (Value.int .u8))) (r2 : Sl w a2 n (xs.map (Value.int .u8))) :
    Calls Tryd.prog 16 #[.slice a1 n c1, .slice a2 n c2] w fun e w' => e = .returned (.bool true) ∧ ∃ m, w' = w.drewN m := by
  refine (eqByteS_any a1 a2 c1 c2 n n xs xs w hn hn r1 r2).mono ?_
  rintro e w' ⟨rfl, h⟩
  exact ⟨by rw [decide_eq_true rfl], h⟩
end Go.Proofs.YtpjjadmjdafkeaaDoor
