/- Pictures: plain words; the helpers of their exact laws. -/
import Derived.Test.YtlmoeabchiddnaaDoorH
import Derived.Test.YtlmoeabchiddnaaDoorOwn
import Derived.Test.YtlmoeabchiddnaaDoorBits
namespace Go.Proofs.YtlmoeabchiddnaaDoor
open Go.RowKit
set_option maxHeartbeats 1000000
/-- A picture: its sides and its samples. -/
structure Pic where
  w : Int
  h : Int
  px : List Int
/-- All numbers are samples. -/
def smp (zs : List Int) : Prop := ∀ z ∈ zs, 0 ≤ z ∧ z ≤ 255
instance decSmp (zs : List Int) : Decidable (smp zs) := by unfold smp; infer_instance
def side (n : Int) : Prop := 8 ≤ n ∧ n ≤ 32 ∧ n % 8 = 0
instance decSide (n : Int) : Decidable (side n) := by unfold side; infer_instance
def Pic.valid (p : Pic) : Prop := side p.w ∧ side p.h ∧ (p.px.length : Int) = p.w * p.h ∧ smp p.px
instance decPicValid (p : Pic) : Decidable p.valid := by unfold Pic.valid; infer_instance
def pic0 : Pic := ⟨0, 0, []⟩
theorem smp_nth {zs : List Int} (h : smp zs) {i : Nat} (hi : i < zs.length) : 0 ≤ nth zs i ∧ nth zs i ≤ 255 := by
  rw [nth_eq _ _ hi]; exact h _ (List.getElem_mem hi)
theorem smp_of_nth {zs : List Int} (h : ∀ i, i < zs.length → 0 ≤ nth zs i ∧ nth zs i ≤ 255) : smp zs := by
  intro z hz
  obtain ⟨i, hi, rfl⟩ := List.getElem_of_mem hz
  rw [← nth_eq _ _ hi]
  exact h i hi
theorem side_le {n : Int} (h : side n) : 8 ≤ n ∧ n ≤ 32 ∧ n % 8 = 0 := h
/-- The number of samples. -/
theorem area_le {a b : Int} (h1 : side a) (h2 : side b) : 64 ≤ a * b ∧ a * b ≤ 1024 := by
  obtain ⟨a1, a2, -⟩ := h1
  obtain ⟨b1, b2, -⟩ := h2
  constructor
  · have := Int.mul_le_mul a1 b1 (by omega) (by omega); omega
  · have := Int.mul_le_mul a2 b2 (by omega) (by omega); omega
theorem Pic.len_le {p : Pic} (h : p.valid) : 64 ≤ p.px.length ∧ p.px.length ≤ 1024 := by
  have := area_le h.1 h.2.1
  have := h.2.2.1
  omega
theorem sl_bound {w : World} {a : Option Addr} {n : Nat} {zs : List Int} (h : Sl w a n (zs.map (Value.int .i64))) (y : Addr) (hy : a = some y) (h0 : 0 < n) : y.block < w.heap.size := by
  obtain ⟨b, o, e, c⟩ := h.int h0
  rw [hy] at e
  simp only [Option.some.injEq] at e
  subst e
  exact World.block_lt_of_cell? w _ c
theorem szIntS_any (a : Option Addr) (c n : Nat) (left : Int) (w : World) (hn : n ≤ 9223372036854775807) (h0 : 0 ≤ left) (h1 : left ≤ 1048576) :
    Calls Tryd.prog 65 #[.slice a n c, .int .i64 left] w fun e w' => e = .returned (.int .i64 (if left - n < 0 then -1 else left - n)) ∧ w = w' := by
  go_enter Tryd.func65, Tryd.ntmps65
  by_cases h : left - n < 0
  · rw [if_pos h]
    go_wp2
    go_ret
    exact ⟨rfl, rfl⟩
  · rw [if_neg h]
    have hd : decide (left - (n : Int) < 0) = false := by simpa using h
    go_wp2
    go_ret
    exact ⟨rfl, rfl⟩
theorem szPicture_any (x y : Int) (a : Option Addr) (c n : Nat) (left : Int) (w : World) (hn : n ≤ 9223372036854775807) (h0 : 0 ≤ left) (h1 : left ≤ 1048576) :
    Calls Tryd.prog 20 #[.agg #[.int .i64 x, .int .i64 y, .slice a n c], .int .i64 left] w fun e w' => e = .returned (.int .i64 (if left - n < 0 then -1 else left - n)) ∧ Ext w w' := by
  go_enter Tryd.func20, Tryd.ntmps20
  go_wp2_with fail
  refine (szIntS_any a c n left _ hn h0 h1).mono ?_
  rintro e w1 ⟨rfl, rfl⟩
  by_cases h : left - n < 0
  · rw [if_pos h]
    go_wp2
    go_ret
    refine ⟨rfl, ?_⟩
    (repeat (first | with_reducible exact Below.refl _ _ | assumption | with_reducible refine below_drewN ?_ _ | with_reducible refine Below.drew ?_ | with_reducible refine Below.setCell ?_ (by simp <;> omega) _ | with_reducible refine Ext.trans ?_ (Ext.alloc _ _)))
  · rw [if_neg h]
    have hd : decide (left - (n : Int) < 0) = false := by simpa using h
    go_wp2
    go_ret
    refine ⟨rfl, ?_⟩
    (repeat (first | with_reducible exact Below.refl _ _ | assumption | with_reducible refine below_drewN ?_ _ | with_reducible refine Below.drew ?_ | with_reducible refine Below.setCell ?_ (by simp <;> omega) _ | with_reducible refine Ext.trans ?_ (Ext.alloc _ _)))
theorem size_Picture : (Tryd.prog.info? 46).map (·.size) = some 3 := by kernel_rfl
theorem info_Picture : (Tryd.prog.info? 46).map (fun i => (i.zero, i.size, i.bytes)) = some (some (.agg #[.int .i64 0, .int .i64 0, .slice none 0 0]), 3, 40) := by kernel_rfl
theorem toPicture_any (x y : Int) (a : Option Addr) (n c : Nat) (xs : List Int) (w : World) (hn : n < 2^45) (r : Sl w a n (xs.map (Value.int .i64))) :
    Calls Tryd.prog 22 #[.agg #[.int .i64 x, .int .i64 y, .slice a n c]] w fun e w' => ∃ a' c', e = .returned (.agg #[.int .i64 x, .int .i64 y, .slice a' n c']) ∧ w'.ownsRow w.heap.size 3 1 (.slice a' n c') n (xs.map (Value.int .i64)) ∧ Ext w w' := by
  go_enter Tryd.func22, Tryd.ntmps22
  have p1 := blk_alloc (blk_new (w.alloc (.cells #[.int .i64 x, .int .i64 y, .slice a n c] 44)) (.cells #[.int .i64 0, .int .i64 0, .slice none 0 0] 46)) (.cells #[.int .i64 x, .int .i64 y, .slice none 0 0] 46)
  have p2 := blk_new ((w.alloc (.cells #[.int .i64 x, .int .i64 y, .slice a n c] 44)).alloc (.cells #[.int .i64 0, .int .i64 0, .slice none 0 0] 46)) (.cells #[.int .i64 x, .int .i64 y, .slice none 0 0] 46)
  simp only [World.size_alloc] at p1 p2
  go_wp2_with fail
  refine (toIntS_any a c n xs _ hn (r.ext (by (repeat (first | with_reducible exact Below.refl _ _ | assumption | with_reducible refine below_drewN ?_ _ | with_reducible refine Below.drew ?_ | with_reducible refine Below.setCell ?_ (by simp <;> omega) _ | with_reducible refine Ext.trans ?_ (Ext.alloc _ _)))))).mono ?_
  rintro e w1 ⟨v, rfl, own1, e1⟩
  obtain ⟨a1, c1, rfl⟩ := owns_form own1
  have E1 : Ext w w1 := by refine Ext.trans ?_ e1; (repeat (first | with_reducible exact Below.refl _ _ | assumption | with_reducible refine below_drewN ?_ _ | with_reducible refine Below.drew ?_ | with_reducible refine Below.setCell ?_ (by simp <;> omega) _ | with_reducible refine Ext.trans ?_ (Ext.alloc _ _)))
  have q1 := e1.blk p1
  have q2 := e1.blk p2
  simp only [World.size_alloc] at own1
  clear p1 p2 e1
  obtain ⟨m0, m1, m2, m3, f0, f1, f2⟩ := bx3 q1
  obtain ⟨n0, n1, n2, n3, g0, g1, g2⟩ := bx3 q2
  have Q1 := Lib.hid q1
  clear q1 q2
  go_wp2
  refine bodyPost_ret (v := .agg #[.int .i64 x, .int .i64 y, .slice a1 n c1]) (results_cell_row rfl _ _ (w.heap.size + 1) 46 #[.int .i64 x, .int .i64 y, .slice a1 n c1] (0, 0) _ rfl (blk_set3 (blk_set_other Q1.out (by omega))) Tryd.underlying46 rfl size_Picture) rfl ⟨_, _, rfl, ?_, ?_⟩
  · refine owns_mono (base := w.heap.size + 1 + 1 + 1) ?_ (by omega)
    (repeat refine ownsRow_setCell_below ?_ (by simp <;> omega) _)
    exact own1
  · (repeat (with_reducible refine Below.setCell ?_ (by simp <;> omega) _))
    exact E1
theorem eqIntS_same (a1 a2 : Option Addr) (c1 c2 n : Nat) (xs : List Int) (w : World) (hn : n < 2^47) (r1 : Sl w a1 n (xs.map (Value.int .i64))) (r2 : Sl w a2 n (xs.map (Value.int .i64))) :
    Calls Tryd.prog 14 #[.slice a1 n c1, .slice a2 n c2] w fun e w' => e = .returned (.bool true) ∧ ∃ m, w' = w.drewN m := by
  refine (eqIntS_any a1 a2 c1 c2 n n xs xs w hn hn r1 r2).mono ?_
  rintro e w' ⟨rfl, h⟩
  exact ⟨by rw [decide_eq_true rfl], h⟩
theorem eqPicture_same (x y : Int) (a b : Option Addr) (c d n : Nat) (xs : List Int) (w : World) (hn : n < 2^45) (r1 : Sl w a n (xs.map (Value.int .i64))) (r2 : Sl w b n (xs.map (Value.int .i64))) :
    Calls Tryd.prog 24 #[.agg #[.int .i64 x, .int .i64 y, .slice a n c], .agg #[.int .i64 x, .int .i64 y, .slice b n d]] w fun e w' => e = .returned (.bool true) ∧ Ext w w' := by
  go_enter Tryd.func24, Tryd.ntmps24
  go_wp2_with fail
  refine (eqIntS_same a b c d n xs _ (by omega) (r1.ext (by (repeat (first | with_reducible exact Below.refl _ _ | assumption | with_reducible refine below_drewN ?_ _ | with_reducible refine Below.drew ?_ | with_reducible refine Below.setCell ?_ (by simp <;> omega) _ | with_reducible refine Ext.trans ?_ (Ext.alloc _ _))))) (r2.ext (by (repeat (first | with_reducible exact Below.refl _ _ | assumption | with_reducible refine below_drewN ?_ _ | with_reducible refine Below.drew ?_ | with_reducible refine Below.setCell ?_ (by simp <;> omega) _ | with_reducible refine Ext.trans ?_ (Ext.alloc _ _)))))).mono ?_
  rintro e w1 ⟨rfl, m, rfl⟩
  go_wp2
  go_ret
  refine ⟨rfl, ?_⟩
  (repeat (first | with_reducible exact Below.refl _ _ | assumption | with_reducible refine below_drewN ?_ _ | with_reducible refine Below.drew ?_ | with_reducible refine Below.setCell ?_ (by simp <;> omega) _ | with_reducible refine Ext.trans ?_ (Ext.alloc _ _)))
theorem markPicture_any (x y : Int) (a : Option Addr) (n c : Nat) (xs : List Value) (k : Int) (base : Nat) (w : World) (hn : n < 2^47) (hk0 : 0 ≤ k) (hk : k < 2^60)
    (own : w.ownsRow base 3 1 (.slice a n c) n xs) :
    Calls Tryd.prog 25 #[.agg #[.int .i64 x, .int .i64 y, .slice a n c], .int .i64 k] w fun e w' => e = .returned (.int .i64 (k + n)) ∧ w'.ownsRow base 3 1 (.slice a n c) n ((marks k n).map (Value.int .i64)) ∧ w.grownBy w' (Value.slice a n c).ownBlock := by
  go_enter Tryd.func25, Tryd.ntmps25
  go_wp2_with fail
  refine (markIntS_any _ n _ k base _ hn hk0 hk (owns_ext own (by (repeat (first | with_reducible exact Below.refl _ _ | assumption | with_reducible refine below_drewN ?_ _ | with_reducible refine Below.drew ?_ | with_reducible refine Below.setCell ?_ (by simp <;> omega) _ | with_reducible refine Ext.trans ?_ (Ext.alloc _ _)))))).mono ?_
  rintro e w1 ⟨rfl, own1, g1⟩
  go_wp2
  go_ret
  exact ⟨rfl, own1, ext_grown (Ext.alloc w _) g1⟩
theorem heldPicture_any (x y : Int) (a : Option Addr) (n c : Nat) (k : Int) (w : World) (hn : n < 2^47) (hk0 : 0 ≤ k) (hk : k < 2^60)
    (r : Sl w a n ((marks k n).map (Value.int .i64))) :
    Calls Tryd.prog 26 #[.agg #[.int .i64 x, .int .i64 y, .slice a n c], .int .i64 k] w fun e w' => e = .returned (.int .i64 (k + n)) ∧ Ext w w' := by
  go_enter Tryd.func26, Tryd.ntmps26
  go_wp2_with fail
  refine (heldIntS_any a c n k _ hn hk0 hk (r.ext (by (repeat (first | with_reducible exact Below.refl _ _ | assumption | with_reducible refine below_drewN ?_ _ | with_reducible refine Below.drew ?_ | with_reducible refine Below.setCell ?_ (by simp <;> omega) _ | with_reducible refine Ext.trans ?_ (Ext.alloc _ _)))))).mono ?_
  rintro e w1 ⟨rfl, m, rfl⟩
  have hd : decide (k + (n : Int) < 0) = false := by simp; omega
  go_wp2
  go_ret
  refine ⟨rfl, ?_⟩
  (repeat (first | with_reducible exact Below.refl _ _ | assumption | with_reducible refine below_drewN ?_ _ | with_reducible refine Below.drew ?_ | with_reducible refine Below.setCell ?_ (by simp <;> omega) _ | with_reducible refine Ext.trans ?_ (Ext.alloc _ _)))
end Go.Proofs.YtlmoeabchiddnaaDoor
