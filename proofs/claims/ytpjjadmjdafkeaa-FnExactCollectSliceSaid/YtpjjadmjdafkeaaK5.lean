/- Packets: the helpers of their exact laws. -/
import Derived.Test.YtpjjadmjdafkeaaK3
import Derived.Test.YtpjjadmjdafkeaaP2
namespace Go.Proofs.Ytpjjadmjdafkeaa
open Go.RowKit
set_option maxHeartbeats 1000000
theorem szPacket_any (num fr row part : Int) (last : Bool) (a : Option Addr) (c n : Nat) (left : Int) (w : World) (hn : n ≤ 9223372036854775807) (h0 : 0 ≤ left) (h1 : left ≤ 1048576) :
    Calls Try.prog 12 #[.agg #[.int .i64 num, .int .i64 fr, .int .i64 row, .int .i64 part, .bool last, .slice a n c], .int .i64 left] w fun e w' => e = .returned (.int .i64 (if left - n < 0 then -1 else left - n)) ∧ Ext w w' := by
  go_enter Try.func12, Try.ntmps12
  go_wp2_with fail
  refine (szByteS_any a c n left _ hn h0 h1).mono ?_
  rintro e w1 ⟨rfl, rfl⟩
  by_cases h : left - n < 0
  · rw [if_pos h]
    go_wp2
    go_ret
    refine ⟨rfl, ?_⟩
    (repeat (first | with_reducible exact Below.refl _ _ | assumption | with_reducible refine below_drewN ?_ _ | with_reducible refine Below.drew ?_ | with_reducible refine Below.setCell ?_ (by simp <;> omega) _ | with_reducible refine Ext.trans ?_ (Ext.alloc _ _)))
  · rw [if_neg h]
    have hd : decide (left - (n : Int) < 0) = false := by simpa using h
    go_wp2
    go_ret
    refine ⟨rfl, ?_⟩
    (repeat (first | with_reducible exact Below.refl _ _ | assumption | with_reducible refine below_drewN ?_ _ | with_reducible refine Below.drew ?_ | with_reducible refine Below.setCell ?_ (by simp <;> omega) _ | with_reducible refine Ext.trans ?_ (Ext.alloc _ _)))
theorem blk_set6 {w : World} {b : Nat} {x0 x1 x2 x3 x4 x5 y0 y1 y2 y3 y4 y5 : Value} {T : TypeId} (h : w.heap[b]? = some (.cells #[x0, x1, x2, x3, x4, x5] T (0, 0))) : ((((((w.setCell ⟨b, 0, none⟩ y0).setCell ⟨b, 1, none⟩ y1).setCell ⟨b, 2, none⟩ y2).setCell ⟨b, 3, none⟩ y3).setCell ⟨b, 4, none⟩ y4).setCell ⟨b, 5, none⟩ y5).heap[b]? = some (.cells #[y0, y1, y2, y3, y4, y5] T (0, 0)) := by
  have h1 := heap_setCell_same w b 0 _ _ y0 h
  have h2 := heap_setCell_same _ b 1 _ _ y1 h1
  have h3 := heap_setCell_same _ b 2 _ _ y2 h2
  have h4 := heap_setCell_same _ b 3 _ _ y3 h3
  have h5 := heap_setCell_same _ b 4 _ _ y4 h4
  have h6 := heap_setCell_same _ b 5 _ _ y5 h5
  simpa using h6
theorem size_Packet : (Try.prog.info? 27).map (·.size) = some 6 := by kernel_rfl
theorem info_Packet : (Try.prog.info? 27).map (fun i => (i.zero, i.size, i.bytes)) = some (some (.agg #[.int .i64 0, .int .i64 0, .int .i64 0, .int .i64 0, .bool false, .slice none 0 0]), 6, 64) := by kernel_rfl
theorem toPacket_any (num fr row part : Int) (last : Bool) (a : Option Addr) (n c : Nat) (xs : List Int) (w : World) (hn : n < 2^45) (r : Sl w a n (xs.map (Value.int .u8))) :
    Calls Try.prog 14 #[.agg #[.int .i64 num, .int .i64 fr, .int .i64 row, .int .i64 part, .bool last, .slice a n c]] w fun e w' => ∃ a' c', e = .returned (.agg #[.int .i64 num, .int .i64 fr, .int .i64 row, .int .i64 part, .bool last, .slice a' n c']) ∧ w'.ownsRow w.heap.size 5 1 (.slice a' n c') n (xs.map (Value.int .u8)) ∧ Ext w w' := by
  go_enter Try.func14, Try.ntmps14
  have p1 := blk_alloc (blk_new (w.alloc (.cells #[.int .i64 num, .int .i64 fr, .int .i64 row, .int .i64 part, .bool last, .slice a n c] 24)) (.cells #[.int .i64 0, .int .i64 0, .int .i64 0, .int .i64 0, .bool false, .slice none 0 0] 27)) (.cells #[.int .i64 num, .int .i64 fr, .int .i64 row, .int .i64 part, .bool last, .slice none 0 0] 27)
  have p2 := blk_new ((w.alloc (.cells #[.int .i64 num, .int .i64 fr, .int .i64 row, .int .i64 part, .bool last, .slice a n c] 24)).alloc (.cells #[.int .i64 0, .int .i64 0, .int .i64 0, .int .i64 0, .bool false, .slice none 0 0] 27)) (.cells #[.int .i64 num, .int .i64 fr, .int .i64 row, .int .i64 part, .bool last, .slice none 0 0] 27)
  simp only [World.size_alloc] at p1 p2
  go_wp2_with fail
  refine (toByteS_any a c n xs _ hn (r.ext (by (repeat (first | with_reducible exact Below.refl _ _ | assumption | with_reducible refine below_drewN ?_ _ | with_reducible refine Below.drew ?_ | with_reducible refine Below.setCell ?_ (by simp <;> omega) _ | with_reducible refine Ext.trans ?_ (Ext.alloc _ _)))))).mono ?_
  rintro e w1 ⟨v, rfl, own1, e1⟩
  obtain ⟨a1, c1, rfl⟩ := owns_form own1
  have E1 : Ext w w1 := by refine Ext.trans ?_ e1; (repeat (first | with_reducible exact Below.refl _ _ | assumption | with_reducible refine below_drewN ?_ _ | with_reducible refine Below.drew ?_ | with_reducible refine Below.setCell ?_ (by simp <;> omega) _ | with_reducible refine Ext.trans ?_ (Ext.alloc _ _)))
  have q1 := e1.blk p1
  have q2 := e1.blk p2
  simp only [World.size_alloc] at own1
  clear p1 p2 e1
  obtain ⟨m0, m1, m2, m3, m4, m5, m6⟩ := bx6 q1
  obtain ⟨f0, f1, f2, f3, f4, f5⟩ := fz6 q1
  obtain ⟨n0, n1, n2, n3, n4, n5, n6⟩ := bx6 q2
  obtain ⟨g0, g1, g2, g3, g4, g5⟩ := fz6 q2
  have Q1 := Lib.hid q1
  clear q1 q2
  go_wp2
  refine bodyPost_ret (v := .agg #[.int .i64 num, .int .i64 fr, .int .i64 row, .int .i64 part, .bool last, .slice a1 n c1]) (results_cell_row rfl _ _ (w.heap.size + 1) 27 #[.int .i64 num, .int .i64 fr, .int .i64 row, .int .i64 part, .bool last, .slice a1 n c1] (0, 0) _ rfl (blk_set6 (blk_set_other Q1.out (by omega))) Try.underlying27 rfl size_Packet) rfl ⟨_, _, rfl, ?_, ?_⟩
  · refine owns_mono (base := w.heap.size + 1 + 1 + 1) ?_ (by omega)
    (repeat refine ownsRow_setCell_below ?_ (by simp <;> omega) _)
    exact own1
  · (repeat (with_reducible refine Below.setCell ?_ (by simp <;> omega) _))
    exact E1
theorem eqPacket_same (num fr row part : Int) (last : Bool) (a b : Option Addr) (c d n : Nat) (xs : List Int) (w : World) (hn : n < 2^45) (r1 : Sl w a n (xs.map (Value.int .u8))) (r2 : Sl w b n (xs.map (Value.int .u8))) :
    Calls Try.prog 17 #[.agg #[.int .i64 num, .int .i64 fr, .int .i64 row, .int .i64 part, .bool last, .slice a n c], .agg #[.int .i64 num, .int .i64 fr, .int .i64 row, .int .i64 part, .bool last, .slice b n d]] w fun e w' => e = .returned (.bool true) ∧ Ext w w' := by
  go_enter Try.func17, Try.ntmps17
  go_wp2_with fail
  refine (eqByteS_any a b c d n n xs xs _ (by omega) (by omega) (r1.ext (by (repeat (first | with_reducible exact Below.refl _ _ | assumption | with_reducible refine below_drewN ?_ _ | with_reducible refine Below.drew ?_ | with_reducible refine Below.setCell ?_ (by simp <;> omega) _ | with_reducible refine Ext.trans ?_ (Ext.alloc _ _))))) (r2.ext (by (repeat (first | with_reducible exact Below.refl _ _ | assumption | with_reducible refine below_drewN ?_ _ | with_reducible refine Below.drew ?_ | with_reducible refine Below.setCell ?_ (by simp <;> omega) _ | with_reducible refine Ext.trans ?_ (Ext.alloc _ _)))))).mono ?_
  rintro e w1 ⟨he, m, rfl⟩
  rw [decide_eq_true rfl] at he
  subst he
  go_wp2
  go_ret
  refine ⟨rfl, ?_⟩
  (repeat (first | with_reducible exact Below.refl _ _ | assumption | with_reducible refine below_drewN ?_ _ | with_reducible refine Below.drew ?_ | with_reducible refine Below.setCell ?_ (by simp <;> omega) _ | with_reducible refine Ext.trans ?_ (Ext.alloc _ _)))
theorem markPacket_any (num fr row part : Int) (last : Bool) (a : Option Addr) (n c : Nat) (xs : List Value) (k : Int) (base : Nat) (w : World) (hn : n < 2^47) (hk0 : 0 ≤ k) (hk : k < 2^60)
    (own : w.ownsRow base 5 1 (.slice a n c) n xs) :
    Calls Try.prog 18 #[.agg #[.int .i64 num, .int .i64 fr, .int .i64 row, .int .i64 part, .bool last, .slice a n c], .int .i64 k] w fun e w' => e = .returned (.int .i64 (k + n)) ∧ w'.ownsRow base 5 1 (.slice a n c) n ((marksB k n).map (Value.int .u8)) ∧ w.grownBy w' (Value.slice a n c).ownBlock := by
  go_enter Try.func18, Try.ntmps18
  go_wp2_with fail
  refine (markByteS_any _ n _ k base _ hn hk0 hk (owns_ext own (by (repeat (first | with_reducible exact Below.refl _ _ | assumption | with_reducible refine below_drewN ?_ _ | with_reducible refine Below.drew ?_ | with_reducible refine Below.setCell ?_ (by simp <;> omega) _ | with_reducible refine Ext.trans ?_ (Ext.alloc _ _)))))).mono ?_
  rintro e w1 ⟨rfl, own1, g1⟩
  go_wp2
  go_ret
  exact ⟨rfl, own1, ext_grown (Ext.alloc w _) g1⟩
theorem heldPacket_any (num fr row part : Int) (last : Bool) (a : Option Addr) (n c : Nat) (k : Int) (w : World) (hn : n < 2^47) (hk0 : 0 ≤ k) (hk : k < 2^60)
    (r : Sl w a n ((marksB k n).map (Value.int .u8))) :
    Calls Try.prog 24 #[.agg #[.int .i64 num, .int .i64 fr, .int .i64 row, .int .i64 part, .bool last, .slice a n c], .int .i64 k] w fun e w' => e = .returned (.int .i64 (k + n)) ∧ Ext w w' := by
  go_enter Try.func24, Try.ntmps24
  go_wp2_with fail
  refine (heldByteS_any a c n k _ hn hk0 hk (r.ext (by (repeat (first | with_reducible exact Below.refl _ _ | assumption | with_reducible refine below_drewN ?_ _ | with_reducible refine Below.drew ?_ | with_reducible refine Below.setCell ?_ (by simp <;> omega) _ | with_reducible refine Ext.trans ?_ (Ext.alloc _ _)))))).mono ?_
  rintro e w1 ⟨rfl, m, rfl⟩
  have hd : decide (k + (n : Int) < 0) = false := by simp; omega
  go_wp2
  go_ret
  refine ⟨rfl, ?_⟩
  (repeat (first | with_reducible exact Below.refl _ _ | assumption | with_reducible refine below_drewN ?_ _ | with_reducible refine Below.drew ?_ | with_reducible refine Below.setCell ?_ (by simp <;> omega) _ | with_reducible refine Ext.trans ?_ (Ext.alloc _ _)))
end Go.Proofs.Ytpjjadmjdafkeaa
