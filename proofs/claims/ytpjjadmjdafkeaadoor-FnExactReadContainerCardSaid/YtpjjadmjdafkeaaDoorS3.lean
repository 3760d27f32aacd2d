/- Contracts: SamplesValid, SeekKey. -/
import Derived.Test.YtpjjadmjdafkeaaDoorS2
import Derived.Test.YtpjjadmjdafkeaaDoorA2
import Derived.Deep.QuietTactic
import Derived.BigQuiet
namespace Go.Proofs.YtpjjadmjdafkeaaDoor
open Go.RowKit
set_option maxHeartbeats 400000

theorem drew_tail {w wr : World} (h : ∃ m, wr = w.drewN m) (k : Nat) : ∃ m, wr.drewN k = w.drewN m := by
  obtain ⟨m, rfl⟩ := h
  exact ⟨m + k, World.drewN_drewN _ _ _⟩
theorem quiet_pure {P : Program} {f : FuncId} {args : Array Value} {w : World} {n : Nat} {v : Value}
    (h : Calls P f args (w.drewN n) fun e w' => e = .returned v ∧ w.drewN n = w') : Calls P f args (w.drewN n) fun e w'' => e = .returned v ∧ ∃ m, w'' = w.drewN m :=
  h.mono fun _ _ ⟨he, hm⟩ => ⟨he, n, hm.symm⟩

/-- The k-th entry is valid behind those before it. -/
def sok (L : List Smp) (k : Nat) : Prop := 0 ≤ (sget L k).1 ∧ (sget L k).1 ≤ 65535 ∧ (sget L k).2.2.length ≤ 5000 ∧ (0 < k → (sget L (k - 1)).1 < (sget L k).1)
instance (L : List Smp) (k : Nat) : Decidable (sok L k) := by unfold sok; infer_instance
/-- All entries are valid. -/
def svalid (L : List Smp) : Bool := decide (L.length ≤ 100) && (List.range L.length).all (fun k => decide (sok L k))
theorem svalid_no {L : List Smp} {k : Nat} (hk : k < L.length) (h : ¬ sok L k) : svalid L = false := by
  simp only [svalid, Bool.and_eq_false_iff, List.all_eq_false]
  exact .inr ⟨k, by simp [hk], by simp [h]⟩
theorem svalid_big {L : List Smp} (hk : 100 < L.length) : svalid L = false := by
  simp only [svalid, Bool.and_eq_false_iff]
  exact .inl (by simp; omega)
theorem svalid_yes {L : List Smp} (h0 : L.length ≤ 100) (h : ∀ j, j < L.length → sok L j) : svalid L = true := by
  simp only [svalid, Bool.and_eq_true, List.all_eq_true]
  exact ⟨by simpa using h0, fun x hx => by simpa using h x (by simpa using hx)⟩
theorem svalid_iff {L : List Smp} : svalid L = true ↔ L.length ≤ 100 ∧ ∀ j, j < L.length → sok L j := by
  constructor
  · intro h
    simp only [svalid, Bool.and_eq_true, List.all_eq_true, decide_eq_true_eq, List.mem_range] at h
    exact h
  · rintro ⟨h0, h⟩; exact svalid_yes h0 h

theorem impl_SamplesValid_any (a : Option Addr) (c n : Nat) (L : List Smp) (w : World) (hn : n ≤ 9223372036854775807) (r : SP w a n L) :
    Calls Tryd.prog 21 #[.slice a n c] w fun e w' => e = .returned (.bool (svalid L)) ∧ Ext w w' := by
  by_cases hbig : 100 < n
  · rw [svalid_big (by rw [r.1]; exact hbig)]
    go_enter Tryd.func21, Tryd.ntmps21
    go_wp2
    go_ret
    exact ⟨rfl, Below.refl _ _⟩
  · go_enter Tryd.func21, Tryd.ntmps21
    have Hs := Lib.hid hbig
    go_wp2_with fail
    go_loopw [10] (fun i wr => ∃ (k : Nat), k ≤ n ∧ i = .int .i64 k ∧ Ext w wr ∧ ∀ j, j < k → sok L j) (fun i _ => n - (intOf i).toNat)
    case atStart => exact ⟨0, by omega, rfl, Below.refl _ _, fun j hj => by omega⟩
    case round =>
      obtain ⟨k, hk, rfl, E2, hall⟩ := hrel
      have Hall := Lib.hid hall
      clear hall
      by_cases hlt : k < n
      · have hkl : k < L.length := by rw [r.1]; exact hlt
        obtain ⟨b1, o1, rfl, g1⟩ := (r.ext E2).2 k hlt
        have hprev : ∀ (_ : 0 < k), wr.cell? ⟨b1, o1 + (k - 1) * 3, none⟩ = some (.int .i64 (sget L (k - 1)).1) := by
          intro h
          obtain ⟨b2, o2, h2, g2⟩ := (r.ext E2).2 (k - 1) (by omega)
          obtain ⟨a3, n3, c3, j1, -⟩ := g2
          simp only [Option.some.injEq, Addr.mk.injEq, and_true] at h2
          obtain ⟨rfl, rfl⟩ := h2
          exact j1
        obtain ⟨a2, n2, c2, h1, h2, h3, h4, h5, h6, -⟩ := g1
        have hm2 : n2 ≤ 9223372036854775807 := Nat.le_trans h5 h6
        have h4' := Lib.hid h4.int_len
        clear h4 h5 h6
        have p1 := blk_new wr (.cells #[.int .i64 (sget L k).1, .bool (sget L k).2.1, .slice a2 n2 c2] 40)
        obtain ⟨z0, z1, z2, z3, z4, z5, z6⟩ := bx3 p1
        have E3 : Ext w (wr.alloc (.cells #[.int .i64 (sget L k).1, .bool (sget L k).2.1, .slice a2 n2 c2] 40)) := E2.trans (Ext.alloc _ _)
        have hprev' : 0 < k → (wr.alloc (.cells #[.int .i64 (sget L k).1, .bool (sget L k).2.1, .slice a2 n2 c2] 40)).cell? ⟨b1, o1 + (k - 1) * 3, none⟩ = some (.int .i64 (sget L (k - 1)).1) := fun h => cell_ext (Ext.alloc _ _) (hprev h)
        clear hprev
        by_cases q1 : (sget L k).1 < 0
        · have hno := Lib.hid (svalid_no hkl (fun h => by have := h.1; omega))
          go_wp2_with fail
          go_quiet (fail)
          go_wp2
          go_ret
          exact ⟨by rw [hno.out]; rfl, below_drewN E3 _⟩
        have hd1 : decide ((sget L k).1 < 0) = false := by simpa using q1
        by_cases q2 : 65535 < (sget L k).1
        · have hno := Lib.hid (svalid_no hkl (fun h => by have := h.2.1; omega))
          go_wp2_with fail
          go_quiet (fail)
          go_wp2
          go_ret
          exact ⟨by rw [hno.out]; rfl, below_drewN E3 _⟩
        have hd2 : decide (65535 < (sget L k).1) = false := by simpa using q2
        by_cases q3 : (5000 : Int) < (n2 : Int)
        · have hno := Lib.hid (svalid_no hkl (fun h => by have := h.2.2.1; have := h4'.out; omega))
          go_wp2_with fail
          go_quiet (fail)
          go_wp2
          go_ret
          exact ⟨by rw [hno.out]; rfl, below_drewN E3 _⟩
        have hd3 : decide ((5000 : Int) < (n2 : Int)) = false := by simpa using q3
        by_cases q4 : 0 < k
        · have hc := hprev' (by omega)
          clear hprev'
          by_cases q5 : (sget L k).1 ≤ (sget L (k - 1)).1
          · have hno := Lib.hid (svalid_no hkl (fun h => by have := h.2.2.2 (by omega); omega))
            have u2 : (0 : Int) ≤ (k : Int) - 1 := by omega
            have u3 : ((k : Int) - 1).toNat = k - 1 := by omega
            have u4 : (k : Int) - 1 < (n : Int) := by omega
            have u1 : IntKind.i64.wrap ((k : Int) - 1) = (k : Int) - 1 := IntWalk.i64_in _ (by omega)
            go_wp2_with fail
            go_quiet (fail)
            clear u1
            go_wp2
            go_ret
            exact ⟨by rw [hno.out]; rfl, below_drewN E3 _⟩
          · have hd5 : decide ((sget L k).1 ≤ (sget L (k - 1)).1) = false := by simpa using q5
            have hsk := Lib.hid (show sok L k from ⟨by omega, by omega, by have := h4'.out; omega, fun _ => by omega⟩)
            have u2 : (0 : Int) ≤ (k : Int) - 1 := by omega
            have u3 : ((k : Int) - 1).toNat = k - 1 := by omega
            have u4 : (k : Int) - 1 < (n : Int) := by omega
            have u1 : IntKind.i64.wrap ((k : Int) - 1) = (k : Int) - 1 := IntWalk.i64_in _ (by omega)
            go_wp2_with fail
            go_quiet (fail)
            clear u1
            go_wp2
            go_roundw
            case rel => exact ⟨k + 1, by omega, by go_num, below_drewN E3 _, fun j hj => by
              by_cases hjk : j = k
              · subst hjk; exact hsk.out
              · exact Hall.out j (by omega)⟩
            case measure => simp [intOf]; omega
        · have hd4 : decide (0 < k) = false := by simpa using q4
          have hsk := Lib.hid (show sok L k from ⟨by omega, by omega, by have := h4'.out; omega, fun _ => by omega⟩)
          go_wp2_with fail
          go_quiet (fail)
          go_wp2
          go_roundw
          case rel => exact ⟨k + 1, by omega, by go_num, below_drewN E3 _, fun j hj => by
              by_cases hjk : j = k
              · subst hjk; exact hsk.out
              · exact Hall.out j (by omega)⟩
          case measure => simp [intOf]; omega
      · obtain rfl : k = n := by omega
        have hy := Lib.hid (svalid_yes (L := L) (by rw [r.1]; have := Hs.out; omega) (fun j hj => Hall.out j (by rw [r.1] at hj; exact hj)))
        go_wp2
        go_ret
        exact ⟨by rw [hy.out]; rfl, E2⟩

theorem spec_SamplesValid_any (a : Option Addr) (c n : Nat) (L : List Smp) (w : World) (hn : n ≤ 9223372036854775807) (r : SP w a n L) :
    Calls Tryd.prog 9 #[.slice a n c] w fun e w' => e = .returned (.bool (svalid L)) ∧ ∃ m, w' = w.drewN m := by
  go_enter Tryd.func9, Tryd.ntmps9
  go_wp2_with fail
  go_loopw [3] (fun i wr => ∃ (k : Nat), k ≤ n ∧ i = .int .i64 k ∧ (∃ m, wr = w.drewN m) ∧ ∀ j, j < k → sok L j) (fun i _ => n - (intOf i).toNat)
  case atStart => exact ⟨0, by omega, rfl, ⟨0, rfl⟩, fun j hj => by omega⟩
  case round =>
    obtain ⟨k, hk, rfl, dr, hall⟩ := hrel
    have Dr := Lib.hid dr
    have E2 : Ext w wr := by obtain ⟨m, rfl⟩ := dr; exact Ext.drewN _ _
    clear dr
    have Hall := Lib.hid hall
    clear hall
    by_cases hlt : k < n
    · have hkl : k < L.length := by rw [r.1]; exact hlt
      obtain ⟨b1, o1, rfl, g1⟩ := (r.ext E2).2 k hlt
      have hprev : ∀ (_ : 0 < k), wr.cell? ⟨b1, o1 + (k - 1) * 3, none⟩ = some (.int .i64 (sget L (k - 1)).1) := by
        intro h
        obtain ⟨b2, o2, h2, g2⟩ := (r.ext E2).2 (k - 1) (by omega)
        obtain ⟨a3, n3, c3, j1, -⟩ := g2
        simp only [Option.some.injEq, Addr.mk.injEq, and_true] at h2
        obtain ⟨rfl, rfl⟩ := h2
        exact j1
      obtain ⟨a2, n2, c2, h1, h2, h3, h4, h5, h6, -⟩ := g1
      have hm2 : n2 ≤ 9223372036854775807 := Nat.le_trans h5 h6
      have h4' := Lib.hid h4.int_len
      clear h4 h5 h6 h2
      by_cases q1 : (sget L k).1 < 0 ∨ 65535 < (sget L k).1
      · have hno := Lib.hid (svalid_no hkl (fun h => by have h1 := h.1; have h2 := h.2.1; omega))
        have Q := Lib.hid q1
        clear q1 hprev
        go_wp2_with fail
        go_quiet ((go_at_call 26; exact quiet_pure (l1In_no _ _ _ _ Q.out)))
        go_wp2
        go_ret
        exact ⟨by rw [hno.out]; rfl, drew_tail Dr.out _⟩
      have q1a : 0 ≤ (sget L k).1 := by omega
      have q1b : (sget L k).1 ≤ 65535 := by omega
      clear q1
      by_cases q4 : 0 < k
      · have hc := hprev (by omega)
        clear hprev
        by_cases q5 : (sget L k).1 ≤ (sget L (k - 1)).1
        · have hno := Lib.hid (svalid_no hkl (fun h => by have := h.2.2.2 (by omega); omega))
          have u2 : (0 : Int) ≤ (k : Int) - 1 := by omega
          have u3 : ((k : Int) - 1).toNat = k - 1 := by omega
          have u4 : (k : Int) - 1 < (n : Int) := by omega
          have u1 : IntKind.i64.wrap ((k : Int) - 1) = (k : Int) - 1 := IntWalk.i64_in _ (by omega)
          go_wp2_with fail
          go_quiet ((go_at_call 26; exact quiet_pure (l1In_yes _ _ _ _ q1a q1b)))
          clear u1
          go_wp2
          go_ret
          exact ⟨by rw [hno.out]; rfl, drew_tail Dr.out _⟩
        · have hd5 : decide ((sget L k).1 ≤ (sget L (k - 1)).1) = false := by simpa using q5
          by_cases q3 : (5000 : Int) < (n2 : Int)
          · have hno := Lib.hid (svalid_no hkl (fun h => by have := h.2.2.1; have := h4'.out; omega))
            have u2 : (0 : Int) ≤ (k : Int) - 1 := by omega
            have u3 : ((k : Int) - 1).toNat = k - 1 := by omega
            have u4 : (k : Int) - 1 < (n : Int) := by omega
            have u1 : IntKind.i64.wrap ((k : Int) - 1) = (k : Int) - 1 := IntWalk.i64_in _ (by omega)
            go_wp2_with fail
            go_quiet ((go_at_call 26; exact quiet_pure (l1In_yes _ _ _ _ q1a q1b)))
            clear u1
            go_wp2
            go_ret
            exact ⟨by rw [hno.out]; rfl, drew_tail Dr.out _⟩
          · have hd3 : decide ((5000 : Int) < (n2 : Int)) = false := by simpa using q3
            have hsk := Lib.hid (show sok L k from ⟨by omega, by omega, by have := h4'.out; omega, fun _ => by omega⟩)
            have u2 : (0 : Int) ≤ (k : Int) - 1 := by omega
            have u3 : ((k : Int) - 1).toNat = k - 1 := by omega
            have u4 : (k : Int) - 1 < (n : Int) := by omega
            have u1 : IntKind.i64.wrap ((k : Int) - 1) = (k : Int) - 1 := IntWalk.i64_in _ (by omega)
            go_wp2_with fail
            go_quiet ((go_at_call 26; exact quiet_pure (l1In_yes _ _ _ _ q1a q1b)))
            clear u1
            go_wp2
            go_roundw
            case rel => exact ⟨k + 1, by omega, by go_num, drew_tail Dr.out _, fun j hj => by
                by_cases hjk : j = k
                · subst hjk; exact hsk.out
                · exact Hall.out j (by omega)⟩
            case measure => simp [intOf]; omega
      · have hd4 : decide (0 < k) = false := by simpa using q4
        clear hprev
        by_cases q3 : (5000 : Int) < (n2 : Int)
        · have hno := Lib.hid (svalid_no hkl (fun h => by have := h.2.2.1; have := h4'.out; omega))
          go_wp2_with fail
          go_quiet ((go_at_call 26; exact quiet_pure (l1In_yes _ _ _ _ q1a q1b)))
          go_wp2
          go_ret
          exact ⟨by rw [hno.out]; rfl, drew_tail Dr.out _⟩
        · have hd3 : decide ((5000 : Int) < (n2 : Int)) = false := by simpa using q3
          have hsk := Lib.hid (show sok L k from ⟨by omega, by omega, by have := h4'.out; omega, fun _ => by omega⟩)
          go_wp2_with fail
          go_quiet ((go_at_call 26; exact quiet_pure (l1In_yes _ _ _ _ q1a q1b)))
          go_wp2
          go_roundw
          case rel => exact ⟨k + 1, by omega, by go_num, drew_tail Dr.out _, fun j hj => by
                by_cases hjk : j = k
                · subst hjk; exact hsk.out
                · exact Hall.out j (by omega)⟩
          case measure => simp [intOf]; omega
    · obtain rfl : k = n := by omega
      by_cases hbig : (k : Int) ≤ 100
      · have hy := Lib.hid (svalid_yes (L := L) (by rw [r.1]; omega) (fun j hj => Hall.out j (by rw [r.1] at hj; exact hj)))
        go_wp2
        go_ret
        exact ⟨by rw [hy.out]; rfl, Dr.out⟩
      · have hno := Lib.hid (svalid_big (L := L) (by rw [r.1]; omega))
        have hd : decide ((k : Int) ≤ 100) = false := by simpa using hbig
        go_wp2
        go_ret
        exact ⟨by rw [hno.out]; rfl, Dr.out⟩

end Go.Proofs.YtpjjadmjdafkeaaDoor
