/- The program's edges: a range over a function. -/
import Derived.Test.YtlmoeabchiddnaaDoorDbp
import Derived.Test.YtlmoeabchiddnaaDoorRgm
import Derived.Deep.Cut
namespace Go.Proofs.YtlmoeabchiddnaaDoor
open Go.RowKit
set_option maxHeartbeats 1000000
attribute [local go_sem] Oper.semAt_some
theorem rowE_len (W y k : Nat) : (rowE W y k).length = k := by simp [rowE]
theorem colE_len (W x k : Nat) : (colE W x k).length = k := by simp [colE]
theorem rowsE_len (W n y : Nat) : (rowsE W n y).length = y * n := by
  induction y with
  | zero => simp [rowsE]
  | succ y ih => simp [rowsE, rowE_len, ih, Nat.succ_mul]
theorem colsE_len (W n x : Nat) : (colsE W n x).length = x * n := by
  induction x with
  | zero => simp [colsE]
  | succ x ih => simp [colsE, colE_len, ih, Nat.succ_mul]
/-- An edge inside N samples, as the loop's two numbers. -/
abbrev Edg (N : Nat) := { e : Nat × Nat // edgeOk N e }
def encE {N : Nat} (x : Edg N) : Array Value := #[.int .i64 (x.1.1 : Nat), .int .i64 (x.1.2 : Nat)]
theorem blockEdges_any (cs : Array Value) (x y z : Value) (hcs : cs = #[x, y, z]) (w : World) :
    Calls Tryd.prog 71 #[.agg cs] w fun e w' => e = .returned (.func (.func 107) #[] #[.pointer (some ⟨w.heap.size, 0, none⟩)]) ∧ w' = w.alloc (.cells #[x, y, z] 46) := by
  subst hcs
  go_enter Tryd.func71, Tryd.ntmps71
  go_wp2
  go_ret
  exact ⟨rfl, rfl⟩
set_option maxRecDepth 100000 in
set_option maxHeartbeats 2000000 in
theorem edges_stops (n : Nat) (hn : 1 ≤ n) (Bs W H N : Nat) (z : Value) (hw : 8 ≤ W ∧ W ≤ 32 ∧ W % 4 = 0) (hh : 8 ≤ H ∧ H ≤ 32 ∧ H % 4 = 0) (hN : N = W * H) (w : World) (hI : w.heap[Bs]? = some (.cells #[.int .i64 W, .int .i64 H, z] 46 (0, 0))) :
    SeqStopsK Fence.wide n Tryd.prog 107 #[.pointer (some ⟨Bs, 0, none⟩)] (encE (N := N)) (keepB Bs) (fun xs => xs.map (·.1) = edgesL W H) (fun _ => True) 1000 w := by
  intro l J Jx V hW hJ hJx hY h0
  have hB0 := Ext.blk hW hI
  refine callsIn_wide.2 ?_
  have HY := Lib.hid hY
  obtain ⟨w1, w2, hw4⟩ := hw
  obtain ⟨h1, h2, hh4⟩ := hh
  obtain ⟨nW, hnW⟩ : ∃ nW, nW = W / 4 - 1 := ⟨_, rfl⟩
  obtain ⟨nH, hnH⟩ : ∃ nH, nH = H / 4 - 1 := ⟨_, rfl⟩
  have hW4 : W = 4 * (nW + 1) := by omega
  have hH4 : H = 4 * (nH + 1) := by omega
  have HnW := Lib.hid hnW
  have HnH := Lib.hid hnH
  have HW4 := Lib.hid hW4
  have HH4 := Lib.hid hH4
  have HN := Lib.hid hN
  have hWn : nW < 8 := by omega
  have hHn : nH < 8 := by omega
  have hNb : N ≤ 1024 := by
    have := Nat.mul_le_mul w2 h2
    omega
  have Hw4 := Lib.hid hw4
  have Hh4 := Lib.hid hh4
  clear hY hI hJx hW hJ hnW hnH hW4 hH4 hN hw4 hh4
  go_enter Tryd.func107, Tryd.ntmps107
  obtain ⟨-, b0, b1, b2, -⟩ := bx3 hB0
  go_wp2_with fail
  -- LOOPS
  go_loopw [9] (fun y wr => ∃ (u : Nat) (pre : List (Edg N)), u ≤ H ∧ y = .int .i64 u ∧ Hid (pre.map (·.1) = rowsE W nW u) ∧ J pre wr ∧ wr.heap[Bs]? = some (.cells #[.int .i64 W, .int .i64 H, z] 46 (0, 0))) (fun y _ => H - (intOf y).toNat)
  case atStart => exact ⟨0, [], by omega, rfl, Lib.hid rfl, h0, hB0⟩
  case round =>
    obtain ⟨u, pre, hu, rfl, HP, Ju, Bu⟩ := hrel
    clear h0 hB0 b0 b1 b2
    obtain ⟨-, b0, b1, b2, -⟩ := bx3 Bu
    by_cases hlt : u < H
    · have hdu : decide (u < H) = true := by simpa using hlt
      go_wp2_with fail
      go_loopw [4] (fun x wr2 => ∃ (j : Nat) (pre : List (Edg N)), j ≤ nW ∧ x = .int .i64 (4 * (j + 1) : Nat) ∧ Hid (pre.map (·.1) = rowsE W nW u ++ rowE W u j) ∧ J pre wr2 ∧ wr2.heap[Bs]? = some (.cells #[.int .i64 W, .int .i64 H, z] 46 (0, 0))) (fun x _ => W - (intOf x).toNat)
      case atStart => exact ⟨0, pre, by omega, rfl, Lib.hid (by rw [HP.out]; simp [rowE]), Ju, Bu⟩
      case round =>
        obtain ⟨j, pre2, hj, rfl, HP2, Jj, Bj⟩ := hrel
        clear HP Ju Bu b0 b1 b2 pre
        obtain ⟨-, b0, b1, b2, -⟩ := bx3 Bj
        by_cases hlj : j < nW
        · have hX4 := HW4.out
          have hdj : decide (4 * (j + 1) < W) = true := by simp; omega
          have he := row_ok (W := W) (H := H) (y := u) (k := j) hlt (by omega) Hw4.out
          rw [← HN.out] at he
          have hsuc := rowE_succ W u j
          have hp0 := he.2.2
          simp only at hp0
          have hat : (u : Int) * (W : Int) + ((4 * (j + 1) : Nat) : Int) = ((u * W + 4 * (j + 1) : Nat) : Int) := by rw [Int.natCast_add, Int.natCast_mul u W]
          have hp1 : 0 ≤ (u : Int) * (W : Int) ∧ (u : Int) * (W : Int) ≤ 1024 := by
            have : (u : Int) * (W : Int) = ((u * W : Nat) : Int) := by rw [Int.natCast_mul]
            omega
          obtain ⟨at', hAt⟩ : ∃ x, x = u * W + 4 * (j + 1) := ⟨_, rfl⟩
          rw [← hAt] at he hsuc hat hp0
          obtain ⟨X, hX⟩ : ∃ X, X = 4 * (j + 1) := ⟨_, rfl⟩
          rw [← hX] at hdj hat ⊢
          have hXW : X < W := by omega
          have hp2 : (u : Int) * (W : Int) + (X : Int) ≤ 2000 := by omega
          have HX := Lib.hid hX
          have HAt := Lib.hid hat
          have hlen := congrArg List.length HP2.out
          rw [List.length_map, List.length_append, rowsE_len, rowE_len] at hlen
          have hlb : pre2.length < 1000 := by
            have h8 := Nat.mul_le_mul (show u ≤ 31 by omega) (show nW ≤ 7 by omega)
            have h9 := Nat.mul_le_mul h2 (show nW ≤ 7 by omega)
            omega
          obtain ⟨fn, tmps, assign, body, hy, hR⟩ := HY.out pre2 ⟨(at', 1), he⟩ wr Jj hlb
          dsimp only [encE] at hy
          rw [← HAt.out] at hy
          rw [show ((1 : Nat) : Int) = 1 from rfl] at hy
          have HP3 := Lib.hid (show (pre2 ++ [(⟨(at', 1), he⟩ : Edg N)]).map (·.1) = rowsE W nW u ++ rowE W u (j + 1) by rw [List.map_append, HP2.out, hsuc]; simp)
          clear hX4 hat hsuc hAt hX hlen hlb HP2 Jj
          go_upto_region 6 with fail
          refine (wpIn_wide (n := n)).1 ?_
          gi_wp2
          refine hR.mono ?_
          rintro e W3 (⟨rfl, hJ3, hk3⟩ | ⟨rfl, hJx3⟩)
          · have B3 := hk3.trans Bj
            obtain ⟨-, d0, d1, d2, -⟩ := bx3 B3
            gi_wp2
            go_wp2
            go_roundw
            case rel => exact ⟨j + 1, _, by omega, by rw [HX.out]; go_num, HP3, hJ3, B3⟩
            case measure => have := HX.out; simp [intOf]; omega
          · gi_wp2
            go_wp2
            refine bodyPost_ret (results_none rfl _ _ _) rfl ?_
            exact ⟨⟨_, rfl⟩, .inr ⟨_, trivial, hJx3⟩⟩
        · obtain rfl : nW = j := by omega
          have hX4 := HW4.out
          have hdj : decide (4 * (nW + 1) < W) = false := by simp; omega
          obtain ⟨X, hX⟩ : ∃ X, X = 4 * (nW + 1) := ⟨_, rfl⟩
          rw [← hX] at hdj ⊢
          clear hX hX4
          go_wp2
          go_roundw
          case rel => exact ⟨u + 1, pre2, by omega, by go_num, HP2, Jj, Bj⟩
          case measure => simp [intOf]; omega
    · obtain rfl : H = u := by omega
      have hdu : decide (H < H) = false := by simp
      go_wp2_with fail
      have J0 := Ju
      have B0 := Bu
      have HP0 := HP
      obtain ⟨pre0, hpre⟩ : ∃ p, p = pre := ⟨_, rfl⟩
      rw [← hpre] at J0 HP0
      clear Ju Bu HP hpre pre
      go_loopw [30] (fun y wr => ∃ (u : Nat) (pre : List (Edg N)), u ≤ W ∧ y = .int .i64 u ∧ Hid (pre.map (·.1) = rowsE W nW H ++ colsE W nH u) ∧ J pre wr ∧ wr.heap[Bs]? = some (.cells #[.int .i64 W, .int .i64 H, z] 46 (0, 0))) (fun y _ => W - (intOf y).toNat)
      case atStart => exact ⟨0, pre0, by omega, rfl, Lib.hid (by rw [HP0.out]; simp [colsE]), J0, B0⟩
      case round =>
        obtain ⟨u, pre, hu, rfl, HP, Ju, Bu⟩ := hrel
        clear J0 B0 HP0 b0 b1 b2
        obtain ⟨-, b0, b1, b2, -⟩ := bx3 Bu
        by_cases hlt : u < W
        · have hdu : decide (u < W) = true := by simpa using hlt
          go_wp2_with fail
          go_loopw [6] (fun x wr2 => ∃ (j : Nat) (pre : List (Edg N)), j ≤ nH ∧ x = .int .i64 (4 * (j + 1) : Nat) ∧ Hid (pre.map (·.1) = (rowsE W nW H ++ colsE W nH u) ++ colE W u j) ∧ J pre wr2 ∧ wr2.heap[Bs]? = some (.cells #[.int .i64 W, .int .i64 H, z] 46 (0, 0))) (fun x _ => H - (intOf x).toNat)
          case atStart => exact ⟨0, pre, by omega, rfl, Lib.hid (by rw [HP.out]; simp [colE]), Ju, Bu⟩
          case round =>
            obtain ⟨j, pre2, hj, rfl, HP2, Jj, Bj⟩ := hrel
            clear HP Ju Bu b0 b1 b2 pre
            obtain ⟨-, b0, b1, b2, -⟩ := bx3 Bj
            by_cases hlj : j < nH
            · have hX4 := HH4.out
              have hdj : decide (4 * (j + 1) < H) = true := by simp; omega
              have he := col_ok (W := W) (H := H) (x := u) (k := j) hlt (by omega) Hh4.out
              rw [← HN.out] at he
              have hsuc := colE_succ W u j
              have hp0 := he.2.2
              simp only at hp0
              have hat : ((4 * (j + 1) : Nat) : Int) * (W : Int) + (u : Int) = ((4 * (j + 1) * W + u : Nat) : Int) := by rw [Int.natCast_add, Int.natCast_mul (4 * (j + 1)) W]
              have hp1 : 0 ≤ ((4 * (j + 1) : Nat) : Int) * (W : Int) ∧ ((4 * (j + 1) : Nat) : Int) * (W : Int) ≤ 1024 := by
                have : ((4 * (j + 1) : Nat) : Int) * (W : Int) = ((4 * (j + 1) * W : Nat) : Int) := by rw [Int.natCast_mul (4 * (j + 1)) W]
                omega
              obtain ⟨at', hAt⟩ : ∃ x, x = 4 * (j + 1) * W + u := ⟨_, rfl⟩
              rw [← hAt] at he hsuc hat hp0
              obtain ⟨X, hX⟩ : ∃ X, X = 4 * (j + 1) := ⟨_, rfl⟩
              rw [← hX] at hdj hat hp1 ⊢
              have hXW : X < H := by omega
              have hp2 : (X : Int) * (W : Int) + (u : Int) ≤ 2000 := by omega
              have HX := Lib.hid hX
              have HAt := Lib.hid hat
              have hlen := congrArg List.length HP2.out
              rw [List.length_map, List.length_append, List.length_append, rowsE_len, colsE_len, colE_len] at hlen
              have hlb : pre2.length < 1000 := by
                have h8 := Nat.mul_le_mul (show u ≤ 31 by omega) (show nH ≤ 7 by omega)
                have h9 := Nat.mul_le_mul h2 (show nW ≤ 7 by omega)
                omega
              obtain ⟨fn, tmps, assign, body, hy, hR⟩ := HY.out pre2 ⟨(at', W), he⟩ wr Jj hlb
              dsimp only [encE] at hy
              rw [← HAt.out] at hy
              skip
              have HP3 := Lib.hid (show (pre2 ++ [(⟨(at', W), he⟩ : Edg N)]).map (·.1) = (rowsE W nW H ++ colsE W nH u) ++ colE W u (j + 1) by rw [List.map_append, HP2.out, hsuc]; simp)
              clear hX4 hat hsuc hAt hX hlen hlb HP2 Jj
              go_upto_region 14 with fail
              refine (wpIn_wide (n := n)).1 ?_
              gi_wp2
              refine hR.mono ?_
              rintro e W3 (⟨rfl, hJ3, hk3⟩ | ⟨rfl, hJx3⟩)
              · have B3 := hk3.trans Bj
                obtain ⟨-, d0, d1, d2, -⟩ := bx3 B3
                gi_wp2
                go_wp2
                go_roundw
                case rel => exact ⟨j + 1, _, by omega, by rw [HX.out]; go_num, HP3, hJ3, B3⟩
                case measure => have := HX.out; simp [intOf]; omega
              · gi_wp2
                go_wp2
                refine bodyPost_ret (results_none rfl _ _ _) rfl ?_
                exact ⟨⟨_, rfl⟩, .inr ⟨_, trivial, hJx3⟩⟩
            · obtain rfl : nH = j := by omega
              have hX4 := HH4.out
              have hdj : decide (4 * (nH + 1) < H) = false := by simp; omega
              obtain ⟨X, hX⟩ : ∃ X, X = 4 * (nH + 1) := ⟨_, rfl⟩
              rw [← hX] at hdj ⊢
              clear hX hX4
              go_wp2
              go_roundw
              case rel => exact ⟨u + 1, pre2, by omega, by go_num, Lib.hid (by rw [HP2.out, List.append_assoc]; rfl), Jj, Bj⟩
              case measure => simp [intOf]; omega
        · obtain rfl : W = u := by omega
          have hdu : decide (W < W) = false := by simp
          have HF := Lib.hid (show pre.map (·.1) = edgesL W H by rw [HP.out, HnW.out, HnH.out]; rfl)
          go_wp2
          go_end0
          exact ⟨⟨_, rfl⟩, .inl ⟨pre, HF.out, Ju⟩⟩
  -- ENDLOOPS
end Go.Proofs.YtlmoeabchiddnaaDoor
