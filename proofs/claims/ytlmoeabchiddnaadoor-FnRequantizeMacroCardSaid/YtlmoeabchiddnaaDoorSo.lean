/- The program's scan order. -/
import Derived.Test.YtlmoeabchiddnaaDoorIe
import Derived.Test.YtlmoeabchiddnaaDoorBits
namespace Go.Proofs.YtlmoeabchiddnaaDoor
open Go.RowKit
set_option maxHeartbeats 1000000
/-- The row of the j-th number of diagonal d. -/
def scRow (d j : Nat) : Nat := if d % 2 = 0 then d - j else j
def scStep (d j : Nat) (s : Nat × List Int) : Nat × List Int := if scRow d j < 4 ∧ d - scRow d j < 4 then (s.1 + 1, s.2.set s.1 (4 * (scRow d j : Int) + ((d - scRow d j : Nat) : Int))) else (s.1, s.2)
def scIn (d : Nat) (s : Nat × List Int) : Nat → Nat × List Int
  | 0 => s
  | j + 1 => scStep d j (scIn d s j)
def scOut : Nat → Nat × List Int
  | 0 => (0, zl 16)
  | d + 1 => scIn d (scOut d) (d + 1)
/-- The order. -/
def scanL : List Int := [0, 1, 4, 8, 5, 2, 3, 6, 9, 12, 13, 10, 7, 11, 14, 15]
theorem scOut_all : scOut 7 = (16, scanL) := by decide
theorem sc_len : ∀ d, d < 7 → ∀ j, j ≤ d + 1 → (scIn d (scOut d) j).2.length = 16 ∧ (scIn d (scOut d) j).1 ≤ 16 ∧ (j < d + 1 → scRow d j < 4 ∧ d - scRow d j < 4 → (scIn d (scOut d) j).1 < 16) := by decide
theorem zero_A16s : (Tryd.prog.info? 25).map (·.zero) = some (some (.agg (ic (zl 16)))) := by kernel_rfl
theorem size_A16s : (Tryd.prog.info? 25).map (·.size) = some 16 := by kernel_rfl
set_option maxRecDepth 100000 in
theorem scanOrder_any (w : World) :
    Calls Tryd.prog 117 #[] w fun e w' => e = .returned (.agg (ic scanL)) ∧ Ext w w' := by
  go_enter Tryd.func117, Tryd.ntmps117
  have r0 := (IB.new w 25 (zl 16)).alloc (.cells (ic (zl 16)) 25)
  have p0 := IB.new (w.alloc (.cells (ic (zl 16)) 25)) 25 (zl 16)
  have E0 := (Ext.alloc w (.cells (ic (zl 16)) 25)).trans (Ext.alloc _ (.cells (ic (zl 16)) 25))
  simp only [World.size_alloc] at p0
  go_wp2_with (refine wpList_iallocz 25 rfl rfl 16 zero_A16s ?_; (try simp only [World.size_alloc]))
  go_loopw [2, 7] (fun n i wr => ∃ d : Nat, d ≤ 7 ∧ i = .int .i64 d ∧ n = .int .i64 ((scOut d).1 : Nat) ∧ Ext w wr ∧ IB wr w.heap.size 25 (zl 16) ∧ IB wr (w.heap.size + 1) 25 (scOut d).2) (fun _ i _ => 7 - (intOf i).toNat)
  case atStart => exact ⟨0, by omega, rfl, rfl, E0, r0, p0⟩
  case round =>
    obtain ⟨d, hd, rfl, rfl, E1, r1, p1⟩ := hrel
    clear E0 r0 p0
    by_cases hlt : d < 7
    · have hd7 : decide ((d : Int) < 7) = true := by simp; omega
      go_wp2_with fail
      go_loopw [2, 12] (fun n i wr => ∃ j : Nat, j ≤ d + 1 ∧ i = .int .i64 j ∧ n = .int .i64 ((scIn d (scOut d) j).1 : Nat) ∧ Ext w wr ∧ IB wr w.heap.size 25 (zl 16) ∧ IB wr (w.heap.size + 1) 25 (scIn d (scOut d) j).2) (fun _ i _ => d + 1 - (intOf i).toNat)
      case atStart => exact ⟨0, by omega, rfl, rfl, E1, r1, p1⟩
      case round =>
        obtain ⟨j, hj, rfl, rfl, E2, r2, p2⟩ := hrel
        clear E1 r1 p1
        by_cases hlt2 : j < d + 1
        · have hdj : decide ((j : Int) < (d : Int) + 1) = true := by simp; omega
          obtain ⟨l1, l2, l3⟩ := sc_len d hlt j hj
          have hst : scIn d (scOut d) (j + 1) = scStep d j (scIn d (scOut d) j) := rfl
          unfold scStep at hst
          obtain ⟨n, hn⟩ : ∃ n, n = (scIn d (scOut d) j).1 := ⟨_, rfl⟩
          obtain ⟨zs, hzs⟩ : ∃ zs, zs = (scIn d (scOut d) j).2 := ⟨_, rfl⟩
          rw [← hn, ← hzs] at hst
          rw [← hn] at l2 l3 ⊢
          rw [← hzs] at l1 p2
          have Hst := Lib.hid hst
          have L1 := Lib.hid l1
          have L3 := Lib.hid (l3 hlt2)
          clear hst hn hzs l1 l3
          obtain ⟨rw', hrw⟩ : ∃ r, r = scRow d j := ⟨_, rfl⟩
          rw [← hrw] at Hst L3
          have hrle : rw' ≤ d := by rw [hrw]; unfold scRow; split <;> omega
          have hfr := p2.frozen n
          by_cases hev : d % 2 = 0
          · have he : rw' = d - j := by rw [hrw]; unfold scRow; rw [if_pos hev]
            have hm : ((d : Int) % 2 == 0) = true := by simp; omega
            have hev2 := Lib.hid hev
            clear hev hrw
            by_cases h1 : rw' < 4
            · have d1 : decide (((d : Int) - (j : Int)) < 4) = true := by simp; omega
              by_cases h2 : d - rw' < 4
              · have d2 : decide (((d : Int) - ((d : Int) - (j : Int))) < 4) = true := by simp; omega
                have hn16 := L3.out ⟨h1, h2⟩
                have hc := p2.cell (i := n) (by rw [L1.out]; exact hn16)
                have hst := Hst.out
                rw [if_pos ⟨h1, h2⟩] at hst
                have hv : 4 * ((d : Int) - (j : Int)) + ((d : Int) - ((d : Int) - (j : Int))) = 4 * (rw' : Int) + ((d - rw' : Nat) : Int) := by omega
                have Hv := Lib.hid hv
                have HS := Lib.hid hst
                clear hst hv Hst L3
                go_wp2
                go_roundw
                case rel => exact ⟨j + 1, by omega, by go_num, by rw [HS.out]; simp, Ext.grown E2 (gr_set _ _ _ _) (fun q hq => by cases hq; omega), r2.set_other (by omega), by rw [HS.out, ← Hv.out]; exact p2.set n _⟩
                case measure => simp [intOf]; omega
              · have d2 : decide (((d : Int) - ((d : Int) - (j : Int))) < 4) = false := by simp; omega
                have hst := Hst.out
                rw [if_neg (fun h => h2 h.2)] at hst
                have HS := Lib.hid hst
                clear hst Hst L3
                go_wp2
                go_roundw
                case rel => exact ⟨j + 1, by omega, by go_num, by rw [HS.out], E2, r2, by rw [HS.out]; exact p2⟩
                case measure => simp [intOf]; omega
            · have d1 : decide (((d : Int) - (j : Int)) < 4) = false := by simp; omega
              have hst := Hst.out
              rw [if_neg (fun h => h1 h.1)] at hst
              have HS := Lib.hid hst
              clear hst Hst L3
              go_wp2
              go_roundw
              case rel => exact ⟨j + 1, by omega, by go_num, by rw [HS.out], E2, r2, by rw [HS.out]; exact p2⟩
              case measure => simp [intOf]; omega
          · have he : rw' = j := by rw [hrw]; unfold scRow; rw [if_neg hev]
            have hm : ((d : Int) % 2 == 0) = false := by simp; omega
            have hev2 := Lib.hid hev
            clear hev hrw
            by_cases h1 : rw' < 4
            · have d1 : decide ((j : Int) < 4) = true := by simp; omega
              by_cases h2 : d - rw' < 4
              · have d2 : decide (((d : Int) - (j : Int)) < 4) = true := by simp; omega
                have hn16 := L3.out ⟨h1, h2⟩
                have hc := p2.cell (i := n) (by rw [L1.out]; exact hn16)
                have hst := Hst.out
                rw [if_pos ⟨h1, h2⟩] at hst
                have hv : 4 * (j : Int) + ((d : Int) - (j : Int)) = 4 * (rw' : Int) + ((d - rw' : Nat) : Int) := by omega
                have Hv := Lib.hid hv
                have HS := Lib.hid hst
                clear hst hv Hst L3
                go_wp2
                go_roundw
                case rel => exact ⟨j + 1, by omega, by go_num, by rw [HS.out]; simp, Ext.grown E2 (gr_set _ _ _ _) (fun q hq => by cases hq; omega), r2.set_other (by omega), by rw [HS.out, ← Hv.out]; exact p2.set n _⟩
                case measure => simp [intOf]; omega
              · have d2 : decide (((d : Int) - (j : Int)) < 4) = false := by simp; omega
                have hst := Hst.out
                rw [if_neg (fun h => h2 h.2)] at hst
                have HS := Lib.hid hst
                clear hst Hst L3
                go_wp2
                go_roundw
                case rel => exact ⟨j + 1, by omega, by go_num, by rw [HS.out], E2, r2, by rw [HS.out]; exact p2⟩
                case measure => simp [intOf]; omega
            · have d1 : decide ((j : Int) < 4) = false := by simp; omega
              have hst := Hst.out
              rw [if_neg (fun h => h1 h.1)] at hst
              have HS := Lib.hid hst
              clear hst Hst L3
              go_wp2
              go_roundw
              case rel => exact ⟨j + 1, by omega, by go_num, by rw [HS.out], E2, r2, by rw [HS.out]; exact p2⟩
              case measure => simp [intOf]; omega
        · obtain rfl : j = d + 1 := by omega
          have hdj : decide (((d + 1 : Nat) : Int) < (d : Int) + 1) = false := by simp
          go_wp2
          go_roundw
          case rel => exact ⟨d + 1, by omega, by go_num, rfl, E2, r2, p2⟩
          case measure => simp [intOf]; omega
    · obtain rfl : d = 7 := by omega
      rw [scOut_all] at p1
      replace p1 : IB wr (w.heap.size + 1) 25 scanL := p1
      go_wp2_with (first | (refine wpList_iload 25 _ rfl rfl p1 0 16 rfl _ Tryd.underlying25 rfl size_A16s (by simp [scanL]) _ (by rw [sub_all scanL 16 rfl]) ?_) | (refine wpList_istore 25 _ _ rfl rfl r1 0 16 rfl _ rfl scanL rfl size_A16s rfl (by simp [zl]) ?_; intro wf pf gf; refine Hid.out ?_))
      rw [spl_all (by simp [zl, scanL])] at pf
      have Ef : Ext w wf := Ext.grown E1 gf (fun q hq => by cases hq; omega)
      refine Lib.hid ?_
      go_wp2
      exact bodyPost_ret (v := .agg (ic scanL)) (results_cell_row rfl _ _ w.heap.size 25 (ic scanL) (0, 0) _ rfl pf Tryd.underlying25 rfl (by rw [ic_size]; exact size_A16s)) rfl ⟨rfl, Ef⟩
end Go.Proofs.YtlmoeabchiddnaaDoor
