/- The runs in a block of levels: a range over a function; how many levels are not zero. -/
import Derived.Test.YtlmoeabchiddnaaDoorYf
import Derived.Test.YtlmoeabchiddnaaDoorSo
import Derived.Test.YtlmoeabchiddnaaDoorDm
namespace Go.Proofs.YtlmoeabchiddnaaDoor
open Go.RowKit
set_option maxHeartbeats 1000000
attribute [local go_sem] Oper.semAt_some
/-- Behind k levels of the scan order: how many zeros since the last run, the runs so far. -/
def runT (zs : List Int) : Nat → Nat × List (Int × Int)
  | 0 => (0, [])
  | k + 1 => if nth zs (nth scanL k).toNat = 0 then ((runT zs k).1 + 1, (runT zs k).2) else (0, (runT zs k).2 ++ [(((runT zs k).1 : Int), nth zs (nth scanL k).toNat)])
/-- The runs of a block. -/
def runsL (zs : List Int) : List (Int × Int) := (runT zs 16).2
theorem runT_le (zs : List Int) (k : Nat) : (runT zs k).1 ≤ k := by
  induction k with
  | zero => exact Nat.le_refl _
  | succ k ih => unfold runT; split <;> simp <;> omega
theorem runT_len (zs : List Int) (k : Nat) : (runT zs k).2.length ≤ k := by
  induction k with
  | zero => exact Nat.le_refl _
  | succ k ih => unfold runT; split <;> simp <;> omega
theorem runsL_len (zs : List Int) : (runsL zs).length ≤ 16 := runT_len zs 16
theorem scan_rng : ∀ k, k < 16 → 0 ≤ nth scanL k ∧ nth scanL k ≤ 15 := by decide
/-- A run of levels within B. -/
def rOk (B : Int) (x : Int × Int) : Prop := 0 ≤ x.1 ∧ x.1 ≤ 15 ∧ x.2 ≠ 0 ∧ -B ≤ x.2 ∧ x.2 ≤ B
abbrev Rn (B : Int) := { x : Int × Int // rOk B x }
def encR {B : Int} (x : Rn B) : Array Value := #[.agg #[.int .i64 x.1.1, .int .i64 x.1.2]]
set_option maxRecDepth 100000 in
set_option maxHeartbeats 2000000 in
theorem runs_stops (n : Nat) (hn : 1 ≤ n) (Bs : Nat) (zs : List Int) (B : Int) (hl : zs.length = 16) (hB : bdI B zs) (w : World) (hI : IB w Bs 25 zs) :
    SeqStopsK Fence.wide n Tryd.prog 116 #[.pointer (some ⟨Bs, 0, none⟩)] (encR (B := B)) (keepB Bs) (fun xs => xs.map (·.1) = runsL zs) (fun _ => True) 16 w := by
  intro l J Jx W hW hJ hJx hY h0
  have hB0 := hI.ext hW
  refine callsIn_wide.2 ?_
  have Hl := Lib.hid hl
  have HY := Lib.hid hY
  have HB := Lib.hid hB
  clear hl hY hB hI hJx hW
  go_enter Tryd.func116, Tryd.ntmps116
  go_wp2_with fail
  refine (scanOrder_any _).mono ?_
  rintro e w1 ⟨rfl, e1⟩
  have B1 := hB0.ext e1
  have J1 : J [] w1 := hJ [] W w1 none h0 ⟨e1.os, e1.tape, e1.output, e1.size, fun k hk _ => e1.block k hk⟩ (fun r hr => by cases hr)
  clear hB0 h0 e1 hJ
  go_wp2_with fail
  go_loopw [3, 8] (fun z i wr => ∃ (k : Nat) (pre : List (Rn B)), k ≤ 16 ∧ i = .int .i64 k ∧ z = .int .i64 ((runT zs k).1 : Nat) ∧ pre.map (·.1) = (runT zs k).2 ∧ J pre wr ∧ IB wr Bs 25 zs) (fun _ i _ => 16 - (intOf i).toNat)
  case atStart => exact ⟨0, [], by omega, rfl, rfl, rfl, J1, B1⟩
  case round =>
    obtain ⟨k, pre, hk, rfl, rfl, hpl, Jr, Br⟩ := hrel
    clear J1 B1
    by_cases hlt : k < 16
    · have hd : decide ((k : Int) < 16) = true := by simp; omega
      obtain ⟨s0, s1⟩ := scan_rng k hlt
      have hst : runT zs (k + 1) = if nth zs (nth scanL k).toNat = 0 then ((runT zs k).1 + 1, (runT zs k).2) else (0, (runT zs k).2 ++ [(((runT zs k).1 : Int), nth zs (nth scanL k).toNat)]) := rfl
      have hz := runT_le zs k
      have hln := runT_len zs k
      obtain ⟨q, hq⟩ : ∃ q : Nat, nth scanL k = (q : Int) := ⟨(nth scanL k).toNat, by omega⟩
      rw [hq, Int.toNat_natCast] at hst
      rw [hq] at s0 s1
      have hc := Br.cell (i := q) (by rw [Hl.out]; omega)
      have hb := HB.out q (by rw [Hl.out]; omega)
      have Hst := Lib.hid hst
      have Hq := Lib.hid hq
      clear hst hq
      generalize nth zs q = lv at *
      obtain ⟨z, hzz⟩ : ∃ z, z = (runT zs k).1 := ⟨_, rfl⟩
      rw [← hzz] at Hst hz ⊢
      have Hpl := Lib.hid hpl
      clear hpl hzz
      by_cases h0 : lv = 0
      · subst h0
        go_wp2_with (refine wpList_iindex 25 _ _ rfl rfl scanL rfl k 16 _ rfl rfl 3 Tryd.underlying25 Tryd.underlying3 size_int hlt rfl ?_; rw [Hq.out])
        have hst := Hst.out
        rw [if_pos rfl] at hst
        go_roundw
        case rel => exact ⟨k + 1, pre, by omega, by go_num, by rw [hst]; go_num, by rw [hst]; exact Hpl.out, Jr, Br⟩
        case measure => simp [intOf]; omega
      · have hd0 : (lv == 0) = false := by simpa using h0
        have hst := Hst.out
        rw [if_neg h0] at hst
        have HST := Lib.hid hst
        clear hst Hst
        obtain ⟨fn, tmps, assign, body, hy, hR⟩ := HY.out pre ⟨((z : Nat), lv), by exact ⟨by simp, by simp; omega, h0, hb.1, hb.2⟩⟩ wr Jr (by have := congrArg List.length Hpl.out; simp at this; omega)
        dsimp only [encR] at hy
        go_upto_region 8 with (refine wpList_iindex 25 _ _ rfl rfl scanL rfl k 16 _ rfl rfl 3 Tryd.underlying25 Tryd.underlying3 size_int hlt rfl ?_; rw [Hq.out])
        refine (wpIn_wide (n := n)).1 ?_
        gi_wp2
        refine hR.mono ?_
        rintro e W3 (⟨rfl, hJ3, hk3⟩ | ⟨rfl, hJx3⟩)
        · gi_wp2
          go_wp2
          have B3 : IB W3 Bs 25 zs := hk3.trans Br
          go_roundw
          case rel => exact ⟨k + 1, _, by omega, by go_num, by rw [HST.out]; go_num, by rw [HST.out]; simp [Hpl.out], hJ3, B3⟩
          case measure => simp [intOf]; omega
        · gi_wp2
          go_wp2
          refine bodyPost_ret (results_none rfl _ _ _) rfl ?_
          exact ⟨⟨_, rfl⟩, .inr ⟨_, trivial, hJx3⟩⟩
    · obtain rfl : k = 16 := by omega
      go_wp2
      go_end0
      exact ⟨⟨_, rfl⟩, .inl ⟨pre, hpl, Jr⟩⟩
theorem runsIn_any (zs : List Int) (w : World) :
    Calls Tryd.prog 85 #[.agg (ic zs)] w fun e w' => e = .returned (.func (.func 116) #[] #[.pointer (some ⟨w.heap.size, 0, none⟩)]) ∧ w' = w.alloc (.cells (ic zs) 25) := by
  go_enter Tryd.func85, Tryd.ntmps85
  go_wp2
  go_ret
  exact ⟨rfl, rfl⟩
set_option maxRecDepth 100000 in
theorem NonzeroCount_any (zs : List Int) (w : World) (hl : zs.length = 16) (B : Int) (hB : bdI B zs) :
    Calls Tryd.prog 39 #[.agg (ic zs)] w fun e w' => e = .returned (.int .i64 ((runsL zs).length : Nat)) ∧ Ext w w' := by
  have Hl := Lib.hid hl
  have HB := Lib.hid hB
  have hr := runsL_len zs
  have p0 := (IB.new w 25 zs).alloc (.cells #[.int .i64 0] 3)
  have c0 := blk_new (w.alloc (.cells (ic zs) 25)) (.cells #[.int .i64 0] 3)
  have E0 := (Ext.alloc w (.cells (ic zs) 25)).trans (Ext.alloc _ (.cells #[.int .i64 0] 3))
  simp only [World.size_alloc] at c0
  clear hl hB
  refine calls_of_marks 4 Tryd.func39 rfl ?_
  simp only [Tryd.ntmps39, List.size_toArray, List.length_cons, List.length_nil, Nat.reduceAdd, Nat.reduceSub, Array.replicate_succ, Array.replicate_zero, List.push_toArray, List.append_toArray, List.nil_append, List.cons_append]
  go_wp2_with (refine wpList_iload 25 _ rfl rfl p0 0 16 rfl _ Tryd.underlying25 rfl size_A16s (by rw [Hl.out]; omega) _ (by rw [sub_all _ _ Hl.out]) ?_)
  refine (runsIn_any zs _).mono ?_
  rintro e w1 ⟨rfl, rfl⟩
  simp only [World.size_alloc]
  obtain ⟨c, hc⟩ : ∃ c, c = w.heap.size + 1 := ⟨_, rfl⟩
  generalize hw1 : (w.alloc (.cells (ic zs) 25)).alloc (.cells #[.int .i64 0] 3) = w1 at *
  have hs : w1.heap.size = c + 1 := by rw [← hw1, hc]; simp
  rw [← hc] at c0 ⊢
  have e2 := Ext.alloc w1 (.cells (ic zs) 25)
  have I2 := IB.new w1 25 zs
  have c2 := e2.blk c0
  have E2 := E0.trans e2
  have hs2 : (w1.alloc (.cells (ic zs) 25)).heap.size = c + 2 := by simp [hs]
  rw [hs] at I2
  have HC := Lib.hid hc
  clear hc hw1 c0 p0 E0 e2
  generalize w1.alloc (.cells (ic zs) 25) = w2 at *
  go_upto_region 99 with fail
  refine (wpIn_wide (n := 4)).1 ?_
  refine wpIn_rangeFunc_ownG rfl (by omega) (gf := 116) (lb := #[.pointer (some ⟨c + 1, 0, none⟩)]) rfl trivial (enters_of Tryd.func116 (by kernel_rfl) rfl)
    (runs_stops 3 (by omega) (c + 1) zs B Hl.out HB.out w2 I2) keepB.t (keepB.b (by omega)) (Below.refl _ _) (fun _ => rfl)
    (fun pre W => W.heap[c]? = some (.cells #[.int .i64 (pre.length : Nat)] 3 (0, 0)) ∧ Ext w W) (fun _ _ _ => False)
    (fun pre W W' row hI hg hr => ⟨blk_gr hI.1 hg (fun e => by have := (hr _ e).1; omega), Ext.grown hI.2 hg (fun k e => by have := (hr k e).1; have := HC.out; omega)⟩) (fun _ _ _ _ _ h _ _ => h) ⟨c2, E2⟩ ?a1 ?assign ?body ?done ?stop
  case assign =>
    intro l x W K hK
    simp [encR]
    gi_wp2
    exact hK
  case body =>
    rintro l pre x W ⟨hc1, hE⟩ hlen
    obtain ⟨hc0, hcc, hcf⟩ := bx1 hc1
    gi_wp2
    have h1 := heap_setCell_same W c 0 _ _ (.int .i64 ((pre.length : Int) + 1)) hc1
    exact ⟨(KeepsOthers.setCell _ _ _).from _, Below.heap_setCell _ _ _ _ (by show c + 1 ≠ c; omega), by simpa using h1, Ext.grown hE (gr_set _ _ _ _) (fun k e => by cases e; have := HC.out; omega)⟩
  case done =>
    rintro D ys W hD hS ⟨hc1, hE⟩ hK
    obtain ⟨hc0, hcc, hcf⟩ := bx1 hc1
    have hyl := congrArg List.length hS
    rw [List.length_map] at hyl
    have HY := Lib.hid hyl
    clear hyl hS
    go_wp2
    refine ⟨by simp, .inl ⟨_, _, rfl, run_takeDeferred hK, ?_⟩⟩
    exact ⟨_, results_tmp rfl _ _ _, by rw [← HY.out]; rfl, ext_putObj hE (by have := HC.out; omega) _⟩
  case stop =>
    rintro D c pre W _ _ h _
    exact h.elim
end Go.Proofs.YtlmoeabchiddnaaDoor
