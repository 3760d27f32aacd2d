/- FnRowsRead: vectors read neighbouring rows: the walk of the law. -/
import Derived.Test.YtlmoeabchiddnaaDoorLawR1
import Derived.Test.YtlmoeabchiddnaaDoorDr
import Derived.Test.YtlmoeabchiddnaaDoorV
namespace Go.Proofs.YtlmoeabchiddnaaDoor
open Go.RowKit
set_option maxHeartbeats 1000000
theorem rowAt_lt {k h : Int} (h0 : 8 ≤ h) (h1 : h % 8 = 0) : (rowAt k h : Int) < h / 8 := by
  have h2 := rowAt_eq k h h0
  have h3 := clipI_lo (n := k) (lo := 0) (hi := h - 1) (by omega)
  omega
theorem mac0_zs : mac0.zs = zl 71 := by decide
theorem mac0_valid : mac0.valid := by
  refine ⟨⟨by decide, by decide⟩, ⟨by decide, by decide, by decide, by decide⟩, fun _ => ⟨rfl, rfl⟩, fun _ => rfl, fun h => absurd h (by decide), fun _ => rfl, inB_yes fun j hj => ?_⟩
  have hj' : j < 64 := by simpa [mac0] using hj
  have hr : ∀ n : Nat, j < n → nth (List.replicate n 0) j = 0 := fun n h => by simp [nth, h]
  have : nth mac0.lv j = 0 := hr 64 hj'
  omega
theorem byte_rangeR {L : List Int} (h : ∀ z ∈ L, (Lit.int .u8 z).wf = true) : ∀ z ∈ L, 0 ≤ z ∧ z ≤ 255 := by
  intro z hz
  have := h z hz
  simp [Lit.wf, IntKind.min, IntKind.max, IntKind.signed, IntKind.bits] at this
  exact ⟨by omega, by omega⟩
/-- What the rows are, if there are any. -/
theorem rowsL_some {m : Mac} {y h : Int} (hne : rowsL m y h ≠ []) : ∃ A B : Nat, rowsL m y h = upto A B ∧ A ≤ B ∧ (B : Int) < h / 8 ∧ B ≤ 3 ∧ placed y h ∧ m.kind ≠ 2 := by
  unfold rowsL at hne ⊢
  split at hne
  · rename_i hc
    rw [if_pos hc]
    have hp := hc.2.1
    unfold placed at hp
    exact ⟨_, _, rfl, rowAt_mono (by omega), rowAt_lt (by omega) (by omega), rowAt_le (by omega) (by omega), hc.2.1, hc.2.2⟩
  · exact absurd rfl hne
theorem rowsL_mac0 {y h : Int} (hp : placed y h) : rowsL mac0 y h = [y / 8] := by
  unfold rowsL
  rw [if_pos ⟨mac0_valid, hp, by decide⟩]
  unfold placed at hp
  have e1 : rowAt ((2 * y + mac0.y) / 2) h = (y / 8).toNat := by
    show rowAt ((2 * y + 0) / 2) h = _
    unfold rowAt clipI; omega
  have e2 : rowAt ((2 * (y + 8 - 1) + mac0.y + 1) / 2) h = (y / 8).toNat := by
    show rowAt ((2 * (y + 8 - 1) + 0 + 1) / 2) h = _
    unfold rowAt clipI; omega
  rw [e1, e2]
  unfold upto
  rw [show (y / 8).toNat + 1 - (y / 8).toNat = 1 by omega]
  simp
  omega
theorem zero_Mac0 : Tryd.zeroCells33 = ic mac0.zs := by kernel_rfl
set_option maxRecDepth 100000 in
set_option maxHeartbeats 2000000 in
theorem law_FnRowsRead (a : Option Addr) (c n : Nat) (zs : List Int) (w : World) (hT : Tab w) (hn0 : n ≤ c ∧ c ≤ maxLen) (sl : Sl w a n (zs.map (Value.int .u8))) (wf : ∀ z ∈ zs, (Lit.int .u8 z).wf = true) :
    Calls Tryd.prog 4 #[.slice a n c] w fun e w' => e = .returned (.bool true) ∧ Ext w w' := by
  have hn : n ≤ c ∧ c ≤ 9223372036854775807 := ⟨hn0.1, hn0.2⟩
  clear hn0
  by_cases hbig : 1048576 < n
  · clear sl wf hT
    go_enter Tryd.func4, Tryd.ntmps4
    go_wp2
    go_ret
    exact ⟨rfl, Below.refl _ _⟩
  have hz := byte_rangeR wf
  clear wf
  go_enter Tryd.func4, Tryd.ntmps4
  go_wp2_with fail
  refine (DrawRowsRead_any a c n zs _ hn.1 hn.2 sl hz).mono ?_
  rintro e w1 ⟨m, y, h, rfl, hm, hy0, hy1, hh0, hh1, E1⟩
  have Hl := Lib.hid (Mac.zs_len hm)
  have hI := fun (w : World) (hT : Tab w) => impl_RowsRead_any m y h w hT hm
  have hS := fun (w : World) => spec_RowsRead_any m y h w hm
  have hlen := rowsL_len m y h
  have hsome := @rowsL_some m y h
  obtain ⟨L, hL⟩ : ∃ L, L = rowsL m y h := ⟨_, rfl⟩
  obtain ⟨N, hN⟩ : ∃ N, N = L.length := ⟨_, rfl⟩
  rw [← hL] at hsome
  rw [← hL, ← hN] at hlen
  simp only [← hL, ← hN] at hI hS
  have HI := Lib.hid hI
  have HS := Lib.hid hS
  have Hsome := Lib.hid hsome
  have HN := Lib.hid hN
  clear hI hS hL hN hsome hm sl hz
  obtain ⟨q, hq⟩ : ∃ q, q = w1.heap.size := ⟨_, rfl⟩
  have Q2 := IB.new w1 33 (zl 71)
  have E2 := E1.trans (Ext.alloc w1 (.cells (ic (zl 71)) 33))
  have hqw := E1.size
  go_wp2_with (first | (refine wpList_iallocz 33 rfl rfl 71 zero_Macz ?_; (try simp only [World.size_alloc])) | (refine wpList_istore 33 _ _ rfl rfl Q2 0 71 rfl _ rfl m.zs rfl size_Macro Hl.out (by simp [zl]) ?_; intro w3 p3 g3; refine Hid.out ?_))
  rw [spl_all (by rw [Hl.out, zl_len])] at p3
  rw [← hq] at p3 g3 hqw ⊢
  have E3 : Ext w w3 := Ext.grown E2 g3 (fun k hk => by cases hk; omega)
  clear Q2 E2 g3 E1 hq
  refine Lib.hid ?_
  go_wp2_with (refine wpList_iload 33 _ rfl rfl p3 0 71 rfl _ Tryd.underlying33 rfl size_Macro (by rw [Hl.out]; omega) _ (by rw [sub_all _ _ Hl.out]) ?_)
  refine (HI.out _ (hT.ext E3)).mono ?_
  rintro e w4 ⟨v4, rfl, own4, e4⟩
  obtain ⟨a4, c4, rfl⟩ := owns_form own4
  have s4 := Sl.of_owns own4
  have E4 := E3.trans e4
  have H4 := p3.ext e4
  clear own4 p3 E3 e4
  go_wp2_with (refine wpList_iload 33 _ rfl rfl H4 0 71 rfl _ Tryd.underlying33 rfl size_Macro (by rw [Hl.out]; omega) _ (by rw [sub_all _ _ Hl.out]) ?_)
  refine (HS.out _).mono ?_
  rintro e w5 ⟨v5, rfl, own5, e5⟩
  obtain ⟨a5, c5, rfl⟩ := owns_form own5
  have t5 := Sl.of_owns own5
  have s5 := s4.ext e5
  have E5 := E4.trans e5
  have H5 := H4.ext e5
  clear own5 s4 E4 e5 H4
  go_wp2_with fail
  refine (sameInts_any a4 a5 c4 c5 _ _ L L _ (by omega) (by omega) s5 t5).mono ?_
  rintro e w6 ⟨he, q6, rfl⟩
  rw [decide_eq_true rfl] at he
  subst he
  have E6 : Ext w (w5.drewN q6) := below_drewN E5 q6
  have s6 := s5.drewN q6
  have H6 := H5.drewN q6
  clear s5 t5 E5 H5
  generalize w5.drewN q6 = w6 at *
  by_cases h0 : N = 0
  · subst h0
    clear s6 H6
    go_wp2_with fail
    refine (alive_any _).mono ?_
    rintro e w7 ⟨rfl, e7⟩
    have E7 := E6.trans e7
    go_wp2
    go_ret
    exact ⟨rfl, E7⟩
  · have hLne : L ≠ [] := fun hc => h0 (by rw [HN.out, hc]; rfl)
    obtain ⟨A, B, hLe, hAB, hB8, hB3, hpl, hkd⟩ := Hsome.out hLne
    have hN2 : N = B + 1 - A := by rw [HN.out, hLe, upto_len]
    rw [hLe] at s6
    have hR0 := rowsL_mac0 hpl
    have hI0 := fun (w : World) (hT : Tab w) => impl_RowsRead_any mac0 y h w hT mac0_ok
    simp only [hR0, List.length_singleton, List.map_cons, List.map_nil] at hI0
    have HI0 := Lib.hid hI0
    have hh8 := hpl.2.2.1
    have HH8 := Lib.hid hh8
    have HPL := Lib.hid hpl
    have HB8 := Lib.hid hB8
    have HN2 := Lib.hid hN2
    clear hN2 hI0 hR0 hpl hh8 hLe hLne Hsome HI HS HN hB8
    go_wp2_with fail
    go_loopw [7] (fun i wr => ∃ k : Nat, k ≤ N ∧ i = .int .i64 k ∧ ∃ u, wr = w6.drewN u) (fun i _ => N - (intOf i).toNat)
    case atStart => exact ⟨0, by omega, rfl, 0, rfl⟩
    case round =>
      obtain ⟨k, hk, rfl, u, rfl⟩ := hrel
      by_cases hlt : k < N
      · have hN2 := HN2.out
        have hb8 := HB8.out
        obtain ⟨b1, o1, rfl, c1⟩ := s6.int hlt
        rw [nth_upto (by omega)] at c1
        obtain rfl | rfl | rfl | rfl : k = 0 ∨ k = 1 ∨ k = 2 ∨ k = 3 := by omega
        · replace c1 : w6.cell? ⟨b1, o1, none⟩ = some (.int .i64 (A : Int)) := by simpa using c1
          have hd1 : decide ((A : Int) < 0) = false := by simp
          have hd2 : decide (h / 8 ≤ (A : Int)) = false := by simp; omega
          clear hN2
          go_wp2_with fail
          go_quiet (fail)
          go_wp2
          go_roundw
          case rel => exact ⟨0 + 1, by omega, by go_num, _, (by first | rfl | exact (World.drewN_drewN _ _ _))⟩
          case measure => simp [intOf]; omega
        · replace c1 : w6.cell? ⟨b1, o1 + 1, none⟩ = some (.int .i64 ((A : Int) + 1)) := by simpa using c1
          have hd1 : decide ((A : Int) + 1 < 0) = false := by simp; omega
          have hd2 : decide (h / 8 ≤ (A : Int) + 1) = false := by simp; omega
          obtain ⟨b2, o2, hb2, c2⟩ := s6.int (i := 0) (by omega)
          simp only [Option.some.injEq, Addr.mk.injEq, and_true] at hb2
          obtain ⟨rfl, rfl⟩ := hb2
          rw [nth_upto (by omega)] at c2
          replace c2 : w6.cell? ⟨b1, o1, none⟩ = some (.int .i64 (A : Int)) := by simpa using c2
          clear hN2
          go_wp2_with fail
          go_quiet (fail)
          go_wp2
          go_roundw
          case rel => exact ⟨1 + 1, by omega, by go_num, _, (by first | rfl | exact (World.drewN_drewN _ _ _))⟩
          case measure => simp [intOf]; omega
        · replace c1 : w6.cell? ⟨b1, o1 + 2, none⟩ = some (.int .i64 ((A : Int) + 2)) := by simpa using c1
          have hd1 : decide ((A : Int) + 2 < 0) = false := by simp; omega
          have hd2 : decide (h / 8 ≤ (A : Int) + 2) = false := by simp; omega
          obtain ⟨b2, o2, hb2, c2⟩ := s6.int (i := 1) (by omega)
          simp only [Option.some.injEq, Addr.mk.injEq, and_true] at hb2
          obtain ⟨rfl, rfl⟩ := hb2
          rw [nth_upto (by omega)] at c2
          replace c2 : w6.cell? ⟨b1, o1 + 1, none⟩ = some (.int .i64 ((A : Int) + 1)) := by simpa using c2
          have hd3 : ((A : Int) + 2 != (A : Int) + 1 + 1) = false := by simp; omega
          clear hN2
          go_wp2_with fail
          go_quiet (fail)
          go_wp2
          go_roundw
          case rel => exact ⟨2 + 1, by omega, by go_num, _, (by first | rfl | exact (World.drewN_drewN _ _ _))⟩
          case measure => simp [intOf]; omega
        · replace c1 : w6.cell? ⟨b1, o1 + 3, none⟩ = some (.int .i64 ((A : Int) + 3)) := by simpa using c1
          have hd1 : decide ((A : Int) + 3 < 0) = false := by simp; omega
          have hd2 : decide (h / 8 ≤ (A : Int) + 3) = false := by simp; omega
          obtain ⟨b2, o2, hb2, c2⟩ := s6.int (i := 2) (by omega)
          simp only [Option.some.injEq, Addr.mk.injEq, and_true] at hb2
          obtain ⟨rfl, rfl⟩ := hb2
          rw [nth_upto (by omega)] at c2
          replace c2 : w6.cell? ⟨b1, o1 + 2, none⟩ = some (.int .i64 ((A : Int) + 2)) := by simpa using c2
          have hd3 : ((A : Int) + 3 != (A : Int) + 2 + 1) = false := by simp; omega
          clear hN2
          go_wp2_with fail
          go_quiet (fail)
          go_wp2
          go_roundw
          case rel => exact ⟨3 + 1, by omega, by go_num, _, (by first | rfl | exact (World.drewN_drewN _ _ _))⟩
          case measure => simp [intOf]; omega
      · obtain rfl : k = N := by omega
        have E7 : Ext w (w6.drewN u) := below_drewN E6 u
        have H7 := H6.drewN u
        clear s6 E6 H6
        generalize w6.drewN u = w7 at *
        go_wp2_with fail
        rw [zero_Mac0]
        refine (HI0.out _ (hT.ext E7)).mono ?_
        rintro e w8 ⟨v8, rfl, own8, e8⟩
        obtain ⟨a8, c8, rfl⟩ := owns_form own8
        have s8 := Sl.of_owns own8
        have E8 := E7.trans e8
        have H8 := H7.ext e8
        have k0 := H8.cell (i := 0) (by rw [Hl.out]; omega)
        rw [Mac.zs_kind] at k0
        clear own8 E7 H7 e8
        have s9 : Sl w8 a8 1 ([y / 8].map (Value.int .i64)) := s8
        obtain ⟨b9, o9, rfl, c9⟩ := s9.int (i := 0) (by omega)
        replace c9 : w8.cell? ⟨b9, o9, none⟩ = some (.int .i64 (y / 8)) := by simpa [nth] using c9
        have hkd2 : (m.kind != 2) = true := by simpa using hkd
        clear s8 s9
        go_wp2
        go_ret
        exact ⟨rfl, E8⟩
end Go.Proofs.YtlmoeabchiddnaaDoor
