/- ParityOf: contracts. -/
import Derived.Test.YtmcdlkbofhdnlaaP0
import Derived.Test.YtmcdlkbofhdnlaaA2
import Derived.Test.YtmcdlkbofhdnlaaD4
import Derived.Test.YtmcdlkbofhdnlaaApp
import Derived.StillTailTactics
namespace Go.Proofs.Ytmcdlkbofhdnlaa
open Go.RowKit
set_option maxHeartbeats 400000

theorem impl_groupValid_any (a : Option Addr) (c n : Nat) (L : List (List Int)) (w : World) (hn : n ≤ 9223372036854775807) (r : SS w a n L) :
    Calls Try.prog 61 #[.slice a n c] w fun e w' => e = .returned (.bool (gvalid L)) ∧ w = w' := by
  have hl := r.1
  by_cases h0 : n < 1
  · have hg : gvalid L = false := by
      cases h : gvalid L with
      | false => rfl
      | true => have := gvalid_iff.1 h; omega
    rw [hg]
    clear hg hl
    go_enter Try.func61, Try.ntmps61
    go_wp2
    go_ret
    exact ⟨rfl, rfl⟩
  · by_cases h1 : 8 < n
    · have hg : gvalid L = false := by
        cases h : gvalid L with
        | false => rfl
        | true => have := gvalid_iff.1 h; omega
      rw [hg]
      clear hg hl
      go_enter Try.func61, Try.ntmps61
      go_wp2
      go_ret
      exact ⟨rfl, rfl⟩
    · have Hl := Lib.hid hl
      clear hl
      go_enter Try.func61, Try.ntmps61
      go_wp2_with fail
      go_loop [15] (fun i => ∃ k : Nat, k ≤ n ∧ i = .int .i64 k ∧ Hid (∀ j, j < k → (lget L j).length ≤ 255)) (fun i => n - (intOf i).toNat)
      case atStart => exact ⟨0, by omega, rfl, Lib.hid (fun j hj => by omega)⟩
      case round =>
        obtain ⟨k, hk, rfl, hall⟩ := hrel
        by_cases hlt : k < n
        · obtain ⟨b, off, rfl, a2, c2, g1, -, g3, g4⟩ := r.2 k hlt
          unfold maxLen at g4
          by_cases hbig : 255 < (lget L k).length
          · have hg : gvalid L = false := by
              cases h : gvalid L with
              | false => rfl
              | true => have := (gvalid_iff.1 h).2.2 _ (lget_mem L k (by rw [Hl.out]; exact hlt)); omega
            have Hg := Lib.hid hg
            clear hg
            go_wp2
            go_ret
            exact ⟨ret_bool Hg.out.symm, rfl⟩
          · go_wp2
            go_round
            case rel => exact ⟨k + 1, by omega, by go_num, Lib.hid (fun j hj => by
              by_cases hjk : j = k
              · subst hjk; omega
              · exact hall.out j (by omega))⟩
            case measure => simp [intOf]; omega
        · obtain rfl : k = n := by omega
          have hg : gvalid L = true := gvalid_iff.2 ⟨by rw [Hl.out]; omega, by rw [Hl.out]; omega, fun s hs => by
            obtain ⟨j, hj, rfl⟩ := List.getElem_of_mem hs
            rw [← lget_eq L j hj]
            exact hall.out j (by rw [← Hl.out]; exact hj)⟩
          have Hg := Lib.hid hg
          clear hg
          go_wp2
          go_ret
          exact ⟨ret_bool Hg.out.symm, rfl⟩
theorem spec_l17Ok_any (a : Option Addr) (c n : Nat) (L : List (List Int)) (w : World) (hn : n ≤ 9223372036854775807) (r : SS w a n L) :
    Calls Try.prog 63 #[.slice a n c] w fun e w' => e = .returned (.bool (gvalid L)) ∧ w = w' := by
  have hl := r.1
  by_cases h0 : n < 1 ∨ 8 < n
  · have hg : gvalid L = false := by
      cases h : gvalid L with
      | false => rfl
      | true => have := gvalid_iff.1 h; omega
    have H0 := Lib.hid (show (n : Int) < 1 ∨ 8 < (n : Int) by omega)
    rw [hg]
    clear hg hl h0
    go_enter Try.func63, Try.ntmps63
    go_wp2_with fail
    refine (l1In_no _ _ _ _ H0.out).mono ?_
    rintro e w1 ⟨rfl, rfl⟩
    go_wp2
    go_ret
    exact ⟨rfl, rfl⟩
  · have Hl := Lib.hid hl
    clear hl
    go_enter Try.func63, Try.ntmps63
    go_wp2_with fail
    refine (l1In_yes _ _ _ _ (by omega) (by omega)).mono ?_
    rintro e w1 ⟨rfl, rfl⟩
    go_wp2_with fail
    go_loop [3] (fun i => ∃ k : Nat, k ≤ n ∧ i = .int .i64 k ∧ Hid (∀ j, j < k → (lget L j).length ≤ 255)) (fun i => n - (intOf i).toNat)
    case atStart => exact ⟨0, by omega, rfl, Lib.hid (fun j hj => by omega)⟩
    case round =>
      obtain ⟨k, hk, rfl, hall⟩ := hrel
      by_cases hlt : k < n
      · obtain ⟨b, off, rfl, a2, c2, g1, -, g3, g4⟩ := r.2 k hlt
        unfold maxLen at g4
        by_cases hbig : 255 < (lget L k).length
        · have hg : gvalid L = false := by
            cases h : gvalid L with
            | false => rfl
            | true => have := (gvalid_iff.1 h).2.2 _ (lget_mem L k (by rw [Hl.out]; exact hlt)); omega
          have Hg := Lib.hid hg
          clear hg
          go_wp2
          go_ret
          exact ⟨ret_bool Hg.out.symm, rfl⟩
        · go_wp2
          go_round
          case rel => exact ⟨k + 1, by omega, by go_num, Lib.hid (fun j hj => by
            by_cases hjk : j = k
            · subst hjk; omega
            · exact hall.out j (by omega))⟩
          case measure => simp [intOf]; omega
      · obtain rfl : k = n := by omega
        have hg : gvalid L = true := gvalid_iff.2 ⟨by rw [Hl.out]; omega, by rw [Hl.out]; omega, fun s hs => by
          obtain ⟨j, hj, rfl⟩ := List.getElem_of_mem hs
          rw [← lget_eq L j hj]
          exact hall.out j (by rw [← Hl.out]; exact hj)⟩
        have Hg := Lib.hid hg
        clear hg
        go_wp2
        go_ret
        exact ⟨ret_bool Hg.out.symm, rfl⟩

/-- xorFrame. -/
theorem impl_xorFrame_any (base g cap m : Nat) (f : Nat → Int) (a : Option Addr) (c : Nat) (s : List Int) (w : World) (hm : m ≤ 256) (hsm : s.length + 1 ≤ m) (hs : ∀ z ∈ s, byt z) (hf : ∀ i, i < m → byt (f i))
    (own : w.ownsRow base 5 1 (.slice (some ⟨g, 0, none⟩) m cap) m ((tab m f).map (Value.int .u8))) (r : Sl w a s.length (s.map (Value.int .u8))) (hne : 0 < s.length → ∀ x, a = some x → x.block ≠ g) :
    Calls Try.prog 62 #[.slice (some ⟨g, 0, none⟩) m cap, .slice a s.length c] w fun e w' => e = .returned (.tuple #[]) ∧ w'.ownsRow base 5 1 (.slice (some ⟨g, 0, none⟩) m cap) m ((tab m fun i => bx (f i) (fr s i)).map (Value.int .u8)) ∧ w.grownBy w' (some g) := by
  obtain ⟨n, hn⟩ : ∃ n, n = s.length := ⟨_, rfl⟩
  rw [← hn] at r hsm hne ⊢
  have Hn := Lib.hid hn
  have Hf := Lib.hid hf
  have Hs := Lib.hid hs
  clear hn hf hs
  have s0 := Sl.of_owns own
  obtain ⟨b0, o0, h0, g0⟩ := s0.int (show 0 < m by omega)
  simp only [Option.some.injEq, Addr.mk.injEq, and_true] at h0
  obtain ⟨rfl, rfl⟩ := h0
  rw [nth_tab _ _ _ (by omega)] at g0
  have f0 := own.frozenAt 0
  obtain ⟨o2, gr2⟩ := own.stored 0 (.int .u8 (bx (f 0) (n : Int)))
  rw [← List.map_set, tab_set] at o2
  have hfn : IntKind.u8.wrap (n : Int) = (n : Int) := by rw [wrap_u8]; omega
  have o3 : (w.setCell ⟨g, 0, none⟩ (.int .u8 (bx (f 0) (n : Int)))).ownsRow base 5 1 (.slice (some ⟨g, 0, none⟩) m cap) m ((tab m fun j => if j ≤ 0 then bx (f j) (fr s j) else f j).map (Value.int .u8)) := by
    rw [tab_congr (g := fun j => if j = 0 then bx (f 0) (n : Int) else f j) ?_]
    · exact o2
    · intro j hj
      by_cases hj0 : j = 0
      · subst hj0; simp [fr, Hn.out]
      · simp [hj0]
  go_enter Try.func62, Try.ntmps62
  go_wp2_with fail
  clear own s0 g0 f0 o2
  have hw0 : w.grownBy (w.setCell ⟨g, 0, none⟩ (.int .u8 (bits .xor .u8 (f 0) (n : Int)))) (some g) := gr2
  have o4 : (w.setCell ⟨g, 0, none⟩ (.int .u8 (bits .xor .u8 (f 0) (n : Int)))).ownsRow base 5 1 (.slice (some ⟨g, 0, none⟩) m cap) m ((tab m fun j => if j ≤ 0 then bx (f j) (fr s j) else f j).map (Value.int .u8)) := o3
  clear o3 gr2 hfn
  go_loopw [16, 4, 5] (fun i _ _ wr => ∃ k : Nat, k ≤ n ∧ i = .int .i64 k ∧ w.grownBy wr (some g) ∧ wr.ownsRow base 5 1 (.slice (some ⟨g, 0, none⟩) m cap) m ((tab m fun j => if j ≤ k then bx (f j) (fr s j) else f j).map (Value.int .u8))) (fun i _ _ _ => n - (intOf i).toNat)
  case atStart => exact ⟨0, by omega, rfl, hw0, o4⟩
  case round =>
    obtain ⟨k, hk, rfl, G2, own2⟩ := hrel
    clear o4 hw0
    by_cases hlt : k < n
    · have r2 := r.grown G2 (fun x hx e => hne (by omega) x hx (by simpa using e))
      obtain ⟨b1, o1, rfl, g1⟩ := r2.int hlt
      have s0 := Sl.of_owns own2
      obtain ⟨b0, o0, h0, g0⟩ := s0.int (show 1 + k < m by omega)
      simp only [Option.some.injEq, Addr.mk.injEq, and_true] at h0
      obtain ⟨rfl, rfl⟩ := h0
      rw [nth_tab _ _ _ (by omega), if_neg (by omega), Nat.zero_add] at g0
      have f0 := own2.frozenAt (1 + k)
      obtain ⟨o5, gr5⟩ := own2.stored (1 + k) (.int .u8 (bits .xor .u8 (f (1 + k)) (nth s k)))
      rw [← List.map_set, tab_set, tab_congr (g := fun j => if j ≤ k + 1 then bx (f j) (fr s j) else f j) (fun j hj => by
        by_cases hj1 : j = 1 + k
        · subst hj1
          rw [if_pos rfl, if_pos (by omega)]
          simp [fr, bx]
        · rw [if_neg hj1]
          by_cases hj2 : j ≤ k
          · rw [if_pos hj2, if_pos (by omega)]
          · rw [if_neg hj2, if_neg (by omega)])] at o5
      have G5 := grown_trans G2 gr5
      have O5 := Lib.hid o5
      have GG := Lib.hid G5
      clear o5 G5 gr5 own2 G2 r r2 s0
      go_wp2
      go_roundw
      case rel => exact ⟨k + 1, by omega, by go_num, GG.out, O5.out⟩
      case measure => simp [intOf]; omega
    · obtain rfl : k = n := by omega
      rw [tab_congr (g := fun j => bx (f j) (fr s j)) (fun j hj => by
        by_cases hj2 : j ≤ k
        · rw [if_pos hj2]
        · rw [if_neg hj2, fr_past (by rw [← Hn.out]; omega), bx_zero (Hf.out j hj)])] at own2
      go_wp2
      go_end0
      exact ⟨rfl, own2, G2⟩

theorem impl_ParityOf_any (a : Option Addr) (c n : Nat) (L : List (List Int)) (w : World) (hn : n ≤ 9223372036854775807) (hL : ∀ s ∈ L, ∀ z ∈ s, byt z) (r : SS w a n L) :
    Calls Try.prog 32 #[.slice a n c] w fun e w' => ∃ v, e = .returned v ∧ w'.ownsRow w.heap.size 5 1 v (parity L).length ((parity L).map (Value.int .u8)) ∧ Ext w w' := by
  have hl := r.1
  by_cases hg : gvalid L = true
  · have hsm : small L := fun s hs => ⟨(gvalid_iff.1 hg).2.2 s hs, hL s hs⟩
    have hp : parity L = tab (sizeT L n) (parT L n) := by rw [← hl]; exact if_pos hg
    have hsz := sizeT_le hsm n (by omega)
    have hpb := parT_byt hsm
    have hbound := fun j => (hsm (lget L j))
    have hcl := impl_groupValid_any a c n L w hn r
    rw [hg] at hcl
    rw [hp]
    have Hl := Lib.hid hl
    have Hsm := Lib.hid hsm
    have Hpb := Lib.hid hpb
    clear hl hg hp hsm hpb hL hbound
    go_enter Try.func32, Try.ntmps32
    go_wp2_with fail
    refine hcl.mono ?_
    rintro e w1 ⟨rfl, rfl⟩
    clear hcl
    go_wp2_with fail
    go_loop [14, 3, 5] (fun i q _ => ∃ k : Nat, k ≤ n ∧ i = .int .i64 k ∧ q = .int .i64 (sizeT L k : Nat)) (fun i _ _ => n - (intOf i).toNat)
    case atStart => exact ⟨0, by omega, rfl, rfl⟩
    case round =>
      obtain ⟨k, hk, rfl, rfl⟩ := hrel
      by_cases hlt : k < n
      · obtain ⟨b, off, rfl, a2, c2, g1, -, -, -⟩ := r.2 k hlt
        have hb := (Hsm.out _ (lget_mem L k (by rw [Hl.out]; exact hlt))).1
        have hsk := sizeT_le Hsm.out k (by rw [Hl.out]; omega)
        have hst : sizeT L (k + 1) = max (sizeT L k) ((lget L k).length + 1) := rfl
        have Hst := Lib.hid hst
        clear hst
        go_wp2
        all_goals
          go_round
          case rel => exact ⟨k + 1, by omega, by go_num, by rw [Hst.out]; first | rfl | (congr 1; omega)⟩
          case measure => simp [intOf]; omega
      · obtain rfl : k = n := by omega
        go_wp2_with (at_make; refine wpList_mk _ rfl _ _ 22 rfl 5 (.int .u8 0) 1 Try.underlying22 info_uint8 rfl _ (sizeT L k) rfl rfl rfl (by omega) (by omega) ?_; intro w2 hown hgrow)
        have E2 : Ext w w2 := Ext.grown (Below.refl _ _) hgrow (by simp)
        rw [show List.replicate (sizeT L k) (Value.int .u8 0) = (tab (sizeT L k) (parT L 0)).map (Value.int .u8) from by rw [← List.map_replicate, tab_zero]; rfl] at hown
        clear hgrow
        go_loopw [28, 8] (fun i _ wr => ∃ j : Nat, j ≤ k ∧ i = .int .i64 j ∧ Ext w wr ∧ wr.ownsRow w.heap.size 5 1 (.slice (some ⟨w.heap.size, 0, none⟩) (sizeT L k) (sizeT L k)) (sizeT L k) ((tab (sizeT L k) (parT L j)).map (Value.int .u8))) (fun i _ _ => k - (intOf i).toNat)
        case atStart => exact ⟨0, by omega, rfl, E2, hown⟩
        case round =>
          obtain ⟨j, hj, rfl, E3, own3⟩ := hrel
          clear hown E2
          by_cases hlt2 : j < k
          · have hge := sizeT_ge L k j hlt2
            obtain ⟨b, off, rfl, a2, c2, g1, s1, -, -⟩ := r.2 j hlt2
            have hb1 := World.block_lt_of_cell? w _ g1
            have g1' := cell_ext E3 g1
            have hsl := Hsm.out _ (lget_mem L j (by rw [Hl.out]; exact hlt2))
            have hpj := Hpb.out j (by rw [Hl.out]; omega)
            have hne : ∀ x, a2 = some x → 0 < (lget L j).length → x.block ≠ w.heap.size := by
              intro x hx h0
              obtain ⟨b1, o1, h1, h2⟩ := s1.2 0 h0
              rw [hx] at h1
              simp only [Option.some.injEq] at h1
              subst h1
              have := World.block_lt_of_cell? w _ h2
              simp at this ⊢
              omega
            have hcl : Calls Try.prog 62 #[.slice (some ⟨w.heap.size, 0, none⟩) (sizeT L k) (sizeT L k), .slice a2 (lget L j).length c2] wr fun e w' => e = .returned (.tuple #[]) ∧ w'.ownsRow w.heap.size 5 1 (.slice (some ⟨w.heap.size, 0, none⟩) (sizeT L k) (sizeT L k)) (sizeT L k) ((tab (sizeT L k) (parT L (j + 1))).map (Value.int .u8)) ∧ wr.grownBy w' (some w.heap.size) := by
              exact impl_xorFrame_any w.heap.size w.heap.size (sizeT L k) (sizeT L k) (parT L j) a2 c2 (lget L j) wr hsz hge hsl.2 (fun i _ => hpj i) own3 (s1.ext E3) (fun h0 x hx => hne x hx h0)
            have Hcl := Lib.hid hcl
            clear hsl hpj hne s1 own3 hcl
            go_wp2_with fail
            refine Hcl.out.mono ?_
            rintro e w4 ⟨rfl, own4, g4⟩
            have E4 := Ext.grown E3 g4 (fun q hq => by simp at hq; omega)
            go_wp2
            go_roundw
            case rel => exact ⟨j + 1, by omega, by go_num, E4, own4⟩
            case measure => simp [intOf]; omega
          · obtain rfl : j = k := by omega
            go_wp2
            go_ret
            exact ⟨_, rfl, by rw [tab_len]; exact own3, E3⟩
  · have hp : parity L = [] := if_neg hg
    have hcl := impl_groupValid_any a c n L w hn r
    rw [show gvalid L = false by simpa using hg] at hcl
    rw [hp]
    clear hg hp hl
    go_enter Try.func32, Try.ntmps32
    go_wp2_with fail
    refine hcl.mono ?_
    rintro e w1 ⟨rfl, rfl⟩
    clear hcl
    go_wp2
    go_ret
    exact ⟨_, rfl, World.ownsRow_nil _ _ _ _, Below.refl _ _⟩
theorem spec_l17Size_any (a : Option Addr) (c n : Nat) (L : List (List Int)) (w : World) (hsm : small L) (hn : n ≤ 8) (r : SS w a n L) :
    Calls Try.prog 64 #[.slice a n c] w fun e w' => e = .returned (.int .i64 (sizeT L n : Nat)) ∧ w = w' := by
  have Hl := Lib.hid r.1
  have Hsm := Lib.hid hsm
  clear hsm
  go_enter Try.func64, Try.ntmps64
  go_wp2_with fail
  go_loop [4, 3] (fun i q => ∃ k : Nat, k ≤ n ∧ i = .int .i64 k ∧ q = .int .i64 (sizeT L k : Nat)) (fun i _ => n - (intOf i).toNat)
  case atStart => exact ⟨0, by omega, rfl, rfl⟩
  case round =>
    obtain ⟨k, hk, rfl, rfl⟩ := hrel
    by_cases hlt : k < n
    · obtain ⟨b, off, rfl, a2, c2, g1, -, -, -⟩ := r.2 k hlt
      have hb := (Hsm.out _ (lget_mem L k (by rw [Hl.out]; exact hlt))).1
      have hsk := sizeT_le Hsm.out k (by rw [Hl.out]; omega)
      have hst : sizeT L (k + 1) = max (sizeT L k) ((lget L k).length + 1) := rfl
      have Hst := Lib.hid hst
      clear hst
      go_wp2
      all_goals
        go_round
        case rel => exact ⟨k + 1, by omega, by go_num, by rw [Hst.out]; first | rfl | (congr 1; omega)⟩
        case measure => simp [intOf]; omega
    · obtain rfl : k = n := by omega
      go_wp2
      go_ret
      exact ⟨rfl, rfl⟩

theorem tab_fr (s : List Int) : (s.length : Int) :: s = tab (s.length + 1) (fr s) := by
  apply List.ext_getElem
  · simp [tab]
  · intro j h1 h2
    simp [tab]
    cases j with
    | zero => simp [fr]
    | succ j => simp at h1; simp [fr, nth, h1]
theorem tab_snoc (n : Nat) (f : Nat → Int) : tab (n + 1) f = tab n f ++ [f n] := by simp [tab, List.range_succ]
theorem one_u8 (xs : List Int) : ∀ u ∈ xs.map (Value.int .u8), u.oneCell' = true := by
  intro u hu
  obtain ⟨z, -, rfl⟩ := List.mem_map.1 hu
  rfl
theorem spec_l17Frame_any (a : Option Addr) (c size : Nat) (s : List Int) (w : World) (hs : s.length ≤ 255) (hsz : s.length + 1 ≤ size) (hsz2 : size ≤ 256) (r : Sl w a s.length (s.map (Value.int .u8))) :
    Calls Try.prog 65 #[.slice a s.length c, .int .i64 size] w fun e w' => ∃ v, e = .returned v ∧ w'.ownsRow w.heap.size 5 1 v size ((tab size (fr s)).map (Value.int .u8)) ∧ Ext w w' := by
  obtain ⟨n, hn⟩ : ∃ n, n = s.length := ⟨_, rfl⟩
  have htf := tab_fr s
  rw [← hn] at r hsz hs htf ⊢
  have hfn : IntKind.u8.wrap (n : Int) = (n : Int) := by rw [wrap_u8]; omega
  have hown := World.ownsRow_lit (base := w.heap.size) (e := 5) (size := 1) w #[.int .u8 n] 1 (Nat.le_refl _) (by unfold maxLen; omega) rfl
  have e0 := Ext.alloc w (.cells #[.int .u8 n] 5)
  have r0 := r.ext e0
  have Hn := Lib.hid hn
  have Htf := Lib.hid htf
  clear hn htf
  go_enter Try.func65, Try.ntmps65
  go_wp2_with (at_builtin; refine wpList_apps _ hown e0.size rfl _ _ 22 rfl (.int .u8 0) 1 Try.underlying22 info_uint8 rfl rfl a n c _ rfl r0 (one_u8 s) (by omega) (by omega) ?_; intro v1 w1 own1 gr1)
  have E1 : Ext w w1 := Ext.grown e0 gr1 (owns_ge hown)
  rw [show (#[Value.int .u8 (n : Int)] : Array Value).toList ++ s.map (Value.int .u8) = ((n : Int) :: s).map (Value.int .u8) from by simp, Htf.out, Nat.add_comm 1 n] at own1
  clear hown e0 r0 r gr1 hfn Htf
  go_loopw [5] (fun v wr => ∃ q : Nat, n + 1 ≤ q ∧ q ≤ size ∧ Ext w wr ∧ wr.ownsRow w.heap.size 5 1 v q ((tab q (fr s)).map (Value.int .u8))) (fun v _ => match v with | .slice _ q _ => size - q | _ => 0)
  case atStart => exact ⟨n + 1, by omega, by omega, E1, own1⟩
  case round =>
    obtain ⟨q, hq, hq2, E2, own2⟩ := hrel
    clear own1 E1
    obtain ⟨a5, c5, rfl⟩ := owns_form own2
    have hcap := owns_cap own2
    unfold maxLen at hcap
    obtain ⟨hc1, hc2⟩ := hcap
    by_cases hlt : q < size
    · have hsz2 := E2.size
      go_wp2_with (at_builtin; refine wpList_app _ own2 hsz2 _ rfl _ _ 22 rfl (.int .u8 0) 1 Try.underlying22 info_uint8 rfl rfl rfl rfl (by omega) (by omega) ?_; intro v2 w2 own4 gr2 _)
      have own5 : w2.ownsRow w.heap.size 5 1 v2 (q + 1) ((tab (q + 1) (fr s)).map (Value.int .u8)) := by
        rw [tab_snoc, fr_past (by rw [← Hn.out]; omega)]
        simpa using own4
      have E3 := Ext.grown E2 gr2 (owns_ge own2)
      clear own4 own2 E2 gr2
      obtain ⟨a6, c6, rfl⟩ := owns_form own5
      go_wp2
      go_roundw
      case rel => exact ⟨q + 1, by omega, by omega, E3, own5⟩
      case measure => simp; omega
    · obtain rfl : q = size := by omega
      go_wp2
      go_ret
      exact ⟨_, rfl, own2, E2⟩
set_option maxRecDepth 100000 in
set_option maxHeartbeats 1000000 in
theorem spec_ParityOf_any (a : Option Addr) (c n : Nat) (L : List (List Int)) (w : World) (hn : n ≤ 9223372036854775807) (hL : ∀ s ∈ L, ∀ z ∈ s, byt z) (r : SS w a n L) :
    Calls Try.prog 33 #[.slice a n c] w fun e w' => ∃ v, e = .returned v ∧ w'.ownsRow w.heap.size 5 1 v (parity L).length ((parity L).map (Value.int .u8)) ∧ Ext w w' := by
  have hl := r.1
  have hcl := spec_l17Ok_any a c n L w hn r
  by_cases hg : gvalid L = true
  · have hsm : small L := fun s hs => ⟨(gvalid_iff.1 hg).2.2 s hs, hL s hs⟩
    have hn8 : n ≤ 8 := by have := (gvalid_iff.1 hg).2.1; omega
    have hp : parity L = tab (sizeT L n) (parT L n) := by rw [← hl]; exact if_pos hg
    have hsz := sizeT_le hsm n (by omega)
    have hpb := parT_byt hsm
    have hzl := spec_l17Size_any a c n L w hsm hn8 r
    rw [hg] at hcl
    rw [hp]
    have Hl := Lib.hid hl
    have Hsm := Lib.hid hsm
    have Hpb := Lib.hid hpb
    clear hl hg hp hsm hpb hL
    go_enter Try.func33, Try.ntmps33
    go_wp2_with fail
    refine hcl.mono ?_
    rintro e w1 ⟨rfl, rfl⟩
    clear hcl
    go_wp2_with fail
    refine hzl.mono ?_
    rintro e w1 ⟨rfl, rfl⟩
    clear hzl
    obtain ⟨m, hm⟩ : ∃ m, m = sizeT L n := ⟨_, rfl⟩
    rw [← hm] at hsz ⊢
    have Hm := Lib.hid hm
    clear hm
    go_wp2_with (at_make; refine wpList_mk _ rfl _ _ 22 rfl 5 (.int .u8 0) 1 Try.underlying22 info_uint8 rfl _ m rfl rfl rfl (by omega) (by omega) ?_; intro w2 hown hgrow)
    have E2 : Ext w w2 := Ext.grown (Below.refl _ _) hgrow (by simp)
    rw [show List.replicate m (Value.int .u8 0) = (tab m (parT L 0)).map (Value.int .u8) from by rw [← List.map_replicate, tab_zero]; rfl] at hown
    clear hgrow
    obtain ⟨g, hgg⟩ : ∃ g, g = w.heap.size := ⟨_, rfl⟩
    rw [← hgg] at hown ⊢
    have Hg := Lib.hid hgg
    clear hgg
    go_loopw [4] (fun i wr => ∃ j : Nat, j ≤ n ∧ i = .int .i64 j ∧ Ext w wr ∧ g < wr.heap.size ∧ wr.ownsRow g 5 1 (.slice (some ⟨g, 0, none⟩) m m) m ((tab m (parT L j)).map (Value.int .u8))) (fun i _ => n - (intOf i).toNat)
    case atStart => exact ⟨0, by omega, rfl, E2, (hown.lt g rfl).2, hown⟩
    case round =>
      obtain ⟨k, hk, rfl, E3, hgw, own3⟩ := hrel
      clear hown E2
      by_cases hlt : k < n
      · have hge := sizeT_ge L n k hlt
        rw [← Hm.out] at hge
        obtain ⟨b, off, rfl, a2, c2, g1, s1, -, -⟩ := r.2 k hlt
        have g1' := cell_ext E3 g1
        have hsl := Hsm.out _ (lget_mem L k (by rw [Hl.out]; exact hlt))
        have hcf := spec_l17Frame_any a2 c2 m (lget L k) wr hsl.1 hge hsz (s1.ext E3)
        have hfb := fr_byt hsl.2 hsl.1
        have Hfb := Lib.hid hfb
        clear hsl hfb s1
        go_wp2_with fail
        refine hcf.mono ?_
        rintro e w4 ⟨v4, rfl, own4, e4⟩
        obtain ⟨a4, c4, rfl⟩ := owns_form own4
        have f4 := Sl.of_owns own4
        have o4 := owns_ext own3 e4
        have E4 := E3.trans e4
        have hne4 : ∀ x, a4 = some x → x.block ≠ g := fun x hx => by
          have := owns_ge own4 x.block (by rw [hx]; rfl)
          omega
        have hgw4 : g < w4.heap.size := Nat.lt_of_lt_of_le hgw e4.size
        have Hne := Lib.hid hne4
        clear hcf own3 own4 e4 E3 hne4 g1 g1' hgw
        go_wp2_with fail
        go_loopw [6] (fun i wr => ∃ j : Nat, j ≤ m ∧ i = .int .i64 j ∧ Ext w wr ∧ g < wr.heap.size ∧ Sl wr a4 m ((tab m (fr (lget L k))).map (Value.int .u8)) ∧ wr.ownsRow g 5 1 (.slice (some ⟨g, 0, none⟩) m m) m ((tab m fun i => if i < j then parT L (k + 1) i else parT L k i).map (Value.int .u8))) (fun i _ => m - (intOf i).toNat)
        case atStart => exact ⟨0, by omega, rfl, E4, hgw4, f4, by rw [tab_congr (g := parT L k) (fun i _ => by simp)]; exact o4⟩
        case round =>
          obtain ⟨j, hj, rfl, E5, hgw5, f5, o5⟩ := hrel
          clear o4 f4 E4 hgw4
          by_cases hlt2 : j < m
          · obtain ⟨b6, of6, rfl, c6⟩ := f5.int hlt2
            rw [nth_tab _ _ _ hlt2] at c6
            obtain ⟨b7, of7, h7, c7⟩ := (Sl.of_owns o5).int hlt2
            simp only [Option.some.injEq, Addr.mk.injEq, and_true] at h7
            obtain ⟨rfl, rfl⟩ := h7
            rw [nth_tab _ _ _ hlt2, if_neg (by omega), Nat.zero_add] at c7
            have f0 := o5.frozenAt j
            have hne := Hne.out _ rfl
            simp at hne
            have hstep : parT L (k + 1) j = bits .xor .u8 (parT L k j) (fr (lget L k) j) := rfl
            have Hst := Lib.hid hstep
            have Hrel := Lib.hid (show ∀ wz : World, (∃ q, wz = wr.drewN q) → Ext w (wz.setCell ⟨g, j, none⟩ (.int .u8 (bits .xor .u8 (parT L k j) (fr (lget L k) j)))) ∧ g < (wz.setCell ⟨g, j, none⟩ (.int .u8 (bits .xor .u8 (parT L k j) (fr (lget L k) j)))).heap.size ∧ Sl (wz.setCell ⟨g, j, none⟩ (.int .u8 (bits .xor .u8 (parT L k j) (fr (lget L k) j)))) (some ⟨b6, of6, none⟩) m ((tab m (fr (lget L k))).map (Value.int .u8)) ∧ (wz.setCell ⟨g, j, none⟩ (.int .u8 (bits .xor .u8 (parT L k j) (fr (lget L k) j)))).ownsRow g 5 1 (.slice (some ⟨g, 0, none⟩) m m) m ((tab m fun i => if i < j + 1 then parT L (k + 1) i else parT L k i).map (Value.int .u8)) from by
              rintro wz ⟨q, rfl⟩
              have o6 := owns_drewN o5 q
              obtain ⟨o7, gr7⟩ := o6.stored j (.int .u8 (bits .xor .u8 (parT L k j) (fr (lget L k) j)))
              refine ⟨Ext.grown (below_drewN E5 q) gr7 (by simp; exact Nat.le_of_eq Hg.out.symm), by simpa using hgw5, (f5.drewN q).grown gr7 (fun x hx => by simp at hx; subst hx; simp; omega), ?_⟩
              rw [← List.map_set, tab_set, tab_congr (g := fun i => if i < j + 1 then parT L (k + 1) i else parT L k i) (fun i hi => by
                by_cases hij : i = j
                · subst hij; rw [if_pos rfl, if_pos (by omega)]; exact Hst.out.symm
                · rw [if_neg hij]
                  by_cases hij2 : i < j
                  · rw [if_pos hij2, if_pos (by omega)]
                  · rw [if_neg hij2, if_neg (by omega)])] at o7
              exact o7)
            clear hstep E5 f5 o5 hgw5
            go_wp2
            go_still_tail 12, (by kernel_rfl)
            change wpList _ _ _ _ _ wr.drew
            go_wp2
            obtain ⟨e9, hs9, f9, o9⟩ := Hrel.out wr.drew ⟨1, rfl⟩
            go_roundw
            case rel => exact ⟨j + 1, by omega, by go_num, e9, hs9, f9, o9⟩
            case measure => simp [intOf]; omega
          · obtain rfl : j = m := by omega
            rw [tab_congr (g := parT L (k + 1)) (fun i hi => if_pos hi)] at o5
            go_wp2
            go_roundw
            case rel => exact ⟨k + 1, by omega, by go_num, E5, hgw5, o5⟩
            case measure => simp [intOf]; omega
      · obtain rfl : k = n := by omega
        go_wp2
        go_ret
        refine ⟨_, rfl, ?_, E3⟩
        rw [tab_len, ← Hm.out, ← Hg.out]
        exact own3
  · have hp : parity L = [] := if_neg hg
    rw [show gvalid L = false by simpa using hg] at hcl
    rw [hp]
    clear hg hp hl
    have hown := World.ownsRow_made (base := w.heap.size) (e := 5) (size := 1) w #[] 0 (Nat.le_refl _) (by simp) rfl
    have E1 : Ext w (w.alloc (.cells #[] 5)) := (Below.refl _ _).alloc (Nat.le_refl _) _
    go_enter Try.func33, Try.ntmps33
    go_wp2_with fail
    refine hcl.mono ?_
    rintro e w1 ⟨rfl, rfl⟩
    clear hcl
    go_wp2
    go_ret
    exact ⟨_, rfl, hown, E1⟩
end Go.Proofs.Ytmcdlkbofhdnlaa
