/- RecoverString: contracts. -/
import Derived.Test.YtmcdlkbofhdnlaaP1
namespace Go.Proofs.Ytmcdlkbofhdnlaa
open Go.RowKit
set_option maxHeartbeats 400000

/-- The parity string with the first t frames but one. -/
def recT (L : List (List Int)) (lost : Int) (P : List Int) : Nat → Nat → Int
  | 0, i => nth P i
  | t + 1, i => if (t : Int) = lost then recT L lost P t i else bx (recT L lost P t i) (fr (lget L t) i)
def fits (L : List (List Int)) (lost : Int) (m t : Nat) : Prop := ∀ k, k < t → (k : Int) ≠ lost → (lget L k).length + 1 ≤ m
def recOk (L : List (List Int)) (lost : Int) (P : List Int) : Prop := gvalid L = true ∧ 0 ≤ lost ∧ lost < (L.length : Int) ∧ 1 ≤ P.length ∧ P.length ≤ 256
/-- The result has the form of a frame. -/
def framed (F : Nat → Int) (m : Nat) : Prop := (F 0).toNat + 1 ≤ m ∧ ∀ i, (F 0).toNat + 1 ≤ i → i < m → F i = 0
open Classical in
noncomputable def recv (L : List (List Int)) (lost : Int) (P : List Int) : List Int × Bool :=
  if recOk L lost P ∧ fits L lost P.length L.length ∧ framed (recT L lost P L.length) P.length then (tab (recT L lost P L.length 0).toNat fun i => recT L lost P L.length (i + 1), true) else ([], false)
theorem recv_no {L : List (List Int)} {lost : Int} {P : List Int} (h : ¬ (recOk L lost P ∧ fits L lost P.length L.length ∧ framed (recT L lost P L.length) P.length)) : recv L lost P = ([], false) := by
  unfold recv; rw [if_neg h]
theorem recv_yes {L : List (List Int)} {lost : Int} {P : List Int} (h1 : recOk L lost P) (h2 : fits L lost P.length L.length) (h3 : framed (recT L lost P L.length) P.length) : recv L lost P = (tab (recT L lost P L.length 0).toNat fun i => recT L lost P L.length (i + 1), true) := by
  unfold recv; rw [if_pos ⟨h1, h2, h3⟩]
theorem recT_byt {L : List (List Int)} {lost : Int} {P : List Int} (h : small L) (hP : ∀ z ∈ P, byt z) : ∀ t, t ≤ L.length → ∀ i, byt (recT L lost P t i)
  | 0, _, i => nth_byt hP i
  | t + 1, ht, i => by
    simp only [recT]
    split
    · exact recT_byt h hP t (by omega) i
    · exact bx_byt (recT_byt h hP t (by omega) i) (fr_byt (h _ (lget_mem L t (by omega))).2 (h _ (lget_mem L t (by omega))).1 i)
theorem recT_skip {L : List (List Int)} {lost : Int} {P : List Int} {t : Nat} (h : (t : Int) = lost) : recT L lost P (t + 1) = recT L lost P t := by
  funext i; simp [recT, h]
theorem recT_take {L : List (List Int)} {lost : Int} {P : List Int} {t : Nat} (h : (t : Int) ≠ lost) : recT L lost P (t + 1) = fun i => bx (recT L lost P t i) (fr (lget L t) i) := by
  funext i; simp [recT, h]
theorem tab_nth (P : List Int) : P = tab P.length (fun i => nth P i) := by
  apply List.ext_getElem
  · simp [tab]
  · intro j h1 h2; simp [tab, nth, h1]
theorem own_some {w : World} {base e n : Nat} {v : Value} {xs : List Value} (h : w.ownsRow base e 1 v n xs) (hn : 0 < n) : ∃ g cap, v = .slice (some ⟨g, 0, none⟩) n cap ∧ base ≤ g ∧ g < w.heap.size := by
  rcases id h.2 with ⟨-, h0⟩ | ⟨g, cap, cur, rfl, hg, h1, -⟩
  · omega
  · exact ⟨g, cap, rfl, hg, lt_of_block h1⟩

/-- What a recovery returns. -/
def RecR (w : World) (x : List Int × Bool) (e : Ending) (w' : World) : Prop :=
  ∃ v, e = .returned (.tuple #[v, .bool x.2]) ∧ w'.ownsRow w.heap.size 5 1 v x.1.length (x.1.map (Value.int .u8)) ∧ Ext w w'

set_option maxRecDepth 100000 in
set_option maxHeartbeats 2000000 in
theorem impl_RecoverString_any (a : Option Addr) (c n : Nat) (L : List (List Int)) (lost : Int) (b : Option Addr) (d m : Nat) (P : List Int) (w : World) (hn : n ≤ 9223372036854775807) (hm : m ≤ 9223372036854775807) (hL : ∀ s ∈ L, ∀ z ∈ s, byt z) (hP : ∀ z ∈ P, byt z) (r : SS w a n L) (rp : Sl w b m (P.map (Value.int .u8))) :
    Calls Try.prog 43 #[.slice a n c, .int .i64 lost, .slice b m d] w (RecR w (recv L lost P)) := by
  have hl := r.1
  have hpl := rp.int_len
  have hcl := impl_groupValid_any a c n L w hn r
  have nilR : ¬ (recOk L lost P ∧ fits L lost P.length L.length ∧ framed (recT L lost P L.length) P.length) → RecR w (recv L lost P) (.returned (.tuple #[.slice none 0 0, .bool false])) w := fun h => by
    rw [recv_no h]; exact ⟨_, rfl, World.ownsRow_nil _ _ _ _, Below.refl _ _⟩
  have NilR := Lib.hid nilR
  clear nilR
  by_cases hg : gvalid L = true
  · rw [hg] at hcl
    have hgv := gvalid_iff.1 hg
    by_cases h1 : lost < 0
    · have H := Lib.hid (NilR.out (fun h => by have := h.1.2.1; omega))
      clear hg hgv hl hpl NilR
      go_enter Try.func43, Try.ntmps43
      go_wp2_with fail
      refine hcl.mono ?_
      rintro e w1 ⟨rfl, rfl⟩
      clear hcl
      go_wp2
      go_ret2
      exact H.out
    by_cases h2 : (n : Int) ≤ lost
    · have H := Lib.hid (NilR.out (fun h => by have := h.1.2.2.1; omega))
      clear hg hgv hl hpl NilR
      go_enter Try.func43, Try.ntmps43
      go_wp2_with fail
      refine hcl.mono ?_
      rintro e w1 ⟨rfl, rfl⟩
      clear hcl
      go_wp2
      go_ret2
      exact H.out
    by_cases h3 : m < 1
    · have H := Lib.hid (NilR.out (fun h => by have := h.1.2.2.2.1; omega))
      clear hg hgv hl hpl NilR
      go_enter Try.func43, Try.ntmps43
      go_wp2_with fail
      refine hcl.mono ?_
      rintro e w1 ⟨rfl, rfl⟩
      clear hcl
      go_wp2
      go_ret2
      exact H.out
    by_cases h4 : 256 < m
    · have H := Lib.hid (NilR.out (fun h => by have := h.1.2.2.2.2; omega))
      clear hg hgv hl hpl NilR
      go_enter Try.func43, Try.ntmps43
      go_wp2_with fail
      refine hcl.mono ?_
      rintro e w1 ⟨rfl, rfl⟩
      clear hcl
      go_wp2
      go_ret2
      exact H.out
    have hok : recOk L lost P := ⟨hg, by omega, by omega, by omega, by omega⟩
    have hsm : small L := fun s hs => ⟨hgv.2.2 s hs, hL s hs⟩
    have hpb := recT_byt (lost := lost) hsm hP
    have hPt := tab_nth P
    rw [hpl] at hPt
    have Hok := Lib.hid hok
    have Hl := Lib.hid hl
    have Hpl := Lib.hid hpl
    have Hsm := Lib.hid hsm
    have Hpb := Lib.hid hpb
    have HPt := Lib.hid hPt
    have hn8 : n ≤ 8 := by have := hgv.2.1; omega
    clear hg hgv hok hsm hpb hPt hl hpl NilR hL hP
    go_enter Try.func43, Try.ntmps43
    go_wp2_with fail
    refine hcl.mono ?_
    rintro e w1 ⟨rfl, rfl⟩
    clear hcl
    go_wp2_with (at_builtin; refine wpList_apps _ (World.ownsRow_nil w w.heap.size 5 1) (Nat.le_refl _) rfl _ _ 22 rfl (.int .u8 0) 1 Try.underlying22 info_uint8 rfl rfl b m d _ rfl rp (one_u8 P) (by omega) (by omega) ?_; intro v1 w1 own1 gr1)
    rw [Nat.zero_add, List.nil_append, HPt.out] at own1
    have E1 : Ext w w1 := Ext.grown (Below.refl _ _) gr1 (fun k hk => by simp [Value.ownBlock] at hk)
    obtain ⟨g, cap, rfl, hgw, hgs⟩ := own_some own1 (by omega)
    have hcap := owns_cap own1
    unfold maxLen at hcap
    obtain ⟨hcap1, hcap2⟩ := hcap
    have own1' : w1.ownsRow w.heap.size 5 1 (.slice (some ⟨g, 0, none⟩) m cap) m ((tab m (recT L lost P 0)).map (Value.int .u8)) := own1
    clear own1 gr1 rp HPt
    go_loopw [41, 9, 10] (fun i _ _ wr => ∃ k : Nat, k ≤ n ∧ i = .int .i64 k ∧ Ext w wr ∧ wr.ownsRow w.heap.size 5 1 (.slice (some ⟨g, 0, none⟩) m cap) m ((tab m (recT L lost P k)).map (Value.int .u8)) ∧ Hid (fits L lost m k)) (fun i _ _ _ => n - (intOf i).toNat)
    case atStart => exact ⟨0, by omega, rfl, E1, own1', Lib.hid (fun k hk => by omega)⟩
    case round =>
      obtain ⟨k, hk, rfl, E2, own2, hfit⟩ := hrel
      clear own1' E1
      by_cases hlt : k < n
      · obtain ⟨b1, off, rfl, a2, c2, g1, s1, g3, g4⟩ := r.2 k hlt
        unfold maxLen at g4
        have hb1 := World.block_lt_of_cell? w _ g1
        have g1' := cell_ext E2 g1
        by_cases hkl : (k : Int) = lost
        · have hb : ((k : Int) == lost) = true := by simp; omega
          rw [← recT_skip hkl] at own2
          have hfit2 : Hid (fits L lost m (k + 1)) := Lib.hid (fun j hj hne => hfit.out j (by
            have : j ≠ k := fun h => hne (by rw [h]; exact hkl)
            omega) hne)
          clear hkl s1 hfit g1
          go_wp2
          go_roundw
          case rel => exact ⟨k + 1, by omega, by go_num, E2, own2, hfit2⟩
          case measure => simp [intOf]; omega
        · have hb : ((k : Int) == lost) = false := by simp; omega
          by_cases hsh : m < (lget L k).length + 1
          · have H : Hid (recv L lost P = ([], false)) := Lib.hid (recv_no (fun h => by
              have h5 := h.2.1 k (by rw [Hl.out]; exact hlt) hkl
              rw [Hpl.out] at h5
              omega))
            have hlb : (lget L k).length ≤ 255 := (Hsm.out _ (lget_mem L k (by rw [Hl.out]; exact hlt))).1
            clear hkl s1 hfit g1
            go_wp2
            go_ret2
            show RecR w (recv L lost P) _ _
            rw [H.out]
            exact ⟨_, rfl, World.ownsRow_nil _ _ _ _, E2⟩
          · have hsl := Hsm.out _ (lget_mem L k (by rw [Hl.out]; exact hlt))
            have hpj := Hpb.out k (by rw [Hl.out]; omega)
            have hfit2 : Hid (fits L lost m (k + 1)) := Lib.hid (fun j hj hne => by
              by_cases hjk : j = k
              · subst hjk; omega
              · exact hfit.out j (by omega) hne)
            have hne : 0 < (lget L k).length → ∀ x, a2 = some x → x.block ≠ g := by
              intro h0 x hx
              obtain ⟨b1, o1, h1, h2⟩ := s1.2 0 h0
              rw [hx] at h1
              simp only [Option.some.injEq] at h1
              subst h1
              have := World.block_lt_of_cell? w _ h2
              simp at this ⊢
              omega
            have hcl := impl_xorFrame_any w.heap.size g cap m (recT L lost P k) a2 c2 (lget L k) wr (by omega) (by omega) hsl.2 (fun i _ => hpj i) own2 (s1.ext E2) hne
            rw [← recT_take hkl] at hcl
            have Hcl := Lib.hid hcl
            clear hsl hpj hne s1 own2 hcl hkl hfit g1
            go_wp2_with fail
            refine Hcl.out.mono ?_
            rintro e w4 ⟨rfl, own4, g4'⟩
            have E4 := Ext.grown E2 g4' (fun q hq => by simp at hq; omega)
            clear Hcl g4' E2
            go_wp2
            go_roundw
            case rel => exact ⟨k + 1, by omega, by go_num, E4, own4, hfit2⟩
            case measure => simp [intOf]; omega
      · obtain rfl : k = n := by omega
        have hF : ∀ i, byt (recT L lost P k i) := Hpb.out k (by rw [Hl.out]; omega)
        have hrv : ∀ F : Nat → Int, F = recT L lost P k → ¬ framed F m → recv L lost P = ([], false) := fun F hF h => recv_no (fun h2 => h (by
          have := h2.2.2
          rw [Hl.out, Hpl.out, ← hF] at this
          exact this))
        have hry : ∀ F : Nat → Int, F = recT L lost P k → framed F m → recv L lost P = (tab (F 0).toNat fun i => F (i + 1), true) := fun F hF h => by
          have := recv_yes Hok.out (by rw [Hpl.out, Hl.out]; exact hfit.out) (by rw [Hpl.out, Hl.out, ← hF]; exact h)
          rw [this, Hl.out, ← hF]
        obtain ⟨F, hFe⟩ : ∃ F, F = recT L lost P k := ⟨_, rfl⟩
        rw [← hFe] at own2 hF
        have Hrv := Lib.hid (hrv F hFe)
        have Hry := Lib.hid (hry F hFe)
        have s2 := Sl.of_owns own2
        obtain ⟨b0, o0, h0, c0⟩ := s2.int (show 0 < m by omega)
        simp only [Option.some.injEq, Addr.mk.injEq, and_true] at h0
        obtain ⟨rfl, rfl⟩ := h0
        rw [nth_tab _ _ _ (by omega)] at c0
        have hb0 := hF 0
        obtain ⟨q, hq⟩ := Int.eq_ofNat_of_zero_le hb0.1
        rw [hq] at c0
        have hq255 : q ≤ 255 := by have := hb0.2; omega
        have Hq := Lib.hid hq
        have HF := Lib.hid hF
        clear hrv hry hFe hb0 hq hF hfit
        by_cases hql : m ≤ q
        · have H : Hid (recv L lost P = ([], false)) := Lib.hid (Hrv.out (fun h => by
            have := h.1
            rw [Hq.out] at this
            simp at this
            omega))
          go_wp2
          go_ret2
          show RecR w (recv L lost P) _ _
          rw [H.out]
          exact ⟨_, rfl, World.ownsRow_nil _ _ _ _, E2⟩
        · skip
          · have src : Sl wr (some ⟨g, 1, none⟩) q ((tab q fun i => F (i + 1)).map (Value.int .u8)) := by
              refine ⟨by simp [tab_len], fun i hi => ?_⟩
              obtain ⟨b9, o9, h9, c9⟩ := s2.int (show 1 + i < m by omega)
              simp only [Option.some.injEq, Addr.mk.injEq, and_true] at h9
              obtain ⟨rfl, rfl⟩ := h9
              refine ⟨g, 1, rfl, ?_⟩
              rw [Nat.zero_add, nth_tab _ _ _ (by omega)] at c9
              rw [c9, getD_map_int _ _ _ (by rw [tab_len]; exact hi), nth_tab _ _ _ hi, Nat.add_comm 1 i]
            have Src := Lib.hid (show Sl wr (some ⟨g, 1, none⟩) (1 + q - 1) ((tab q fun i => F (i + 1)).map (Value.int .u8)) from by rw [show 1 + q - 1 = q by omega]; exact src)
            clear src
            by_cases hc1 : cap = 1 + q
            · have hm1 : m = 1 + q := by omega
              have H : Hid (recv L lost P = (tab q fun i => F (i + 1), true)) := by
                have := Hry.out ⟨by rw [Hq.out]; simp; omega, fun i h5 h6 => by rw [Hq.out] at h5; simp at h5; omega⟩
                rw [Hq.out] at this
                exact Lib.hid (by simpa using this)
              go_wp2_with fail
              simp only [Nat.sub_self]
              go_loopw [72, 13] (fun i _ wz => i = .int .i64 0 ∧ wz = wr) (fun _ _ _ => 0)
              case atStart => exact ⟨rfl, rfl⟩
              case round =>
                obtain ⟨rfl, rfl⟩ := hrel
                by_cases hq0 : q = 0
                · have hus : (tab q fun i => F (i + 1)) = [] := by rw [hq0]; rfl
                  have Hus := Lib.hid hus
                  have nilS : ∀ A : Option Addr, Sl wr A q ((tab q fun i => F (i + 1)).map (Value.int .u8)) := fun A => by rw [hus, hq0]; exact Sl.nil _ _
                  have NilS := Lib.hid nilS
                  clear hus nilS
                  subst hq0
                  clear Src
                  go_wp2
                  go_ret2
                  show RecR w (recv L lost P) _ _
                  rw [H.out]
                  exact ⟨_, rfl, World.ownsRow_nil _ _ _ _, E2⟩
                · have hc2 : ¬ cap = 1 := by omega
                  go_wp2_with (at_builtin; refine wpList_apps _ (World.ownsRow_nil wr w.heap.size 5 1) E2.size rfl _ _ 22 rfl (.int .u8 0) 1 Try.underlying22 info_uint8 rfl rfl (some ⟨g, 1, none⟩) (1 + q - 1) _ _ rfl Src.out (one_u8 _) (by omega) (by omega) ?_; intro v9 w9 own9 gr9)
                  have E9 : Ext w w9 := Ext.grown E2 gr9 (fun k hk => by simp [Value.ownBlock] at hk)
                  go_wp2
                  go_ret2
                  show RecR w (recv L lost P) _ _
                  rw [H.out]
                  exact ⟨_, rfl, by rw [tab_len]; simpa using own9, E9⟩
            · have hc2 : ¬ cap = 1 := by omega
              go_wp2_with fail
              go_loopw [72, 13] (fun i _ wz => ∃ t : Nat, t ≤ m - (1 + q) ∧ i = .int .i64 t ∧ wz = wr ∧ Hid (∀ j, j < t → F (1 + q + j) = 0)) (fun i _ _ => m - (1 + q) - (intOf i).toNat)
              case atStart => exact ⟨0, by omega, rfl, rfl, Lib.hid (fun j hj => by omega)⟩
              case round =>
                obtain ⟨t, ht, rfl, rfl, hz⟩ := hrel
                by_cases hlt2 : t < m - (1 + q)
                · obtain ⟨b9, o9, h9, c9⟩ := s2.int (show 1 + q + t < m by omega)
                  simp only [Option.some.injEq, Addr.mk.injEq, and_true] at h9
                  obtain ⟨rfl, rfl⟩ := h9
                  rw [Nat.zero_add, nth_tab _ _ _ (by omega)] at c9
                  by_cases hz0 : F (1 + q + t) = 0
                  · rw [hz0] at c9
                    have hz2 : Hid (∀ j, j < t + 1 → F (1 + q + j) = 0) := Lib.hid (fun j hj => by
                      by_cases hjt : j = t
                      · subst hjt; exact hz0
                      · exact hz.out j (by omega))
                    clear hz hz0
                    go_wp2
                    go_roundw
                    case rel => exact ⟨t + 1, by omega, by go_num, trivial, hz2⟩
                    case measure => simp [intOf]; omega
                  · have H : Hid (recv L lost P = ([], false)) := Lib.hid (Hrv.out (fun h => hz0 (h.2 (1 + q + t) (by rw [Hq.out]; simp; omega) (by omega))))
                    have hb : (F (1 + q + t) != 0) = true := by simp; exact hz0
                    clear hz0
                    go_wp2
                    go_ret2
                    show RecR w (recv L lost P) _ _
                    rw [H.out]
                    exact ⟨_, rfl, World.ownsRow_nil _ _ _ _, E2⟩
                · have H : Hid (recv L lost P = (tab q fun i => F (i + 1), true)) := by
                    have := Hry.out ⟨by rw [Hq.out]; simp; omega, fun i h5 h6 => by
                      rw [Hq.out] at h5
                      simp at h5
                      have h7 := hz.out (i - (1 + q)) (by omega)
                      rwa [show 1 + q + (i - (1 + q)) = i by omega] at h7⟩
                    rw [Hq.out] at this
                    exact Lib.hid (by simpa using this)
                  go_wp2_with (at_builtin; refine wpList_apps _ (World.ownsRow_nil wr w.heap.size 5 1) E2.size rfl _ _ 22 rfl (.int .u8 0) 1 Try.underlying22 info_uint8 rfl rfl (some ⟨g, 1, none⟩) (1 + q - 1) _ _ rfl Src.out (one_u8 _) (by omega) (by omega) ?_; intro v9 w9 own9 gr9)
                  have E9 : Ext w w9 := Ext.grown E2 gr9 (fun k hk => by simp [Value.ownBlock] at hk)
                  go_wp2
                  go_ret2
                  show RecR w (recv L lost P) _ _
                  rw [H.out]
                  exact ⟨_, rfl, by rw [tab_len]; simpa using own9, E9⟩
  · rw [show gvalid L = false by simpa using hg] at hcl
    have H := Lib.hid (NilR.out (fun h => hg h.1.1))
    clear hg hl hpl NilR
    go_enter Try.func43, Try.ntmps43
    go_wp2_with fail
    refine hcl.mono ?_
    rintro e w1 ⟨rfl, rfl⟩
    clear hcl
    go_wp2
    go_ret2
    exact H.out
set_option maxRecDepth 100000 in
set_option maxHeartbeats 4000000 in
theorem spec_RecoverString_any (a : Option Addr) (c n : Nat) (L : List (List Int)) (lost : Int) (b : Option Addr) (d m : Nat) (P : List Int) (w : World) (hn : n ≤ 9223372036854775807) (hm : m ≤ 9223372036854775807) (hlw : -9223372036854775808 ≤ lost) (hL : ∀ s ∈ L, ∀ z ∈ s, byt z) (hP : ∀ z ∈ P, byt z) (r : SS w a n L) (rp : Sl w b m (P.map (Value.int .u8))) :
    Calls Try.prog 41 #[.slice a n c, .int .i64 lost, .slice b m d] w (RecR w (recv L lost P)) := by
  have hl := r.1
  have hpl := rp.int_len
  have hcl := spec_l17Ok_any a c n L w hn r
  have hown0 := World.ownsRow_made (base := w.heap.size) (e := 5) (size := 1) w #[] 0 (Nat.le_refl _) (by simp) rfl
  have e0 := Ext.alloc w (.cells #[] 5)
  have nilR : ¬ (recOk L lost P ∧ fits L lost P.length L.length ∧ framed (recT L lost P L.length) P.length) → RecR w (recv L lost P) (.returned (.tuple #[.slice (some ⟨w.heap.size, 0, none⟩) 0 0, .bool false])) (w.alloc (.cells #[] 5)) := fun h => by
    rw [recv_no h]; exact ⟨_, rfl, hown0, e0⟩
  have NilR := Lib.hid nilR
  clear nilR
  by_cases hg : gvalid L = true
  · rw [hg] at hcl
    have hgv := gvalid_iff.1 hg
    have hn8 : n ≤ 8 := by have := hgv.2.1; omega
    by_cases h1 : lost < 0 ∨ (n : Int) ≤ lost
    · have H := Lib.hid (NilR.out (fun h => by have := h.1.2.1; have := h.1.2.2.1; omega))
      clear hg hgv hl hpl NilR
      go_enter Try.func41, Try.ntmps41
      go_wp2_with fail
      refine hcl.mono ?_
      rintro e w1 ⟨rfl, rfl⟩
      clear hcl
      go_wp2_with fail
      refine (l1In_no _ _ _ _ (by omega)).mono ?_
      rintro e w1 ⟨rfl, rfl⟩
      go_wp2
      go_ret2
      exact H.out
    by_cases h3 : m < 1 ∨ 256 < m
    · have H := Lib.hid (NilR.out (fun h => by have := h.1.2.2.2.1; have := h.1.2.2.2.2; omega))
      clear hg hgv hl hpl NilR
      go_enter Try.func41, Try.ntmps41
      go_wp2_with fail
      refine hcl.mono ?_
      rintro e w1 ⟨rfl, rfl⟩
      clear hcl
      go_wp2_with fail
      refine (l1In_yes _ _ _ _ (by omega) (by omega)).mono ?_
      rintro e w1 ⟨rfl, rfl⟩
      go_wp2_with fail
      refine (l1In_no _ _ _ _ (by omega)).mono ?_
      rintro e w1 ⟨rfl, rfl⟩
      go_wp2
      go_ret2
      exact H.out
    have hok : recOk L lost P := ⟨hg, by omega, by omega, by omega, by omega⟩
    have hsm : small L := fun s hs => ⟨hgv.2.2 s hs, hL s hs⟩
    have hpb := recT_byt (lost := lost) hsm hP
    have hPt := tab_nth P
    rw [hpl] at hPt
    have Hok := Lib.hid hok
    have Hl := Lib.hid hl
    have Hpl := Lib.hid hpl
    have Hsm := Lib.hid hsm
    have Hpb := Lib.hid hpb
    have HPt := Lib.hid hPt
    have rp0 := rp.ext e0
    clear hg hgv hok hsm hpb hPt hl hpl NilR hL hP
    go_enter Try.func41, Try.ntmps41
    go_wp2_with fail
    refine hcl.mono ?_
    rintro e w1 ⟨rfl, rfl⟩
    clear hcl
    go_wp2_with fail
    refine (l1In_yes _ _ _ _ (by omega) (by omega)).mono ?_
    rintro e w1 ⟨rfl, rfl⟩
    go_wp2_with fail
    refine (l1In_yes _ _ _ _ (by omega) (by omega)).mono ?_
    rintro e w1 ⟨rfl, rfl⟩
    go_wp2_with (at_builtin; refine wpList_apps _ hown0 e0.size rfl _ _ 22 rfl (.int .u8 0) 1 Try.underlying22 info_uint8 rfl rfl b m d _ rfl rp0 (one_u8 P) (by omega) (by omega) ?_; intro v1 w1 own1 gr1)
    rw [Nat.zero_add, List.nil_append, HPt.out] at own1
    have E1 : Ext w w1 := Ext.grown e0 gr1 (owns_ge hown0)
    obtain ⟨g, cap, rfl, hgw, hgs⟩ := own_some own1 (by omega)
    have hcap := owns_cap own1
    unfold maxLen at hcap
    obtain ⟨hcap1, hcap2⟩ := hcap
    have own1' : w1.ownsRow w.heap.size 5 1 (.slice (some ⟨g, 0, none⟩) m cap) m ((tab m (recT L lost P 0)).map (Value.int .u8)) := own1
    clear own1 gr1 rp rp0 HPt hown0 e0
    go_loopw [9] (fun i wr => ∃ k : Nat, k ≤ n ∧ i = .int .i64 k ∧ Ext w wr ∧ g < wr.heap.size ∧ wr.ownsRow w.heap.size 5 1 (.slice (some ⟨g, 0, none⟩) m cap) m ((tab m (recT L lost P k)).map (Value.int .u8)) ∧ Hid (fits L lost m k)) (fun i _ => n - (intOf i).toNat)
    case atStart => exact ⟨0, by omega, rfl, E1, hgs, own1', Lib.hid (fun k hk => by omega)⟩
    case round =>
      obtain ⟨k, hk, rfl, E2, hgw2, own2, hfit⟩ := hrel
      clear own1' E1 hgs
      by_cases hlt : k < n
      · obtain ⟨b1, off, rfl, a2, c2, g1, s1, g3, g4⟩ := r.2 k hlt
        unfold maxLen at g4
        have hb1 := World.block_lt_of_cell? w _ g1
        have g1' := cell_ext E2 g1
        have hlb : (lget L k).length ≤ 255 := (Hsm.out _ (lget_mem L k (by rw [Hl.out]; exact hlt))).1
        by_cases hkl : (k : Int) = lost
        · have hb : ((k : Int) == lost) = true := by simp; omega
          rw [← recT_skip hkl] at own2
          have hfit2 : Hid (fits L lost m (k + 1)) := Lib.hid (fun j hj hne => hfit.out j (by
            have : j ≠ k := fun h => hne (by rw [h]; exact hkl)
            omega) hne)
          clear hkl s1 hfit g1
          go_wp2
          go_roundw
          case rel => exact ⟨k + 1, by omega, by go_num, E2, hgw2, own2, hfit2⟩
          case measure => simp [intOf]; omega
        · have hb : ((k : Int) == lost) = false := by simp; omega
          by_cases hsh : m < (lget L k).length + 1
          · have H : Hid (recv L lost P = ([], false)) := Lib.hid (recv_no (fun h => by
              have h5 := h.2.1 k (by rw [Hl.out]; exact hlt) hkl
              rw [Hpl.out] at h5
              omega))
            clear hkl s1 hfit g1
            go_wp2
            go_ret2
            show RecR w (recv L lost P) _ _
            rw [H.out]
            exact ⟨_, rfl, World.ownsRow_made (base := w.heap.size) (e := 5) (size := 1) _ #[] 0 E2.size (by simp) rfl, E2.trans (Ext.alloc _ _)⟩
          · have hsl := Hsm.out _ (lget_mem L k (by rw [Hl.out]; exact hlt))
            have hpj := Hpb.out k (by rw [Hl.out]; omega)
            have hfit2 : Hid (fits L lost m (k + 1)) := Lib.hid (fun j hj hne => by
              by_cases hjk : j = k
              · subst hjk; omega
              · exact hfit.out j (by omega) hne)
            have hcf := spec_l17Frame_any a2 c2 m (lget L k) wr hsl.1 (by omega) (by omega) (s1.ext E2)
            have hfb := fr_byt hsl.2 hsl.1
            have hrt := recT_take (L := L) (P := P) hkl
            have Hrt := Lib.hid hrt
            clear hsl hfb s1 hkl hfit g1 hrt hpj
            go_wp2_with fail
            refine hcf.mono ?_
            rintro e w4 ⟨v4, rfl, own4, e4⟩
            obtain ⟨a4, c4, rfl⟩ := owns_form own4
            have f4 := Sl.of_owns own4
            have o4 := owns_ext own2 e4
            have E4 := E2.trans e4
            have hne4 : ∀ x, a4 = some x → x.block ≠ g := fun x hx => by
              have := owns_ge own4 x.block (by rw [hx]; rfl)
              omega
            have hgw4 : g < w4.heap.size := Nat.lt_of_lt_of_le hgw2 e4.size
            have Hne := Lib.hid hne4
            clear hcf own2 own4 e4 E2 hne4 g1' hgw2
            go_wp2_with fail
            go_loopw [11] (fun i wr => ∃ j : Nat, j ≤ m ∧ i = .int .i64 j ∧ Ext w wr ∧ g < wr.heap.size ∧ Sl wr a4 m ((tab m (fr (lget L k))).map (Value.int .u8)) ∧ wr.ownsRow w.heap.size 5 1 (.slice (some ⟨g, 0, none⟩) m cap) m ((tab m fun i => if i < j then bx (recT L lost P k i) (fr (lget L k) i) else recT L lost P k i).map (Value.int .u8))) (fun i _ => m - (intOf i).toNat)
            case atStart => exact ⟨0, by omega, rfl, E4, hgw4, f4, by rw [tab_congr (g := recT L lost P k) (fun i _ => by simp)]; exact o4⟩
            case round =>
              obtain ⟨j, hj, rfl, E5, hgw5, f5, o5⟩ := hrel
              clear o4 f4 E4 hgw4
              by_cases hlt2 : j < m
              · obtain ⟨b6, of6, rfl, c6⟩ := f5.int hlt2
                rw [nth_tab _ _ _ hlt2] at c6
                obtain ⟨b7, of7, h7, c7⟩ := (Sl.of_owns o5).int hlt2
                simp only [Option.some.injEq, Addr.mk.injEq, and_true] at h7
                obtain ⟨rfl, rfl⟩ := h7
                rw [nth_tab _ _ _ hlt2, if_neg (by omega), Nat.zero_add] at c7
                have f0 := o5.frozenAt j
                have hne := Hne.out _ rfl
                simp at hne
                obtain ⟨Y, hY⟩ : ∃ Y, Y = bits .xor .u8 (recT L lost P k j) (fr (lget L k) j) := ⟨_, rfl⟩
                have Hrel := Lib.hid (show ∀ wz : World, (∃ q, wz = wr.drewN q) → Ext w (wz.setCell ⟨g, j, none⟩ (.int .u8 Y)) ∧ g < (wz.setCell ⟨g, j, none⟩ (.int .u8 Y)).heap.size ∧ Sl (wz.setCell ⟨g, j, none⟩ (.int .u8 Y)) (some ⟨b6, of6, none⟩) m ((tab m (fr (lget L k))).map (Value.int .u8)) ∧ (wz.setCell ⟨g, j, none⟩ (.int .u8 Y)).ownsRow w.heap.size 5 1 (.slice (some ⟨g, 0, none⟩) m cap) m ((tab m fun i => if i < j + 1 then bx (recT L lost P k i) (fr (lget L k) i) else recT L lost P k i).map (Value.int .u8)) from by
                  rintro wz ⟨q, rfl⟩
                  have o6 := owns_drewN o5 q
                  obtain ⟨o7, gr7⟩ := o6.stored j (.int .u8 Y)
                  refine ⟨Ext.grown (below_drewN E5 q) gr7 (by simp; omega), by simpa using hgw5, (f5.drewN q).grown gr7 (fun x hx => by simp at hx; subst hx; simp; omega), ?_⟩
                  rw [← List.map_set, tab_set, tab_congr (g := fun i => if i < j + 1 then bx (recT L lost P k i) (fr (lget L k) i) else recT L lost P k i) (fun i hi => by
                    by_cases hij : i = j
                    · subst hij; rw [if_pos rfl, if_pos (by omega), hY]; rfl
                    · rw [if_neg hij]
                      by_cases hij2 : i < j
                      · rw [if_pos hij2, if_pos (by omega)]
                      · rw [if_neg hij2, if_neg (by omega)])] at o7
                  exact o7)
                rw [hY] at Hrel
                clear hY E5 f5 o5 hgw5
                generalize recT L lost P k j = y1 at c7 Hrel
                generalize fr (lget L k) j = y2 at c6 Hrel
                go_wp2
                go_still_tail 12, (by kernel_rfl)
                change wpList _ _ _ _ _ wr.drew
                go_wp2
                obtain ⟨e9, hs9, f9, o9⟩ := Hrel.out wr.drew ⟨1, rfl⟩
                go_roundw
                case rel => exact ⟨j + 1, by omega, by go_num, e9, hs9, f9, o9⟩
                case measure => simp [intOf]; omega
              · obtain rfl : j = m := by omega
                rw [tab_congr (g := recT L lost P (k + 1)) (fun i hi => by rw [if_pos hi, Hrt.out])] at o5
                go_wp2
                go_roundw
                case rel => exact ⟨k + 1, by omega, by go_num, E5, hgw5, o5, hfit2⟩
                case measure => simp [intOf]; omega
      · obtain rfl : k = n := by omega
        have hF : ∀ i, byt (recT L lost P k i) := Hpb.out k (by rw [Hl.out]; omega)
        have hrv : ∀ F : Nat → Int, F = recT L lost P k → ¬ framed F m → recv L lost P = ([], false) := fun F hF h => recv_no (fun h2 => h (by
          have := h2.2.2
          rw [Hl.out, Hpl.out, ← hF] at this
          exact this))
        have hry : ∀ F : Nat → Int, F = recT L lost P k → framed F m → recv L lost P = (tab (F 0).toNat fun i => F (i + 1), true) := fun F hF h => by
          have := recv_yes Hok.out (by rw [Hpl.out, Hl.out]; exact hfit.out) (by rw [Hpl.out, Hl.out, ← hF]; exact h)
          rw [this, Hl.out, ← hF]
        obtain ⟨F, hFe⟩ : ∃ F, F = recT L lost P k := ⟨_, rfl⟩
        rw [← hFe] at own2 hF
        have Hrv := Lib.hid (hrv F hFe)
        have Hry := Lib.hid (hry F hFe)
        have s2 := Sl.of_owns own2
        obtain ⟨b0, o0, h0, c0⟩ := s2.int (show 0 < m by omega)
        simp only [Option.some.injEq, Addr.mk.injEq, and_true] at h0
        obtain ⟨rfl, rfl⟩ := h0
        rw [nth_tab _ _ _ (by omega)] at c0
        have hb0 := hF 0
        obtain ⟨q, hq⟩ := Int.eq_ofNat_of_zero_le hb0.1
        rw [hq] at c0
        have hq255 : q ≤ 255 := by have := hb0.2; omega
        have Hq := Lib.hid hq
        have HF := Lib.hid hF
        clear hrv hry hFe hb0 hq hF hfit
        by_cases hql : m ≤ q
        · have H : Hid (recv L lost P = ([], false)) := Lib.hid (Hrv.out (fun h => by
            have := h.1
            rw [Hq.out] at this
            simp at this
            omega))
          go_wp2
          go_ret2
          show RecR w (recv L lost P) _ _
          rw [H.out]
          exact ⟨_, rfl, World.ownsRow_made (base := w.heap.size) (e := 5) (size := 1) _ #[] 0 E2.size (by simp) rfl, E2.trans (Ext.alloc _ _)⟩
        · have src : Sl wr (some ⟨g, 1, none⟩) q ((tab q fun i => F (i + 1)).map (Value.int .u8)) := by
            refine ⟨by simp [tab_len], fun i hi => ?_⟩
            obtain ⟨b9, o9, h9, c9⟩ := s2.int (show 1 + i < m by omega)
            simp only [Option.some.injEq, Addr.mk.injEq, and_true] at h9
            obtain ⟨rfl, rfl⟩ := h9
            refine ⟨g, 1, rfl, ?_⟩
            rw [Nat.zero_add, nth_tab _ _ _ (by omega)] at c9
            rw [c9, getD_map_int _ _ _ (by rw [tab_len]; exact hi), nth_tab _ _ _ hi, Nat.add_comm 1 i]
          have Src := Lib.hid (show Sl (wr.alloc (.cells #[] 5)) (some ⟨g, 1, none⟩) (q + 1 - 1) ((tab q fun i => F (i + 1)).map (Value.int .u8)) from by rw [show q + 1 - 1 = q by omega]; exact src.ext (Ext.alloc _ _))
          clear src
          have own8 := World.ownsRow_made (base := w.heap.size) (e := 5) (size := 1) wr #[] 0 E2.size (by simp) rfl
          have hbase8 : w.heap.size ≤ (wr.alloc (.cells #[] 5)).heap.size := by have := E2.size; simp; omega
          have Own8 := Lib.hid own8
          clear own8
          go_wp2_with fail
          go_loopw [13] (fun i wz => ∃ t : Nat, q + 1 + t ≤ m ∧ i = .int .i64 ((q + 1 + t : Nat) : Int) ∧ wz = wr ∧ Hid (∀ j, j < t → F (q + 1 + j) = 0)) (fun i _ => m - (intOf i).toNat)
          case atStart => exact ⟨0, by omega, by simp, rfl, Lib.hid (fun j hj => by omega)⟩
          case round =>
            obtain ⟨t, ht, rfl, rfl, hz⟩ := hrel
            by_cases hlt2 : q + 1 + t < m
            · obtain ⟨b9, o9, h9, c9⟩ := s2.int hlt2
              simp only [Option.some.injEq, Addr.mk.injEq, and_true] at h9
              obtain ⟨rfl, rfl⟩ := h9
              rw [Nat.zero_add, nth_tab _ _ _ (by omega)] at c9
              by_cases hz0 : F (q + 1 + t) = 0
              · rw [hz0] at c9
                have hz2 : Hid (∀ j, j < t + 1 → F (q + 1 + j) = 0) := Lib.hid (fun j hj => by
                  by_cases hjt : j = t
                  · subst hjt; exact hz0
                  · exact hz.out j (by omega))
                clear hz hz0
                go_wp2
                go_roundw
                case rel => exact ⟨t + 1, by omega, by go_num, trivial, hz2⟩
                case measure => simp [intOf]; omega
              · have H : Hid (recv L lost P = ([], false)) := Lib.hid (Hrv.out (fun h => hz0 (h.2 (q + 1 + t) (by rw [Hq.out]; simp <;> omega) (by omega))))
                have hb : (F (q + 1 + t) != 0) = true := by simp; exact hz0
                clear hz0
                go_wp2
                go_ret2
                show RecR w (recv L lost P) _ _
                rw [H.out]
                exact ⟨_, rfl, World.ownsRow_made (base := w.heap.size) (e := 5) (size := 1) _ #[] 0 E2.size (by simp) rfl, E2.trans (Ext.alloc _ _)⟩
            · have H : Hid (recv L lost P = (tab q fun i => F (i + 1), true)) := by
                have := Hry.out ⟨by rw [Hq.out]; simp; omega, fun i h5 h6 => by
                  rw [Hq.out] at h5
                  simp at h5
                  have h7 := hz.out (i - (q + 1)) (by omega)
                  rwa [show q + 1 + (i - (q + 1)) = i by omega] at h7⟩
                rw [Hq.out] at this
                exact Lib.hid (by simpa using this)
              by_cases hc1 : cap = 1
              · have hq0 : q = 0 := by omega
                have hus : (tab q fun i => F (i + 1)) = [] := by rw [hq0]; rfl
                have nilS : ∀ A : Option Addr, Sl (wr.alloc (.cells #[] 5)) A 0 ((tab q fun i => F (i + 1)).map (Value.int .u8)) := fun A => by rw [hus]; exact Sl.nil _ _
                have NilS := Lib.hid nilS
                clear hus nilS Src
                subst hq0
                go_wp2_with (at_builtin; refine wpList_apps _ Own8.out hbase8 rfl _ _ 22 rfl (.int .u8 0) 1 Try.underlying22 info_uint8 rfl rfl (some ⟨g, 0, none⟩) 0 _ _ rfl (NilS.out _) (one_u8 _) (by omega) (by omega) ?_; intro v9 w9 own9 gr9)
                have E9 : Ext w w9 := Ext.grown (E2.trans (Ext.alloc wr (.cells #[] 5))) gr9 (fun k hk => by simp [Value.ownBlock] at hk; have := E2.size; omega)
                go_wp2
                go_ret2
                show RecR w (recv L lost P) _ _
                rw [H.out]
                exact ⟨_, rfl, by rw [tab_len]; simpa using own9, E9⟩
              · go_wp2_with (at_builtin; refine wpList_apps _ Own8.out hbase8 rfl _ _ 22 rfl (.int .u8 0) 1 Try.underlying22 info_uint8 rfl rfl (some ⟨g, 1, none⟩) (q + 1 - 1) _ _ rfl Src.out (one_u8 _) (by omega) (by omega) ?_; intro v9 w9 own9 gr9)
                have E9 : Ext w w9 := Ext.grown (E2.trans (Ext.alloc wr (.cells #[] 5))) gr9 (fun k hk => by simp [Value.ownBlock] at hk; have := E2.size; omega)
                go_wp2
                go_ret2
                show RecR w (recv L lost P) _ _
                rw [H.out]
                exact ⟨_, rfl, by rw [tab_len]; simpa using own9, E9⟩
  · rw [show gvalid L = false by simpa using hg] at hcl
    have H := Lib.hid (NilR.out (fun h => hg h.1.1))
    clear hg hl hpl NilR
    go_enter Try.func41, Try.ntmps41
    go_wp2_with fail
    refine hcl.mono ?_
    rintro e w1 ⟨rfl, rfl⟩
    clear hcl
    go_wp2
    go_ret2
    exact H.out
end Go.Proofs.Ytmcdlkbofhdnlaa
