/- Lists of records (some one-cell fields, then bytes) of the call's own: whose rows lie one behind the other; overwriting them. -/
import Derived.Test.YtpjjadmjdafkeaaDoorP2
namespace Go.Proofs.YtpjjadmjdafkeaaDoor
open Go.RowKit
set_option maxHeartbeats 400000
/-- The data rows of the first k records. -/
def RSk (m : Nat) (w : World) (B k hi : Nat) (bs : Nat → Nat) : Prop :=
  B + 1 ≤ bs 0 ∧ bs k ≤ hi ∧ (∀ i, i < k → bs i ≤ bs (i + 1)) ∧ ∀ i, i < k → ∃ (a' : Option Addr) (l c' : Nat) (xs : List Value), l ≤ 1048576 ∧ w.cell? ⟨B, i * (m + 1) + m, none⟩ = some (.slice a' l c') ∧ w.ownsRow (bs i) 5 1 (.slice a' l c') l xs ∧ ∀ y, a' = some y → y.block < bs (i + 1)
/-- A list of n records of the call's own. -/
def RSo (m T : Nat) (w : World) (B hi n : Nat) : Prop :=
  (∃ cs, w.ownsRow B T (m + 1) (.slice (some ⟨B, 0, none⟩) n n) n cs) ∧ ∃ bs, RSk m w B n hi bs
theorem RSk.zero (m : Nat) (w : World) {B hi : Nat} (h : B + 1 ≤ hi) : ∃ bs, RSk m w B 0 hi bs :=
  ⟨fun _ => B + 1, Nat.le_refl _, h, fun i hi => by omega, fun i hi => by omega⟩
theorem RSk.mono {m : Nat} {w : World} {B k hi : Nat} {bs : Nat → Nat} (h : RSk m w B k hi bs) : ∀ i, i ≤ k → B + 1 ≤ bs i := by
  intro i
  induction i with
  | zero => intro _; exact h.1
  | succ i ih => intro hi'; exact Nat.le_trans (ih (by omega)) (h.2.2.1 i (by omega))
theorem RSk.le {m : Nat} {w : World} {B k hi : Nat} {bs : Nat → Nat} (h : RSk m w B k hi bs) : ∀ d i, i + d ≤ k → bs i ≤ bs (i + d) := by
  intro d
  induction d with
  | zero => intro i _; exact Nat.le_refl _
  | succ d ih => intro i hi'; exact Nat.le_trans (ih i (by omega)) (h.2.2.1 (i + d) (by omega))
theorem RSk.up {m : Nat} {w : World} {B k hi : Nat} {bs : Nat → Nat} (h : RSk m w B k hi bs) {i : Nat} (hi' : i ≤ k) : bs i ≤ hi := by
  have := h.le (k - i) i (by omega)
  rw [show i + (k - i) = k by omega] at this
  exact Nat.le_trans this h.2.1
theorem RSk.snoc {m : Nat} {w w2 wE : World} {B k : Nat} (h : ∃ bs, RSk m w B k w.heap.size bs) (e : Ext w w2) {a3 : Option Addr} {l c3 : Nat} {xs : List Value}
    (own3 : w2.ownsRow w.heap.size 5 1 (.slice a3 l c3) l xs) (hl : l ≤ 1048576) (g : w2.grownBy wE (some B)) (hB : B < w.heap.size)
    (hold : ∀ q, q < k * (m + 1) → wE.cell? ⟨B, q, none⟩ = w2.cell? ⟨B, q, none⟩) (hnew : wE.cell? ⟨B, k * (m + 1) + m, none⟩ = some (.slice a3 l c3)) :
    ∃ bs, RSk m wE B (k + 1) wE.heap.size bs := by
  obtain ⟨bs, k1, k2, k3, k4⟩ := h
  have mono : ∀ i, i ≤ k → B + 1 ≤ bs i := by
    intro i
    induction i with
    | zero => intro _; exact k1
    | succ i ih => intro hi; exact Nat.le_trans (ih (by omega)) (k3 i (by omega))
  obtain ⟨bt, t1, t2, t3⟩ : ∃ bt : Nat → Nat, (∀ i, i < k → bt i = bs i) ∧ bt k = w.heap.size ∧ bt (k + 1) = w2.heap.size :=
    ⟨fun i => if i < k then bs i else if i = k then w.heap.size else w2.heap.size, fun i hi => by simp [hi], by simp, by simp; omega⟩
  have tle : ∀ i, i ≤ k → bs i ≤ bt i := fun i hi => by
    by_cases hik : i = k
    · subst hik; rw [t2]; exact k2
    · rw [t1 i (by omega)]; exact Nat.le_refl _
  refine ⟨bt, Nat.le_trans k1 (tle 0 (by omega)), by rw [t3]; exact g.size, fun i hi => ?_, fun i hi => ?_⟩
  · by_cases hik : i = k
    · subst hik; rw [t2, t3]; exact e.size
    · rw [t1 i (by omega)]
      exact Nat.le_trans (k3 i (by omega)) (tle (i + 1) (by omega))
  · by_cases hik : i = k
    · subst hik
      refine ⟨a3, l, c3, xs, hl, hnew, ?_, fun y hy => ?_⟩
      · rw [t2]; exact own_gr own3 g hB
      · rw [t3]; exact (own3.lt y.block (by rw [hy]; rfl)).2
    · have hi2 : i < k := by omega
      obtain ⟨a', l', c', xs', q0, q1, q2, q3⟩ := k4 i hi2
      have hlt : i * (m + 1) + m < k * (m + 1) := by
        have : (i + 1) * (m + 1) ≤ k * (m + 1) := Nat.mul_le_mul_right _ (by omega)
        rw [Nat.succ_mul] at this; omega
      refine ⟨a', l', c', xs', q0, ?_, ?_, fun y hy => Nat.lt_of_lt_of_le (q3 y hy) (tle (i + 1) (by omega))⟩
      · rw [hold _ hlt]
        exact cell_ext e q1
      · rw [t1 i hi2]
        exact own_gr (owns_ext q2 e) g (by have := mono i (by omega); omega)
/-- While records are overwritten: what is behind record k is as it was. -/
def RSm (m : Nat) (w wr : World) (B k : Nat) (bs : Nat → Nat) : Prop :=
  (∀ q, k * (m + 1) ≤ q → wr.cell? ⟨B, q, none⟩ = w.cell? ⟨B, q, none⟩) ∧ ∀ p, p < w.heap.size → bs k ≤ p → wr.heap[p]? = w.heap[p]?
theorem RSm.at {m : Nat} {w wr : World} {B k n hi : Nat} {bs : Nat → Nat} (h : RSm m w wr B k bs) (s : RSk m w B n hi bs) (hk : k < n) :
    ∃ (a' : Option Addr) (l c' : Nat) (xs : List Value), l ≤ 1048576 ∧ wr.cell? ⟨B, k * (m + 1) + m, none⟩ = some (.slice a' l c') ∧ wr.ownsRow (bs k) 5 1 (.slice a' l c') l xs ∧ ∀ q, (Value.slice a' l c').ownBlock = some q → bs k ≤ q ∧ q < bs (k + 1) := by
  obtain ⟨a', l, c', xs, h1, h2, h3, h4⟩ := s.2.2.2 k hk
  have own2 : wr.ownsRow (bs k) 5 1 (.slice a' l c') l xs := by
    obtain ⟨o1, o2⟩ := h3
    refine ⟨o1, ?_⟩
    rcases o2 with o2 | ⟨g, cap, cur, hv, hg, r1, r2⟩
    · exact .inl o2
    · exact .inr ⟨g, cap, cur, hv, hg, by rw [h.2 g (lt_of_block r1) hg]; exact r1, r2⟩
  refine ⟨a', l, c', xs, h1, by rw [h.1 _ (by omega)]; exact h2, own2, fun q hq => ⟨owns_ge own2 q hq, ?_⟩⟩
  cases a' with
  | none => simp [Value.ownBlock] at hq
  | some y =>
    have h9 := h4 y rfl
    have h8 : y.block = q := by simpa [Value.ownBlock] using hq
    omega
/-- One record is overwritten: its fields (wS), then its bytes (w4). -/
theorem RSm.step {m T : Nat} {w wr wS w4 : World} {B k n hi : Nat} {bs : Nat → Nat} {v : Value} (h : RSm m w wr B k bs) (s : RSk m w B n hi bs) (hk : k < n) (hh : hi ≤ w.heap.size) (T2 : Tch w wr B hi) (hBhi : B < hi)
    (gS : wr.grownBy wS (some B)) (hS : ∀ q, (k + 1) * (m + 1) ≤ q → wS.cell? ⟨B, q, none⟩ = wr.cell? ⟨B, q, none⟩)
    (g4 : wS.grownBy w4 v.ownBlock) (hv : ∀ q, v.ownBlock = some q → bs k ≤ q ∧ q < bs (k + 1)) {cs : List Value} (oS : wS.ownsRow B T (m + 1) (.slice (some ⟨B, 0, none⟩) n n) n cs) :
    RSm m w w4 B (k + 1) bs ∧ Tch w w4 B hi ∧ w4.ownsRow B T (m + 1) (.slice (some ⟨B, 0, none⟩) n n) n cs := by
  have hlo := s.mono k (by omega)
  have hup := s.up (i := k + 1) hk
  have hbk : bs k ≤ bs (k + 1) := s.2.2.1 k hk
  have hne : ∀ q, v.ownBlock = some q → q ≠ B := fun q hq => by have := hv q hq; omega
  have o4 : w4.ownsRow B T (m + 1) (.slice (some ⟨B, 0, none⟩) n n) n cs := oS.kept g4 (by
    cases hb : v.ownBlock with
    | none => right; simp [Value.ownBlock]
    | some q => right; have := hne q hb; simp [Value.ownBlock]; omega)
  have hBlt : B < w4.heap.size := (o4.lt B rfl).2
  refine ⟨⟨fun q hq => ?_, fun p hp hb => ?_⟩, ?_, o4⟩
  · have e1 : w4.cell? ⟨B, q, none⟩ = wS.cell? ⟨B, q, none⟩ := by
      have hBS : B < wS.heap.size := (oS.lt B rfl).2
      have hb := g4.block B hBS (fun e => hne B e.symm rfl)
      simp only [World.cell?]; rw [hb]
    rw [e1, hS q hq, h.1 q (Nat.le_trans (Nat.mul_le_mul_right _ (by omega)) hq)]
  · have hp2 : p < wr.heap.size := Nat.lt_of_lt_of_le hp T2.size
    rw [g4.block p (Nat.lt_of_lt_of_le hp2 gS.size) (fun e => by have := hv p e.symm; omega), gS.block p hp2 (fun e => by cases e; omega)]
    exact h.2 p hp (Nat.le_trans hbk hb)
  · refine T2.trans ((Tch.of_grown gS (fun q hq => ?_)).trans (Tch.of_grown g4 (fun q hq => ?_)))
    · cases hq; exact ⟨Nat.le_refl _, hBhi⟩
    · have := hv q hq; omega
theorem grown_s2 (w : World) (B i j : Nat) (u v : Value) : w.grownBy ((w.setCell ⟨B, i, none⟩ u).setCell ⟨B, j, none⟩ v) (some B) :=
  have g1 : ∀ (w : World) (j : Nat) (v : Value), w.grownBy (w.setCell ⟨B, j, none⟩ v) (some B) := fun w j v => ⟨rfl, rfl, rfl, by simp, fun k _ hk => heap_setCell_other w ⟨B, j, none⟩ k v (fun e => hk (by simp [e]))⟩
  grownBy_trans (g1 w i u) (g1 _ j v)
theorem markSampleS_any (B hi n : Nat) (k0 : Int) (w : World) (hn : n ≤ 1048576) (hk0 : 0 ≤ k0) (hk1 : k0 ≤ 2^50) (r : RSo 2 40 w B hi n) (hh : hi ≤ w.heap.size) :
    Calls Tryd.prog 18 #[.slice (some ⟨B, 0, none⟩) n n, .int .i64 k0] w fun e w' => ∃ x : Int, e = .returned (.int .i64 x) ∧ 0 ≤ x ∧ x ≤ 2^51 ∧ Tch w w' B hi := by
  obtain ⟨⟨cs0, ownB⟩, bs, s⟩ := r
  have hBhi : B < hi := by have := s.mono n (Nat.le_refl _); have := s.2.1; omega
  have HS := Lib.hid s
  clear s
  go_enter Tryd.func18, Tryd.ntmps18
  go_wp2_with fail
  go_loopw [1, 5] (fun q i wr => ∃ (k : Nat) (x : Int) (cs : List Value), k ≤ n ∧ i = .int .i64 k ∧ q = .int .i64 x ∧ 0 ≤ x ∧ x ≤ 2^50 + k * 1048578 ∧ Tch w wr B hi ∧ wr.ownsRow B 40 3 (.slice (some ⟨B, 0, none⟩) n n) n cs ∧ Hid (RSm 2 w wr B k bs)) (fun _ i _ => n - (intOf i).toNat)
  case atStart => exact ⟨0, _, _, by omega, rfl, rfl, by omega, by omega, Tch.refl _ _ _, ownB, Lib.hid ⟨fun q _ => rfl, fun p _ _ => rfl⟩⟩
  case round =>
    obtain ⟨k, x, cs, hk, rfl, rfl, hx0, hx1, T2, ownR, hM⟩ := hrel
    clear ownB
    have hkm : (k : Int) * 1048578 ≤ 1048576 * 1048578 := by omega
    by_cases hlt : k < n
    · obtain ⟨a', l, c', xs, hl, g2, own2, hrow⟩ := RSm.at hM.out HS.out hlt
      have Hrow := Lib.hid hrow
      have hlo := HS.out.mono k hk
      obtain ⟨u0, d0, -⟩ := owns_at ownR (j := k * 3) (by omega)
      obtain ⟨u1, d1, -⟩ := owns_at ownR (j := k * 3 + 1) (by omega)
      have f0 := ownR.frozenAt (k * 3)
      have f1 := ownR.frozenAt (k * 3 + 1)
      have hst : ∀ v0 v1, ∃ cs', ((wr.setCell ⟨B, k * 3, none⟩ v0).setCell ⟨B, k * 3 + 1, none⟩ v1).ownsRow B 40 3 (.slice (some ⟨B, 0, none⟩) n n) n cs' := fun v0 v1 =>
        ⟨_, ((ownR.stored (k * 3) v0).1.stored (k * 3 + 1) v1).1⟩
      have Hst := Lib.hid hst
      have O2 := Lib.hid own2
      clear hst hrow own2 ownR
      go_wp2_with fail
      refine (markByteS_any _ l _ _ (bs k) _ (by omega) (by omega) (by omega) (own_gr O2.out (grown_s2 _ _ _ _ _ _) (by omega))).mono ?_
      rintro e w4 ⟨rfl, -, g4⟩
      obtain ⟨cs', oS⟩ := Hst.out (.int .i64 x) (.bool ((x + 1) % 3 == 0))
      have hR := RSm.step hM.out HS.out hlt hh T2 hBhi (grown_s2 _ _ _ _ _ _) (fun q hq => by
        rw [World.cell?_setCell_other _ _ _ _ (by intro e; simp at e <;> omega), World.cell?_setCell_other _ _ _ _ (by intro e; simp at e <;> omega)]) g4 Hrow.out oS
      obtain ⟨hM4, T4, o4⟩ := hR
      have HM4 := Lib.hid hM4
      clear hM4 T2 g4 oS d0 d1 f0 f1 g2 hM
      go_wp2
      go_roundw
      case rel => exact ⟨k + 1, x + 1 + 1 + l, cs', by omega, by go_num, by first | rfl | go_num, by omega, by push_cast; omega, T4, o4, HM4⟩
      case measure => simp [intOf]; omega
    · obtain rfl : k = n := by omega
      go_wp2
      go_ret
      exact ⟨x, rfl, hx0, by omega, T2⟩
end Go.Proofs.YtpjjadmjdafkeaaDoor
