/- Packets (plain): their bytes, and what can be read back. -/
import Derived.Test.YtpjjadmjdafkeaaDoorCrc
namespace Go.Proofs.YtpjjadmjdafkeaaDoor

structure Pkt where
  num : Int
  fr : Int
  row : Int
  part : Int
  last : Bool
  data : List Int
def pkt0 : Pkt := ⟨0, 0, 0, 0, false, []⟩
/-- A valid packet of n bytes. -/
def pval (num fr row part : Int) (n : Nat) : Prop := 0 ≤ num ∧ num ≤ 9999 ∧ 0 ≤ fr ∧ fr ≤ 9999 ∧ 0 ≤ row ∧ row < 4 ∧ 0 ≤ part ∧ part ≤ 255 ∧ 1 ≤ n ∧ n ≤ 200
instance (num fr row part : Int) (n : Nat) : Decidable (pval num fr row part n) := by unfold pval; infer_instance
def Pkt.ok (p : Pkt) : Prop := pval p.num p.fr p.row p.part p.data.length
instance (p : Pkt) : Decidable p.ok := by unfold Pkt.ok; infer_instance
def flag (b : Bool) : Int := if b then 1 else 0
def pair (n : Int) : List Int := [n / 256, n % 256]
def phead (p : Pkt) : List Int := [p.num / 256, p.num % 256, p.fr / 256, p.fr % 256, p.row, p.part, flag p.last]
def pbody (p : Pkt) : List Int := phead p ++ p.data
/-- PacketBytes. -/
def pby (p : Pkt) : List Int := if p.ok then pbody p ++ pair (crc (pbody p)) else []
def parse (l : List Int) : Pkt := ⟨nth l 0 * 256 + nth l 1, nth l 2 * 256 + nth l 3, nth l 4, nth l 5, decide (nth l 6 = 1), (l.drop 7).take (l.length - 9)⟩
/-- ReadPacket finds one. -/
def rdOk (l : List Int) : Prop := 10 ≤ l.length ∧ l.length ≤ 209 ∧ nth l 6 ≤ 1 ∧ (parse l).ok ∧ ((crc (l.take (l.length - 2)) : Nat) : Int) = nth l (l.length - 2) * 256 + nth l (l.length - 1)
instance (l : List Int) : Decidable (rdOk l) := by unfold rdOk; infer_instance
def rdP (l : List Int) : Pkt := if rdOk l then parse l else pkt0
/-- Bytes. -/
def bys (l : List Int) : Prop := ∀ z ∈ l, 0 ≤ z ∧ z ≤ 255

theorem l10_split {l : List Int} (h : 10 ≤ l.length) : ∃ a0 a1 a2 a3 a4 a5 a6 d c0 c1, l = a0 :: a1 :: a2 :: a3 :: a4 :: a5 :: a6 :: (d ++ [c0, c1]) ∧ 1 ≤ d.length := by
  match l, h with
  | a0 :: a1 :: a2 :: a3 :: a4 :: a5 :: a6 :: t, h =>
    have ht : 3 ≤ t.length := by simpa using h
    have h2 : (t.drop (t.length - 2)).length = 2 := by simp; omega
    match hd : t.drop (t.length - 2), h2 with
    | [c0, c1], _ =>
      refine ⟨a0, a1, a2, a3, a4, a5, a6, t.take (t.length - 2), c0, c1, ?_, by simp; omega⟩
      rw [← hd, List.take_append_drop]
section
variable (a0 a1 a2 a3 a4 a5 a6 c0 c1 : Int) (d : List Int)
def frm : List Int := a0 :: a1 :: a2 :: a3 :: a4 :: a5 :: a6 :: (d ++ [c0, c1])
theorem frm_len : (frm a0 a1 a2 a3 a4 a5 a6 c0 c1 d).length = d.length + 9 := by simp [frm]
theorem frm_parse : parse (frm a0 a1 a2 a3 a4 a5 a6 c0 c1 d) = ⟨a0 * 256 + a1, a2 * 256 + a3, a4, a5, decide (a6 = 1), d⟩ := by
  unfold parse
  rw [frm_len, Nat.add_sub_cancel]
  simp [frm, nth]
theorem frm_take : (frm a0 a1 a2 a3 a4 a5 a6 c0 c1 d).take ((frm a0 a1 a2 a3 a4 a5 a6 c0 c1 d).length - 2) = a0 :: a1 :: a2 :: a3 :: a4 :: a5 :: a6 :: d := by
  rw [frm_len, show d.length + 9 - 2 = (a0 :: a1 :: a2 :: a3 :: a4 :: a5 :: a6 :: d).length by simp]
  have e : frm a0 a1 a2 a3 a4 a5 a6 c0 c1 d = (a0 :: a1 :: a2 :: a3 :: a4 :: a5 :: a6 :: d) ++ [c0, c1] := by simp [frm]
  rw [e, List.take_left]
theorem frm_c0 : nth (frm a0 a1 a2 a3 a4 a5 a6 c0 c1 d) ((frm a0 a1 a2 a3 a4 a5 a6 c0 c1 d).length - 2) = c0 := by
  rw [frm_len, show d.length + 9 - 2 = (a0 :: a1 :: a2 :: a3 :: a4 :: a5 :: a6 :: d).length + 0 by simp]
  have e : frm a0 a1 a2 a3 a4 a5 a6 c0 c1 d = (a0 :: a1 :: a2 :: a3 :: a4 :: a5 :: a6 :: d) ++ [c0, c1] := by simp [frm]
  rw [e]; unfold nth; rw [List.getD_eq_getElem?_getD, List.getElem?_append_right (by omega)]; simp
theorem frm_c1 : nth (frm a0 a1 a2 a3 a4 a5 a6 c0 c1 d) ((frm a0 a1 a2 a3 a4 a5 a6 c0 c1 d).length - 1) = c1 := by
  rw [frm_len, show d.length + 9 - 1 = (a0 :: a1 :: a2 :: a3 :: a4 :: a5 :: a6 :: d).length + 1 by simp]
  have e : frm a0 a1 a2 a3 a4 a5 a6 c0 c1 d = (a0 :: a1 :: a2 :: a3 :: a4 :: a5 :: a6 :: d) ++ [c0, c1] := by simp [frm]
  rw [e]; unfold nth; rw [List.getD_eq_getElem?_getD, List.getElem?_append_right (by omega)]; simp
theorem frm_6 : nth (frm a0 a1 a2 a3 a4 a5 a6 c0 c1 d) 6 = a6 := by simp [frm, nth]
end
theorem flag_le (b : Bool) : 0 ≤ flag b ∧ flag b ≤ 1 := by cases b <;> simp [flag]
theorem flag_dec {z : Int} (h0 : 0 ≤ z) (h1 : z ≤ 1) : flag (decide (z = 1)) = z := by
  by_cases h : z = 1
  · subst h; simp [flag]
  · have : z = 0 := by omega
    subst this; simp [flag]
theorem dec_flag (b : Bool) : decide (flag b = 1) = b := by cases b <;> simp [flag]
theorem pbody_bys {p : Pkt} (h : p.ok) (hd : bys p.data) : bys (pbody p) := by
  obtain ⟨h1, h2, h3, h4, h5, h6, h7, h8, -⟩ := h
  have h9 := flag_le p.last
  intro z hz
  simp only [pbody, phead, List.mem_append, List.mem_cons, List.not_mem_nil, or_false] at hz
  rcases hz with (h | h | h | h | h | h | h) | h
  · omega
  · omega
  · omega
  · omega
  · omega
  · omega
  · omega
  · exact hd z h
theorem crc_lt {l : List Int} (h : bys l) : crc l < 65536 := crcFrom_lt (by omega) h
theorem pbody_len (p : Pkt) : (pbody p).length = p.data.length + 7 := by simp [pbody, phead]
theorem pby_len {p : Pkt} (h : p.ok) : (pby p).length = p.data.length + 9 := by
  unfold pby; rw [if_pos h, List.length_append, pbody_len]; simp [pair]
theorem pby_no {p : Pkt} (h : ¬ p.ok) : pby p = [] := if_neg h
theorem pby_bys {p : Pkt} (hd : bys p.data) : bys (pby p) := by
  unfold pby
  split
  · rename_i h
    have h1 := pbody_bys h hd
    have h2 := crc_lt h1
    intro z hz
    simp only [pair, List.mem_append, List.mem_cons, List.not_mem_nil, or_false] at hz
    rcases hz with h3 | h3 | h3
    · exact h1 z h3
    · omega
    · omega
  · intro z hz; simp at hz
theorem pby_frm {p : Pkt} (h : p.ok) : pby p = frm (p.num / 256) (p.num % 256) (p.fr / 256) (p.fr % 256) p.row p.part (flag p.last) ((crc (pbody p) : Nat) / 256 : Int) ((crc (pbody p) : Nat) % 256 : Int) p.data := by
  unfold pby; rw [if_pos h]; simp [frm, pbody, phead, pair]
/-- What was written can be read. -/
theorem rd_pby {p : Pkt} (h : p.ok) : rdOk (pby p) ∧ parse (pby p) = p := by
  have hp : parse (pby p) = p := by
    rw [pby_frm h, frm_parse, dec_flag]
    obtain ⟨num, fr, row, part, last, data⟩ := p
    simp only [Pkt.mk.injEq, and_true]
    omega
  have hf := flag_le p.last
  have hok := h
  obtain ⟨-, -, -, -, -, -, -, -, h1, h2⟩ := h
  refine ⟨⟨by rw [pby_len hok]; omega, by rw [pby_len hok]; omega, ?_, by rw [hp]; exact hok, ?_⟩, hp⟩
  · rw [pby_frm hok, frm_6]; exact hf.2
  · rw [pby_frm hok, frm_take, frm_c0, frm_c1]
    show ((crc (pbody p) : Nat) : Int) = _
    omega
/-- Written again and the same: just what the reference reads. -/
theorem rd_iff {l : List Int} (hb : bys l) (hl : 10 ≤ l.length) : pby (parse l) = l ↔ rdOk l := by
  obtain ⟨a0, a1, a2, a3, a4, a5, a6, d, c0, c1, rfl, hd⟩ := l10_split hl
  change pby (parse (frm a0 a1 a2 a3 a4 a5 a6 c0 c1 d)) = frm a0 a1 a2 a3 a4 a5 a6 c0 c1 d ↔ rdOk (frm a0 a1 a2 a3 a4 a5 a6 c0 c1 d)
  have b0 := hb a0 (by simp)
  have b1 := hb a1 (by simp)
  have b2 := hb a2 (by simp)
  have b3 := hb a3 (by simp)
  have b4 := hb a4 (by simp)
  have b5 := hb a5 (by simp)
  have b6 := hb a6 (by simp)
  have e0 := hb c0 (by simp)
  have e1 := hb c1 (by simp)
  have hbd : bys d := fun z hz => hb z (by simp [hz])
  clear hb hl
  unfold rdOk
  rw [frm_len, frm_6]
  have e2 := frm_take a0 a1 a2 a3 a4 a5 a6 c0 c1 d
  have e3 := frm_c0 a0 a1 a2 a3 a4 a5 a6 c0 c1 d
  have e4 := frm_c1 a0 a1 a2 a3 a4 a5 a6 c0 c1 d
  rw [frm_len] at e2 e3 e4
  rw [e2, e3, e4]
  have hP := frm_parse a0 a1 a2 a3 a4 a5 a6 c0 c1 d
  constructor
  · intro h
    have hok : (parse (frm a0 a1 a2 a3 a4 a5 a6 c0 c1 d)).ok := by
      refine Classical.byContradiction fun hn => ?_
      rw [pby_no hn] at h
      have := congrArg List.length h
      rw [frm_len] at this
      simp at this
    rw [pby_frm hok, hP] at h
    simp only [frm, List.cons.injEq] at h
    obtain ⟨-, -, -, -, -, -, h6, h7⟩ := h
    have h8 := List.append_cancel_left h7
    simp only [List.cons.injEq, and_true] at h8
    obtain ⟨h8, h9⟩ := h8
    have hf := flag_le (decide (a6 = 1))
    have hlen : d.length ≤ 200 := by
      have := hok.2.2.2.2.2.2.2.2.2
      rw [hP] at this; exact this
    refine ⟨by omega, by omega, by omega, hok, ?_⟩
    have hpb : pbody ⟨a0 * 256 + a1, a2 * 256 + a3, a4, a5, decide (a6 = 1), d⟩ = a0 :: a1 :: a2 :: a3 :: a4 :: a5 :: a6 :: d := by
      simp only [pbody, phead, h6, List.cons_append, List.nil_append, List.cons.injEq, and_true]
      omega
    rw [hpb] at h8 h9
    omega
  · rintro ⟨-, -, h6, hok, hc⟩
    rw [pby_frm hok, hP]
    have hpb : pbody ⟨a0 * 256 + a1, a2 * 256 + a3, a4, a5, decide (a6 = 1), d⟩ = a0 :: a1 :: a2 :: a3 :: a4 :: a5 :: a6 :: d := by
      simp only [pbody, phead, flag_dec b6.1 h6, List.cons_append, List.nil_append, List.cons.injEq, and_true]
      omega
    rw [hpb]
    simp only [flag_dec b6.1 h6, hc, frm, List.cons.injEq, List.append_cancel_left_eq]
    refine ⟨by omega, by omega, by omega, by omega, trivial, trivial, trivial, by omega, by omega, trivial⟩
/-- One changed byte is found. -/
theorem rd_set {l : List Int} {k : Nat} {v : Int} (h : rdOk l) (hb : bys l) (hk : k < l.length) (h0 : 0 ≤ v) (h1 : v ≤ 255) (hv : v ≠ l[k]) : ¬ rdOk (l.set k v) := by
  intro h2
  obtain ⟨q1, -, -, -, q2⟩ := h
  obtain ⟨-, -, -, -, q3⟩ := h2
  rw [List.length_set] at q3
  by_cases hk2 : k < l.length - 2
  · have e1 : (l.set k v).take (l.length - 2) = (l.take (l.length - 2)).set k v := by rw [List.take_set]
    have e2 : ∀ i, i ≠ k → nth (l.set k v) i = nth l i := fun i hi => by
      simp only [nth, List.getD_eq_getElem?_getD, List.getElem?_set_ne (Ne.symm hi)]
    rw [e1, e2 _ (by omega), e2 _ (by omega), ← q2] at q3
    refine crcFrom_set (n := 65535) (by omega) (fun z hz => hb z (List.mem_of_mem_take hz)) h0 h1 (k := k) (v := v) (l := l.take (l.length - 2)) (by simp; omega) (by simpa using hv) ?_
    show crc _ = crc _
    omega
  · have e1 : (l.set k v).take (l.length - 2) = l.take (l.length - 2) := by
      rw [List.take_set_of_le (by omega)]
    have g0 := hb (nth l (l.length - 2)) (by rw [nth_eq _ _ (by omega)]; exact List.getElem_mem _)
    have g1 := hb (nth l (l.length - 1)) (by rw [nth_eq _ _ (by omega)]; exact List.getElem_mem _)
    rw [e1, q2] at q3
    have hv2 : v ≠ nth l k := by rw [nth_eq _ _ hk]; exact hv
    have e2 : ∀ i, i ≠ k → nth (l.set k v) i = nth l i := fun i hi => by
      simp only [nth, List.getD_eq_getElem?_getD, List.getElem?_set_ne (Ne.symm hi)]
    have e3 : nth (l.set k v) k = v := by rw [nth_eq _ _ (by simpa using hk)]; simp
    by_cases hk3 : k = l.length - 2
    · subst hk3
      rw [e3, e2 _ (by omega)] at q3
      omega
    · have hk4 : k = l.length - 1 := by omega
      subst hk4
      rw [e3, e2 _ (by omega)] at q3
      omega
end Go.Proofs.YtpjjadmjdafkeaaDoor
