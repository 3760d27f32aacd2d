/- Lists of byte strings: what they read as; bytes and exclusive or. -/
import Derived.Test.YtmokncpppmchfaaDoorH
import Derived.Test.YtmokncpppmchfaaDoorBits
namespace Go.Proofs.YtmokncpppmchfaaDoor
open Go.RowKit
set_option maxHeartbeats 400000

/-- The i-th string. -/
def lget (L : List (List Int)) (i : Nat) : List Int := L.getD i []
theorem lget_eq (L : List (List Int)) (i : Nat) (h : i < L.length) : lget L i = L[i] := by simp [lget, h]
theorem lget_mem (L : List (List Int)) (i : Nat) (h : i < L.length) : lget L i ∈ L := by rw [lget_eq L i h]; exact List.getElem_mem h
/-- The cell at b, o is a slice that reads as the bytes xs. -/
def BsAt (w : World) (b o : Nat) (xs : List Int) : Prop :=
  ∃ (a : Option Addr) (c : Nat), w.cell? ⟨b, o, none⟩ = some (.slice a xs.length c) ∧ Sl w a xs.length (xs.map (Value.int .u8)) ∧ xs.length ≤ c ∧ c ≤ maxLen
/-- The slice at a of n byte strings reads as L. -/
def SS (w : World) (a : Option Addr) (n : Nat) (L : List (List Int)) : Prop :=
  L.length = n ∧ ∀ i, i < n → ∃ b off, a = some ⟨b, off, none⟩ ∧ BsAt w b (off + i) (lget L i)
theorem BsAt.ext {w w' : World} {b o : Nat} {xs : List Int} (h : BsAt w b o xs) (e : Ext w w') : BsAt w' b o xs := by
  obtain ⟨a, c, h1, h2, h3⟩ := h
  exact ⟨a, c, cell_ext e h1, h2.ext e, h3⟩
theorem SS.ext {w w' : World} {a : Option Addr} {n : Nat} {L : List (List Int)} (h : SS w a n L) (e : Ext w w') : SS w' a n L := by
  refine ⟨h.1, fun i hi => ?_⟩
  obtain ⟨b, off, ha, hs⟩ := h.2 i hi
  exact ⟨b, off, ha, hs.ext e⟩
theorem SS.drewN {w : World} {a : Option Addr} {n : Nat} {L : List (List Int)} (h : SS w a n L) (m : Nat) : SS (w.drewN m) a n L := h

/-- Exclusive or of bytes. -/
def bx (a b : Int) : Int := bits .xor .u8 a b
theorem u8_nat_ofInt (a : Nat) (ha : a < 256) : (BitVec.ofInt 8 (a : Int)).toNat = a := by
  rw [BitVec.ofInt_natCast, BitVec.toNat_ofNat]; exact Nat.mod_eq_of_lt (by omega)
theorem wrap_u8 (n : Int) : IntKind.u8.wrap n = n % 256 := by simp [IntKind.wrap, IntKind.signed, IntKind.bits]
theorem bx_nat (a b : Nat) (ha : a < 256) (hb : b < 256) : bx (a : Int) (b : Int) = ((a ^^^ b : Nat) : Int) := by
  have hx : a ^^^ b < 2 ^ 8 := Nat.xor_lt_two_pow (by omega) (by omega)
  show IntKind.u8.wrap ((BitVec.ofInt 8 (a : Int) ^^^ BitVec.ofInt 8 (b : Int)).toNat : Int) = _
  rw [BitVec.toNat_xor, u8_nat_ofInt a (by omega), u8_nat_ofInt b (by omega), wrap_u8]
  omega
/-- A byte. -/
def byt (z : Int) : Prop := 0 ≤ z ∧ z ≤ 255
theorem bx_byt {a b : Int} (ha : byt a) (hb : byt b) : byt (bx a b) := by
  obtain ⟨a, rfl⟩ := Int.eq_ofNat_of_zero_le ha.1
  obtain ⟨b, rfl⟩ := Int.eq_ofNat_of_zero_le hb.1
  have h1 := ha.2
  have h2 := hb.2
  have hx : a ^^^ b < 2 ^ 8 := Nat.xor_lt_two_pow (by omega) (by omega)
  rw [bx_nat a b (by omega) (by omega)]
  exact ⟨by omega, by omega⟩
theorem bx_zero {a : Int} (ha : byt a) : bx a 0 = a := by
  obtain ⟨a, rfl⟩ := Int.eq_ofNat_of_zero_le ha.1
  have h1 := ha.2
  have := bx_nat a 0 (by omega) (by omega)
  simpa using this
theorem bx_self {a : Int} (ha : byt a) : bx a a = 0 := by
  obtain ⟨a, rfl⟩ := Int.eq_ofNat_of_zero_le ha.1
  have h1 := ha.2
  have := bx_nat a a (by omega) (by omega)
  simpa using this
theorem bx_comm {a b : Int} (ha : byt a) (hb : byt b) : bx a b = bx b a := by
  obtain ⟨a, rfl⟩ := Int.eq_ofNat_of_zero_le ha.1
  obtain ⟨b, rfl⟩ := Int.eq_ofNat_of_zero_le hb.1
  have h1 := ha.2
  have h2 := hb.2
  rw [bx_nat a b (by omega) (by omega), bx_nat b a (by omega) (by omega), Nat.xor_comm]
theorem bx_assoc {a b c : Int} (ha : byt a) (hb : byt b) (hc : byt c) : bx (bx a b) c = bx a (bx b c) := by
  obtain ⟨a, rfl⟩ := Int.eq_ofNat_of_zero_le ha.1
  obtain ⟨b, rfl⟩ := Int.eq_ofNat_of_zero_le hb.1
  obtain ⟨c, rfl⟩ := Int.eq_ofNat_of_zero_le hc.1
  have h1 := ha.2
  have h2 := hb.2
  have h3 := hc.2
  have hx : a ^^^ b < 2 ^ 8 := Nat.xor_lt_two_pow (by omega) (by omega)
  have hy : b ^^^ c < 2 ^ 8 := Nat.xor_lt_two_pow (by omega) (by omega)
  rw [bx_nat a b (by omega) (by omega), bx_nat b c (by omega) (by omega), bx_nat _ c (by omega) (by omega), bx_nat a _ (by omega) (by omega), Nat.xor_assoc]

/-- The list of f's values. -/
def tab (n : Nat) (f : Nat → Int) : List Int := (List.range n).map f
theorem tab_len (n : Nat) (f : Nat → Int) : (tab n f).length = n := by simp [tab]
theorem nth_tab (n : Nat) (f : Nat → Int) (i : Nat) (h : i < n) : nth (tab n f) i = f i := by simp [nth, tab, h]
theorem tab_congr {n : Nat} {f g : Nat → Int} (h : ∀ i, i < n → f i = g i) : tab n f = tab n g := by
  unfold tab
  exact List.map_congr_left fun i hi => h i (by simpa using hi)
theorem tab_set (n : Nat) (f : Nat → Int) (i : Nat) (v : Int) : (tab n f).set i v = tab n (fun j => if j = i then v else f j) := by
  apply List.ext_getElem
  · simp [tab]
  · intro j h1 h2
    simp [tab] at h1 h2 ⊢
    rw [List.getElem_set]
    by_cases hj : i = j
    · subst hj; simp
    · rw [if_neg hj, if_neg (Ne.symm hj)]; simp
theorem tab_zero (n : Nat) : List.replicate n (0 : Int) = tab n (fun _ => 0) := by
  apply List.ext_getElem
  · simp [tab]
  · intro j h1 h2; simp [tab]
theorem nth_byt {s : List Int} (h : ∀ z ∈ s, byt z) (i : Nat) : byt (nth s i) := by
  by_cases hi : i < s.length
  · rw [nth_eq s i hi]; exact h _ (List.getElem_mem hi)
  · have : nth s i = 0 := by simp [nth, hi]
    rw [this]; exact ⟨by omega, by omega⟩

/-- A string's frame: its length, its bytes, zeros. -/
def fr (s : List Int) (i : Nat) : Int := if i = 0 then (s.length : Int) else nth s (i - 1)
theorem fr_byt {s : List Int} (h : ∀ z ∈ s, byt z) (hl : s.length ≤ 255) (i : Nat) : byt (fr s i) := by
  unfold fr
  split
  · exact ⟨by omega, by omega⟩
  · exact nth_byt h _
theorem fr_past {s : List Int} {i : Nat} (h : s.length < i) : fr s i = 0 := by
  unfold fr
  rw [if_neg (by omega)]
  simp [nth, show ¬ i - 1 < s.length by omega]
/-- The first t frames together. -/
def parT (L : List (List Int)) : Nat → Nat → Int
  | 0, _ => 0
  | t + 1, i => bx (parT L t i) (fr (lget L t) i)
/-- The longest of the first t frames. -/
def sizeT (L : List (List Int)) : Nat → Nat
  | 0 => 0
  | t + 1 => max (sizeT L t) ((lget L t).length + 1)
/-- Strings of bytes, none too long. -/
def small (L : List (List Int)) : Prop := ∀ s ∈ L, s.length ≤ 255 ∧ ∀ z ∈ s, byt z
theorem parT_byt {L : List (List Int)} (h : small L) : ∀ t, t ≤ L.length → ∀ i, byt (parT L t i)
  | 0, _, _ => ⟨by simp [parT], by simp [parT]⟩
  | t + 1, ht, i => bx_byt (parT_byt h t (by omega) i) (fr_byt (h _ (lget_mem L t (by omega))).2 (h _ (lget_mem L t (by omega))).1 i)
theorem sizeT_le {L : List (List Int)} (h : small L) : ∀ t, t ≤ L.length → sizeT L t ≤ 256
  | 0, _ => by simp [sizeT]
  | t + 1, ht => by
    have h1 := sizeT_le h t (by omega)
    have h2 := (h _ (lget_mem L t (by omega))).1
    simp [sizeT]; omega
theorem sizeT_ge (L : List (List Int)) : ∀ t i, i < t → (lget L i).length + 1 ≤ sizeT L t
  | 0, i, h => by omega
  | t + 1, i, h => by
    simp only [sizeT]
    by_cases hi : i = t
    · subst hi; omega
    · have := sizeT_ge L t i (by omega); omega
def gvalid (L : List (List Int)) : Bool := decide (1 ≤ L.length) && decide (L.length ≤ 8) && L.all fun s => decide (s.length ≤ 255)
theorem gvalid_iff {L : List (List Int)} : gvalid L = true ↔ 1 ≤ L.length ∧ L.length ≤ 8 ∧ ∀ s ∈ L, s.length ≤ 255 := by
  simp [gvalid, and_assoc]
/-- The parity string. -/
def parity (L : List (List Int)) : List Int := if gvalid L = true then tab (sizeT L L.length) (parT L L.length) else []
theorem parity_len {L : List (List Int)} (h : ∀ s ∈ L, ∀ z ∈ s, byt z) : (parity L).length ≤ 256 := by
  unfold parity
  split
  · rename_i hg
    rw [tab_len]
    exact sizeT_le (fun s hs => ⟨(gvalid_iff.1 hg).2.2 s hs, h s hs⟩) _ (Nat.le_refl _)
  · simp
end Go.Proofs.YtmokncpppmchfaaDoor
