/- The checksum (plain): bit by bit, by a table, and that one changed byte changes it. -/
import Derived.Test.YtpjjadmjdafkeaaDoorBase
namespace Go.Proofs.YtpjjadmjdafkeaaDoor

/-- One doubling. -/
def cs1 (n : Nat) : Nat := if 32768 ≤ n then (2 * n - 65536) ^^^ 4129 else 2 * n
def csN : Nat → Nat → Nat
  | 0, n => n
  | k + 1, n => cs1 (csN k n)
/-- One byte. -/
def csB (n b : Nat) : Nat := csN 8 (n ^^^ b * 256)
def crcFrom (n : Nat) (l : List Int) : Nat := l.foldl (fun n b => csB n b.toNat) n
def crc (l : List Int) : Nat := crcFrom 65535 l
def tabv (b : Nat) : Nat := csN 8 (b * 256)

theorem xor_lt16 {x y : Nat} (hx : x < 65536) (hy : y < 65536) : x ^^^ y < 65536 := Nat.xor_lt_two_pow (n := 16) hx hy
theorem cs1_lt {n : Nat} (h : n < 65536) : cs1 n < 65536 := by
  unfold cs1
  split
  · exact xor_lt16 (by omega) (by omega)
  · omega
theorem csN_lt {n : Nat} (h : n < 65536) : ∀ k, csN k n < 65536
  | 0 => h
  | k + 1 => cs1_lt (csN_lt h k)
theorem csB_lt {n b : Nat} (h : n < 65536) (hb : b < 256) : csB n b < 65536 := csN_lt (xor_lt16 h (by omega)) 8
theorem cs1_eq {n : Nat} (h : n < 65536) : cs1 n = ((n <<< 1) % 2 ^ 16) ^^^ (if n.testBit 15 then 4129 else 0) := by
  have ht : n.testBit 15 = decide (32768 ≤ n) := by
    rw [Nat.testBit_eq_decide_div_mod_eq]
    by_cases h1 : 32768 ≤ n
    · rw [decide_eq_true h1, decide_eq_true_eq]; omega
    · rw [decide_eq_false h1, decide_eq_false_iff_not]; omega
  rw [ht, Nat.shiftLeft_eq]
  unfold cs1
  by_cases h1 : 32768 ≤ n
  · have e : n * 2 ^ 1 % 2 ^ 16 = 2 * n - 65536 := by omega
    rw [if_pos h1, decide_eq_true h1, if_pos rfl, e]
  · have e : n * 2 ^ 1 % 2 ^ 16 = 2 * n := by omega
    rw [if_neg h1, decide_eq_false h1, if_neg Bool.false_ne_true, e, Nat.xor_zero]
attribute [local irreducible] cs1
theorem cs1_xor {x y : Nat} (hx : x < 65536) (hy : y < 65536) : cs1 (x ^^^ y) = cs1 x ^^^ cs1 y := by
  rw [cs1_eq (xor_lt16 hx hy), cs1_eq hx, cs1_eq hy, Nat.testBit_xor, Nat.shiftLeft_xor_distrib, Nat.xor_mod_two_pow]
  have h4 : ∀ p q r s : Nat, (p ^^^ q) ^^^ (r ^^^ s) = (p ^^^ r) ^^^ (q ^^^ s) := fun p q r s => by
    rw [Nat.xor_assoc, Nat.xor_assoc, ← Nat.xor_assoc q r s, Nat.xor_comm q r, Nat.xor_assoc r q s]
  rw [← h4]
  congr 1
  cases x.testBit 15 <;> cases y.testBit 15 <;> simp
theorem csN_xor {x y : Nat} (hx : x < 65536) (hy : y < 65536) : ∀ k, csN k (x ^^^ y) = csN k x ^^^ csN k y
  | 0 => rfl
  | k + 1 => by simp only [csN]; rw [csN_xor hx hy k, cs1_xor (csN_lt hx k) (csN_lt hy k)]
theorem csN_low {x : Nat} (hx : x < 256) : ∀ k, k ≤ 8 → csN k x = x * 2 ^ k
  | 0, _ => by simp [csN]
  | k + 1, hk => by
    have hp : 2 ^ k ≤ 2 ^ 7 := Nat.pow_le_pow_right (by omega) (by omega)
    have hm : x * 2 ^ k ≤ 255 * 2 ^ 7 := Nat.mul_le_mul (by omega) hp
    simp only [csN]
    rw [csN_low hx k (by omega)]
    unfold cs1
    rw [if_neg (by omega), Nat.pow_succ, Nat.mul_left_comm, Nat.mul_comm 2]
theorem cs1_zero {x : Nat} (hx : x < 65536) (h : cs1 x = 0) : x = 0 := by
  unfold cs1 at h
  split at h
  · have h2 : 2 * x - 65536 = 4129 := by
      have := congrArg (· ^^^ 4129) h
      simpa [Nat.xor_assoc] using this
    omega
  · omega
theorem csN_zero {x : Nat} (hx : x < 65536) : ∀ k, csN k x = 0 → x = 0
  | 0, h => h
  | k + 1, h => csN_zero hx k (cs1_zero (csN_lt hx k) h)
theorem xor_eq_zero' {x y : Nat} (h : x ^^^ y = 0) : x = y := by
  have := congrArg (· ^^^ y) h
  simpa [Nat.xor_assoc] using this
theorem csN_inj {x y k : Nat} (hx : x < 65536) (hy : y < 65536) (h : csN k x = csN k y) : x = y := by
  apply xor_eq_zero'
  apply csN_zero (xor_lt16 hx hy) k
  rw [csN_xor hx hy, h, Nat.xor_self]
attribute [local irreducible] csN
/-- The step by the table. -/
theorem csB_table {n b : Nat} (hn : n < 65536) (hb : b < 256) : csB n b = (n * 256 % 65536) ^^^ tabv ((n / 256) ^^^ b) := by
  have hlo : n % 256 < 256 := Nat.mod_lt _ (by omega)
  have hhi : n / 256 < 256 := by omega
  have hxb : (n / 256) ^^^ b < 2 ^ 8 := Nat.xor_lt_two_pow hhi hb
  have hs : n = (n / 256 * 256) ^^^ (n % 256) := by
    have h1 : n / 256 * 256 = (n / 256) <<< 8 := by rw [Nat.shiftLeft_eq]
    rw [h1]
    apply Nat.eq_of_testBit_eq
    intro i
    rw [Nat.testBit_xor, Nat.testBit_shiftLeft, show (256 : Nat) = 2 ^ 8 from rfl, Nat.testBit_mod_two_pow, Nat.testBit_div_two_pow]
    by_cases hi : i < 8
    · simp [hi, show ¬ 8 ≤ i by omega]
    · simp [hi, show 8 ≤ i by omega]
  have hx : n ^^^ b * 256 = (n % 256) ^^^ (((n / 256) ^^^ b) * 256) := by
    have h2 : ((n / 256) ^^^ b) * 256 = (n / 256 * 256) ^^^ (b * 256) := by
      have h3 := Nat.shiftLeft_xor_distrib (a := n / 256) (b := b) (i := 8)
      rw [Nat.shiftLeft_eq, Nat.shiftLeft_eq, Nat.shiftLeft_eq] at h3
      exact h3
    rw [h2, ← Nat.xor_assoc, Nat.xor_comm (n % 256), ← hs]
  unfold csB tabv
  rw [hx, csN_xor (by omega) (by omega), csN_low hlo 8 (Nat.le_refl _)]
  congr 1
  omega
attribute [local irreducible] csB
theorem crcFrom_cons (n : Nat) (b : Int) (l : List Int) : crcFrom n (b :: l) = crcFrom (csB n b.toNat) l := rfl
theorem crcFrom_lt {l : List Int} : ∀ {n : Nat}, n < 65536 → (∀ z ∈ l, 0 ≤ z ∧ z ≤ 255) → crcFrom n l < 65536 := by
  induction l with
  | nil => intro n h _; exact h
  | cons b l ih =>
    intro n h hl
    have hb := hl b (by simp)
    rw [crcFrom_cons]
    exact ih (csB_lt h (by omega)) (fun z hz => hl z (by simp [hz]))
theorem crcFrom_inj {l : List Int} : ∀ {m n : Nat}, m < 65536 → n < 65536 → (∀ z ∈ l, 0 ≤ z ∧ z ≤ 255) → crcFrom m l = crcFrom n l → m = n := by
  induction l with
  | nil => intro m n _ _ _ h; exact h
  | cons b l ih =>
    intro m n hm hn hl h
    have hb := hl b (by simp)
    rw [crcFrom_cons, crcFrom_cons] at h
    have h2 := ih (csB_lt hm (by omega)) (csB_lt hn (by omega)) (fun z hz => hl z (by simp [hz])) h
    unfold csB at h2
    have h3 := csN_inj (xor_lt16 hm (by omega)) (xor_lt16 hn (by omega)) h2
    have := congrArg (· ^^^ b.toNat * 256) h3
    simpa [Nat.xor_assoc] using this
/-- One changed byte changes the checksum. -/
theorem crcFrom_set {l : List Int} : ∀ {n k : Nat} {v : Int}, n < 65536 → (∀ z ∈ l, 0 ≤ z ∧ z ≤ 255) → 0 ≤ v → v ≤ 255 → (hk : k < l.length) → v ≠ l[k] → crcFrom n (l.set k v) ≠ crcFrom n l := by
  induction l with
  | nil => intro n k v _ _ _ _ hk; simp at hk
  | cons b l ih =>
    intro n k v hn hl h0 h1 hk hne
    have hb := hl b (by simp)
    have hl2 : ∀ z ∈ l, 0 ≤ z ∧ z ≤ 255 := fun z hz => hl z (by simp [hz])
    match k, hk, hne with
    | 0, _, hne =>
      intro h
      simp only [List.set_cons_zero, List.getElem_cons_zero] at h hne
      rw [crcFrom_cons, crcFrom_cons] at h
      have h2 := crcFrom_inj (csB_lt hn (show v.toNat < 256 by omega)) (csB_lt hn (show b.toNat < 256 by omega)) hl2 h
      unfold csB at h2
      have h3 := csN_inj (xor_lt16 hn (by omega)) (xor_lt16 hn (by omega)) h2
      have h4 := congrArg (n ^^^ ·) h3
      simp only [← Nat.xor_assoc, Nat.xor_self, Nat.zero_xor] at h4
      omega
    | k + 1, hk, hne =>
      simp only [List.set_cons_succ]
      rw [crcFrom_cons, crcFrom_cons]
      exact ih (csB_lt hn (by omega)) hl2 h0 h1 (by simpa using hk) (by simpa using hne)
end Go.Proofs.YtpjjadmjdafkeaaDoor
