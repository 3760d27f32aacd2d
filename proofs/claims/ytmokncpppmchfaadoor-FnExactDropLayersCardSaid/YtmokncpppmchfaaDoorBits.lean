/- Bit operations of i64 numbers that are not negative. -/
import Derived.Test.YtmokncpppmchfaaDoorBase
import Derived.Laws.Bits64
namespace Go.Proofs.YtmokncpppmchfaaDoor
open Go.RowKit

theorem i64_nat_ofInt (a : Nat) (ha : a < 9223372036854775808) : (BitVec.ofInt 64 (a : Int)).toNat = a := by
  rw [BitVec.ofInt_natCast, BitVec.toNat_ofNat]; exact Nat.mod_eq_of_lt (by omega)
theorem i64_xor_nat (a b : Nat) (ha : a < 2^63) (hb : b < 2^63) : bits .xor .i64 (a : Int) (b : Int) = ((a ^^^ b : Nat) : Int) := by
  have hx : a ^^^ b < 2 ^ 63 := Nat.xor_lt_two_pow ha hb
  show IntKind.i64.wrap ((BitVec.ofInt 64 (a : Int) ^^^ BitVec.ofInt 64 (b : Int)).toNat : Int) = _
  rw [BitVec.toNat_xor, i64_nat_ofInt a (by omega), i64_nat_ofInt b (by omega), IntKind.wrap_i64]
  omega
theorem i64_or_nat (a b : Nat) (ha : a < 2^63) (hb : b < 2^63) : bits .or .i64 (a : Int) (b : Int) = ((a ||| b : Nat) : Int) := by
  have hx : a ||| b < 2 ^ 63 := Nat.or_lt_two_pow ha hb
  show IntKind.i64.wrap ((BitVec.ofInt 64 (a : Int) ||| BitVec.ofInt 64 (b : Int)).toNat : Int) = _
  rw [BitVec.toNat_or, i64_nat_ofInt a (by omega), i64_nat_ofInt b (by omega), IntKind.wrap_i64]
  omega
theorem i64_xor_range (x y : Int) (hx : 0 ≤ x ∧ x < 9223372036854775808) (hy : 0 ≤ y ∧ y < 9223372036854775808) : 0 ≤ bits .xor .i64 x y := by
  have := i64_xor_nat x.toNat y.toNat (by omega) (by omega)
  rw [Int.toNat_of_nonneg hx.1, Int.toNat_of_nonneg hy.1] at this
  rw [this]
  omega
theorem grown_ext {w w1 w2 : World} {row : Option Nat} (h : w.grownBy w1 row) (e : Ext w1 w2) : w.grownBy w2 row :=
  ⟨e.os.trans h.os, e.tape.trans h.tape, e.output.trans h.output, Nat.le_trans h.size e.size, fun k hk hr => (e.block k (Nat.lt_of_lt_of_le hk h.size)).trans (h.block k hk hr)⟩
theorem grown_trans {w w1 w2 : World} {row : Option Nat} (h : w.grownBy w1 row) (e : w1.grownBy w2 row) : w.grownBy w2 row :=
  ⟨e.os.trans h.os, e.tape.trans h.tape, e.output.trans h.output, Nat.le_trans h.size e.size, fun k hk hr => (e.block k (Nat.lt_of_lt_of_le hk h.size) hr).trans (h.block k hk hr)⟩
theorem ext_grown {w w1 w2 : World} {row : Option Nat} (h : Ext w w1) (e : w1.grownBy w2 row) : w.grownBy w2 row :=
  ⟨e.os.trans h.os, e.tape.trans h.tape, e.output.trans h.output, Nat.le_trans h.size e.size, fun k hk hr => (e.block k (Nat.lt_of_lt_of_le hk h.size) hr).trans (h.block k hk)⟩
theorem grown_refl (w : World) (row : Option Nat) : w.grownBy w row := ⟨rfl, rfl, rfl, Nat.le_refl _, fun _ _ _ => rfl⟩
end Go.Proofs.YtmokncpppmchfaaDoor
