/- Rows of the call's own, kept. -/
import Derived.Test.YtpjjadmjdafkeaaBase
namespace Go.Proofs.Ytpjjadmjdafkeaa
open Go.RowKit
theorem own_gr {w w' : World} {base e size n b : Nat} {v : Value} {xs : List Value} (h : w.ownsRow base e size v n xs) (g : w.grownBy w' (some b)) (hb : b < base) : w'.ownsRow base e size v n xs := by
  refine h.kept g ?_
  cases hv : v.ownBlock with
  | none => exact .inl rfl
  | some k => right; have := (h.lt k hv).1; simp; omega
end Go.Proofs.Ytpjjadmjdafkeaa
