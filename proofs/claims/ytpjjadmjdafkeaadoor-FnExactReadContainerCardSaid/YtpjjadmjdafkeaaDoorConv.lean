/- string(bytes). -/
import Derived.Test.YtpjjadmjdafkeaaDoorBase
import Derived.Laws.BytesArg
namespace Go.Proofs.YtpjjadmjdafkeaaDoor
open Go.RowKit
theorem conv_own (w : World) (base : Nat) (a : Option Addr) (n c : Nat) (xs : List Int) (h : w.ownsRow base 5 1 (.slice a n c) n (xs.map (Value.int .u8))) : (convert 22 9 (.slice a n c)).run Tryd.prog w = .ok (.string (strOfNums xs)) w := by
  have s := Sl.of_owns h
  have hl := s.int_len
  rcases h.2 with ⟨hv, h0⟩ | ⟨g, cap, cur, hv, -⟩
  · simp only [Value.slice.injEq] at hv
    obtain ⟨rfl, rfl, rfl⟩ := hv
    obtain rfl : xs = [] := List.eq_nil_of_length_eq_zero hl
    exact run_convert_bytes_nil (P := Tryd.prog) w 22 5 Tryd.underlying22 Tryd.underlying5 0 0 9 Tryd.underlying9
  · simp only [Value.slice.injEq] at hv
    obtain ⟨rfl, -, rfl⟩ := hv
    exact run_convert_bytes_arg (P := Tryd.prog) w 22 5 Tryd.underlying22 Tryd.underlying5 g 0 n c xs hl (fun i hi => by
      obtain ⟨b2, o2, h2, h3⟩ := s.int hi
      simp only [Option.some.injEq, Addr.mk.injEq, and_true] at h2
      obtain ⟨rfl, rfl⟩ := h2
      exact h3) 9 Tryd.underlying9
end Go.Proofs.YtpjjadmjdafkeaaDoor
