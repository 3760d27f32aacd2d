/- Opening arguments: lists of byte strings. -/
import Derived.Test.YtmcdlkbofhdnlaaOpen
import Derived.Test.YtmcdlkbofhdnlaaP0
namespace Go.Proofs.Ytmcdlkbofhdnlaa
open Go.RowKit Go.ChangeShapes Go.WideShapes
section
variable {H : Type} {enc : TypeId × Value → H} {w : World}
theorem open_sl_ByteS {v : Value} {d : DataW H} {ps : List MemPlace}
    (hv : ∃ a len cap, v = .slice a len cap) (h : DataW.Trod enc Try.prog w 0 (fun _ => true) true 53 v d ps) :
    ∃ (a : Option Addr) (n c : Nat) (L : List (List Int)), v = .slice a n c ∧ SS w a n L ∧ (n ≤ c ∧ c ≤ maxLen) ∧ ∀ x ∈ L, ∀ z ∈ x, (Lit.int .u8 z).wf = true := by
  obtain ⟨a, n, c, rfl⟩ := hv
  obtain ⟨a', n', c', xs, h1, h2, s, h3⟩ := (Cells.of_trod h).slice1 Try.underlying53 (show Try.prog.cellsOf 22 = 1 from by kernel_rfl)
  simp [Value.cells] at h1
  obtain ⟨rfl, rfl, rfl⟩ := h1
  obtain ⟨L, hl, hL⟩ := list_of (α := List Int) n (fun i zs => ∃ (a2 : Option Addr) (c2 : Nat), xs.getD i undef = .slice a2 zs.length c2 ∧ Sl w a2 zs.length (zs.map (Value.int .u8)) ∧ zs.length ≤ c2 ∧ c2 ≤ maxLen ∧ ∀ z ∈ zs, (Lit.int .u8 z).wf = true) (fun i hi => by
    have hx := h3 (xs.getD i undef) (by rw [List.getD_eq_getElem?_getD, List.getElem?_eq_getElem (by rw [s.1]; exact hi)]; exact List.getElem_mem _)
    obtain ⟨a2, n2, c2, zs, hz, hn2, s2, hzw⟩ := hx.slice_int Try.underlying22 Try.underlying5 (by kernel_rfl)
    simp only [List.cons.injEq, and_true] at hz
    obtain rfl : n2 = zs.length := s2.int_len.symm
    exact ⟨zs, a2, c2, hz, s2, hn2.1, hn2.2, hzw⟩)
  refine ⟨a, n, c, L, rfl, ⟨hl, fun i hi => ?_⟩, h2, fun x hx => ?_⟩
  · obtain ⟨b, off, ha, hc⟩ := s.2 i hi
    obtain ⟨a2, c2, g1, g2, g3, g4, -⟩ := hL i (by omega)
    rw [← lget_eq L i (by omega)] at g1 g2 g3
    exact ⟨b, off, ha, a2, c2, by rw [hc, g1], g2, g3, g4⟩
  · obtain ⟨i, hi, rfl⟩ := List.getElem_of_mem hx
    obtain ⟨a2, c2, g1, g2, g3, g4, g5⟩ := hL i hi
    exact g5
end
end Go.Proofs.Ytmcdlkbofhdnlaa
