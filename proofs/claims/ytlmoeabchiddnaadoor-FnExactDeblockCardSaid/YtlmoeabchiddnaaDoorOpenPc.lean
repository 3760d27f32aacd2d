/- Opening arguments: pictures. -/
import Derived.Test.YtlmoeabchiddnaaDoorOpen
import Derived.Test.YtlmoeabchiddnaaDoorPc
namespace Go.Proofs.YtlmoeabchiddnaaDoor
open Go.RowKit Go.ChangeShapes Go.WideShapes
section
variable {H : Type} {enc : TypeId × Value → H} {w : World}
set_option maxRecDepth 100000 in
theorem open_PictureC {es : List Value} (hl : es.length = 3) (h6 : Cells enc Tryd.prog w 44 es) :
    ∃ (p : Pic) (a : Option Addr) (c : Nat), es = [.int .i64 p.w, .int .i64 p.h, .slice a p.px.length c] ∧ Sl w a p.px.length (p.px.map (Value.int .i64)) ∧ (p.px.length ≤ c ∧ c ≤ maxLen) := by
  obtain ⟨-, h8⟩ := h6.struct Tryd.underlying44
  match es, hl with
  | [e0, e1, e2], _ =>
    have f0 : Cells enc Tryd.prog w 3 [e0] := by
      have := h8 0 _ rfl
      rw [show Tryd.prog.cellsOf _ = 1 from by kernel_rfl] at this
      exact this
    have f1 : Cells enc Tryd.prog w 3 [e1] := by
      have := h8 1 _ rfl
      rw [show Tryd.prog.cellsOf _ = 1 from by kernel_rfl] at this
      exact this
    have f2 : Cells enc Tryd.prog w 29 [e2] := by
      have := h8 2 _ rfl
      rw [show Tryd.prog.cellsOf _ = 1 from by kernel_rfl] at this
      exact this
    obtain ⟨t0, ht0, -⟩ := f0.int Tryd.underlying3
    obtain ⟨t1, ht1, -⟩ := f1.int Tryd.underlying3
    obtain ⟨a2, n2, c2, zs, hz, hn2, s2, -⟩ := f2.slice_int Tryd.underlying29 Tryd.underlying3 (by kernel_rfl)
    simp only [List.cons.injEq, and_true] at ht0 ht1 hz
    obtain rfl : n2 = zs.length := s2.int_len.symm
    subst ht0 ht1 hz
    exact ⟨⟨t0, t1, zs⟩, a2, c2, rfl, s2, hn2⟩
set_option maxRecDepth 100000 in
theorem open_Picture {r : Reach} {b0 : Nat} {v : Value} {d : DataW H} {ps : List MemPlace}
    (hv : Value.okWide Tryd.prog w r b0 44 v) (h : DataW.Trod enc Tryd.prog w 0 (fun _ => true) true 44 v d ps) :
    ∃ (a : Option Addr) (c : Nat) (p : Pic), v = .agg #[.int .i64 p.w, .int .i64 p.h, .slice a p.px.length c] ∧ Sl w a p.px.length (p.px.map (Value.int .i64)) ∧ (p.px.length ≤ c ∧ c ≤ maxLen) := by
  obtain ⟨cs, rfl, hsz⟩ := okWide_struct Tryd.underlying44 hv
  have hsz6 : cs.toList.length = 3 := by rw [Array.length_toList, hsz]; kernel_rfl
  obtain ⟨p, a, c, h1, h2, h3⟩ := open_PictureC hsz6 (Cells.of_trod h)
  refine ⟨a, c, p, ?_, h2, h3⟩
  have : cs = cs.toList.toArray := by simp
  rw [this, h1]
end
end Go.Proofs.YtlmoeabchiddnaaDoor
