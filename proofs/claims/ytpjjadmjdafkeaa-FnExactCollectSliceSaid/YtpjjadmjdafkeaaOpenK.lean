/- Opening arguments: packets, lists of packets. -/
import Derived.Test.YtpjjadmjdafkeaaOpen
import Derived.Test.YtpjjadmjdafkeaaPk
namespace Go.Proofs.Ytpjjadmjdafkeaa
open Go.RowKit Go.ChangeShapes Go.WideShapes
section
variable {H : Type} {enc : TypeId × Value → H} {w : World}
set_option maxRecDepth 100000 in
theorem open_PacketC {es : List Value} (hl : es.length = 6) (h6 : Cells enc Try.prog w 24 es) :
    ∃ (p : Pkt) (a : Option Addr) (c : Nat), es = [.int .i64 p.num, .int .i64 p.fr, .int .i64 p.row, .int .i64 p.part, .bool p.last, .slice a p.data.length c] ∧ Sl w a p.data.length (p.data.map (Value.int .u8)) ∧ (p.data.length ≤ c ∧ c ≤ maxLen) ∧ (∀ z ∈ p.data, (Lit.int .u8 z).wf = true) ∧ (Lit.int .i64 p.num).wf = true ∧ (Lit.int .i64 p.fr).wf = true ∧ (Lit.int .i64 p.row).wf = true ∧ (Lit.int .i64 p.part).wf = true := by
  obtain ⟨-, h8⟩ := h6.struct Try.underlying24
  match es, hl with
  | [e0, e1, e2, e3, e4, e5], _ =>
    have f0 : Cells enc Try.prog w 3 [e0] := by
      have := h8 0 _ rfl
      rw [show Try.prog.cellsOf _ = 1 from by kernel_rfl] at this
      exact this
    have f1 : Cells enc Try.prog w 3 [e1] := by
      have := h8 1 _ rfl
      rw [show Try.prog.cellsOf _ = 1 from by kernel_rfl] at this
      exact this
    have f2 : Cells enc Try.prog w 3 [e2] := by
      have := h8 2 _ rfl
      rw [show Try.prog.cellsOf _ = 1 from by kernel_rfl] at this
      exact this
    have f3 : Cells enc Try.prog w 3 [e3] := by
      have := h8 3 _ rfl
      rw [show Try.prog.cellsOf _ = 1 from by kernel_rfl] at this
      exact this
    have f4 : Cells enc Try.prog w 4 [e4] := by
      have := h8 4 _ rfl
      rw [show Try.prog.cellsOf _ = 1 from by kernel_rfl] at this
      exact this
    have f5 : Cells enc Try.prog w 22 [e5] := by
      have := h8 5 _ rfl
      rw [show Try.prog.cellsOf _ = 1 from by kernel_rfl] at this
      exact this
    obtain ⟨t0, ht0, hw0⟩ := f0.int Try.underlying3
    obtain ⟨t1, ht1, hw1⟩ := f1.int Try.underlying3
    obtain ⟨t2, ht2, hw2⟩ := f2.int Try.underlying3
    obtain ⟨t3, ht3, hw3⟩ := f3.int Try.underlying3
    obtain ⟨k, hk⟩ := f4.bool Try.underlying4
    obtain ⟨a2, n2, c2, zs, hz, hn2, s2, hzw⟩ := f5.slice_int Try.underlying22 Try.underlying5 (by kernel_rfl)
    simp only [List.cons.injEq, and_true] at ht0 ht1 ht2 ht3 hk hz
    obtain rfl : n2 = zs.length := s2.int_len.symm
    subst ht0 ht1 ht2 ht3 hk hz
    exact ⟨⟨t0, t1, t2, t3, k, zs⟩, a2, c2, rfl, s2, hn2, hzw, hw0, hw1, hw2, hw3⟩
set_option maxRecDepth 100000 in
theorem open_Packet {r : Reach} {b0 : Nat} {v : Value} {d : DataW H} {ps : List MemPlace}
    (hv : Value.okWide Try.prog w r b0 24 v) (h : DataW.Trod enc Try.prog w 0 (fun _ => true) true 24 v d ps) :
    ∃ (a : Option Addr) (c : Nat) (p : Pkt), v = .agg #[.int .i64 p.num, .int .i64 p.fr, .int .i64 p.row, .int .i64 p.part, .bool p.last, .slice a p.data.length c] ∧ Sl w a p.data.length (p.data.map (Value.int .u8)) ∧ (p.data.length ≤ c ∧ c ≤ maxLen) ∧ (∀ z ∈ p.data, (Lit.int .u8 z).wf = true) := by
  obtain ⟨cs, rfl, hsz⟩ := okWide_struct Try.underlying24 hv
  have hsz6 : cs.toList.length = 6 := by rw [Array.length_toList, hsz]; kernel_rfl
  obtain ⟨p, a, c, h1, h2, h3, h4, -⟩ := open_PacketC hsz6 (Cells.of_trod h)
  refine ⟨a, c, p, ?_, h2, h3, h4⟩
  have : cs = cs.toList.toArray := by simp
  rw [this, h1]
end
end Go.Proofs.Ytpjjadmjdafkeaa
