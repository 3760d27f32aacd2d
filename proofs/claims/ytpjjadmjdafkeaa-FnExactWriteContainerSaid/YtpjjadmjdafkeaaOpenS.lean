/- Opening arguments: lists of entries, lists of strings. -/
import Derived.Test.YtpjjadmjdafkeaaOpen
import Derived.Test.YtpjjadmjdafkeaaS1
namespace Go.Proofs.Ytpjjadmjdafkeaa
open Go.RowKit Go.ChangeShapes Go.WideShapes
section
variable {H : Type} {enc : TypeId × Value → H} {w : World}
set_option maxRecDepth 100000 in
theorem open_Sample {es : List Value} (hl : es.length = 3) (h6 : Cells enc Try.prog w 89 es) :
    ∃ (y : Smp) (a : Option Addr) (n c : Nat), es = [.int .i64 y.1, .bool y.2.1, .slice a n c] ∧ Sl w a n (y.2.2.map (Value.int .u8)) ∧ n ≤ c ∧ c ≤ maxLen ∧ (Lit.int .i64 y.1).wf = true ∧ ∀ z ∈ y.2.2, (Lit.int .u8 z).wf = true := by
  obtain ⟨-, h8⟩ := h6.struct Try.underlying89
  match es, hl with
  | [e0, e1, e2], _ =>
    have f0 : Cells enc Try.prog w 3 [e0] := by
      have := h8 0 _ rfl
      rw [show Try.prog.cellsOf _ = 1 from by kernel_rfl] at this
      exact this
    have f1 : Cells enc Try.prog w 4 [e1] := by
      have := h8 1 _ rfl
      rw [show Try.prog.cellsOf _ = 1 from by kernel_rfl] at this
      exact this
    have f2 : Cells enc Try.prog w 22 [e2] := by
      have := h8 2 _ rfl
      rw [show Try.prog.cellsOf _ = 1 from by kernel_rfl] at this
      exact this
    obtain ⟨t, ht, hw⟩ := f0.int Try.underlying3
    obtain ⟨k, hk⟩ := f1.bool Try.underlying4
    obtain ⟨a2, n2, c2, zs, hz, hn2, s2, hzw⟩ := f2.slice_int Try.underlying22 Try.underlying5 (by kernel_rfl)
    simp only [List.cons.injEq, and_true] at ht hk hz
    subst ht hk hz
    exact ⟨(t, k, zs), a2, n2, c2, rfl, s2, hn2.1, hn2.2, hw, hzw⟩
set_option maxRecDepth 100000 in
theorem open_sl_Sample {v : Value} {d : DataW H} {ps : List MemPlace}
    (hv : ∃ a len cap, v = .slice a len cap) (h : DataW.Trod enc Try.prog w 0 (fun _ => true) true 57 v d ps) :
    ∃ (a : Option Addr) (n c : Nat) (L : List Smp), v = .slice a n c ∧ SP w a n L ∧ (n ≤ c ∧ c ≤ maxLen) ∧ ∀ x ∈ L, (Lit.int .i64 x.1).wf = true ∧ ∀ z ∈ x.2.2, (Lit.int .u8 z).wf = true := by
  obtain ⟨a, n, c, rfl⟩ := hv
  obtain ⟨a', n', c', h1, h2, h3⟩ := (Cells.of_trod h).slice Try.underlying57 (show Try.prog.cellsOf 89 = 3 from by kernel_rfl)
  simp [Value.cells] at h1
  obtain ⟨rfl, rfl, rfl⟩ := h1
  obtain ⟨L, hl, hL⟩ := list_of (α := Smp) n (fun i y => (∃ b off, a = some ⟨b, off, none⟩ ∧ SmpAt 0 w b (off + i * 3) y) ∧ ((Lit.int .i64 y.1).wf = true ∧ ∀ z ∈ y.2.2, (Lit.int .u8 z).wf = true)) (fun i hi => by
    obtain ⟨x, es, ha, h4, h5, h6⟩ := h3 i hi
    obtain ⟨y, a2, n2, c2, rfl, s2, g1, g2, g3, g4⟩ := open_Sample h4 h6
    obtain ⟨b, off, spot⟩ := x
    have hs : spot = none := by
      obtain ⟨x', es', ha', h4', h5', -⟩ := h3 0 (by omega)
      rw [ha] at ha'
      simp only [Option.some.injEq] at ha'
      subst ha'
      have hc := h5' 0 (by omega)
      match es', h4' with
      | [_, _, _], _ => exact World.cell?_spot (by simpa [Addr.add] using hc)
    subst hs
    have k0 := h5 0 (by omega)
    have k1 := h5 1 (by omega)
    have k2 := h5 2 (by omega)
    rw [Addr.add_lit] at k0 k1 k2
    exact ⟨y, ⟨b, off, ha, a2, n2, c2, k0, by rw [Nat.add_assoc]; exact k1, by rw [Nat.add_assoc]; exact k2, s2, g1, g2, fun _ _ => Nat.zero_le _⟩, g3, g4⟩)
  refine ⟨a, n, c, L, rfl, ⟨hl, fun i hi => ?_⟩, h2, fun x hx => ?_⟩
  · rw [sget_eq L i (by omega)]; exact (hL i (by omega)).1
  · obtain ⟨i, hi, rfl⟩ := List.getElem_of_mem hx
    exact (hL i hi).2
end
end Go.Proofs.Ytpjjadmjdafkeaa
