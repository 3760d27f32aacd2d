/- Opening arguments: lists of packets. -/
import Derived.Test.YtpjjadmjdafkeaaOpenK
import Derived.Test.YtpjjadmjdafkeaaQ1
namespace Go.Proofs.Ytpjjadmjdafkeaa
open Go.RowKit Go.ChangeShapes Go.WideShapes
section
variable {H : Type} {enc : TypeId × Value → H} {w : World}
set_option maxRecDepth 100000 in
theorem open_sl_Packet {v : Value} {d : DataW H} {ps : List MemPlace}
    (hv : ∃ a len cap, v = .slice a len cap) (h : DataW.Trod enc Try.prog w 0 (fun _ => true) true 41 v d ps) :
    ∃ (a : Option Addr) (n c : Nat) (L : List Pkt), v = .slice a n c ∧ KP w a n L ∧ (n ≤ c ∧ c ≤ maxLen) ∧ ∀ x ∈ L, (Lit.int .i64 x.num).wf = true ∧ (Lit.int .i64 x.fr).wf = true ∧ (Lit.int .i64 x.row).wf = true ∧ (Lit.int .i64 x.part).wf = true ∧ ∀ z ∈ x.data, (Lit.int .u8 z).wf = true := by
  obtain ⟨a, n, c, rfl⟩ := hv
  obtain ⟨a', n', c', h1, h2, h3⟩ := (Cells.of_trod h).slice Try.underlying41 (show Try.prog.cellsOf 24 = 6 from by kernel_rfl)
  simp [Value.cells] at h1
  obtain ⟨rfl, rfl, rfl⟩ := h1
  obtain ⟨L, hl, hL⟩ := list_of (α := Pkt) n (fun i y => (∃ b off, a = some ⟨b, off, none⟩ ∧ PktAt 0 w b (off + i * 6) y) ∧ ((Lit.int .i64 y.num).wf = true ∧ (Lit.int .i64 y.fr).wf = true ∧ (Lit.int .i64 y.row).wf = true ∧ (Lit.int .i64 y.part).wf = true ∧ ∀ z ∈ y.data, (Lit.int .u8 z).wf = true)) (fun i hi => by
    obtain ⟨x, es, ha, h4, h5, h6⟩ := h3 i hi
    obtain ⟨y, a2, c2, rfl, s2, g1, g3, g4, g5, g6, g7⟩ := open_PacketC h4 h6
    obtain ⟨b, off, spot⟩ := x
    have hs : spot = none := by
      obtain ⟨x', es', ha', h4', h5', -⟩ := h3 0 (by omega)
      rw [ha] at ha'
      simp only [Option.some.injEq] at ha'
      subst ha'
      have hc := h5' 0 (by omega)
      match es', h4' with
      | [_, _, _, _, _, _], _ => exact World.cell?_spot (by simpa [Addr.add] using hc)
    subst hs
    have k0 := h5 0 (by omega)
    have k1 := h5 1 (by omega)
    have k2 := h5 2 (by omega)
    have k3 := h5 3 (by omega)
    have k4 := h5 4 (by omega)
    have k5 := h5 5 (by omega)
    rw [Addr.add_lit] at k0 k1 k2 k3 k4 k5
    exact ⟨y, ⟨b, off, ha, a2, y.data.length, c2, ⟨k0, by rw [Nat.add_assoc]; exact k1, by rw [Nat.add_assoc]; exact k2, by rw [Nat.add_assoc]; exact k3, by rw [Nat.add_assoc]; exact k4, by rw [Nat.add_assoc]; exact k5⟩, s2, g1.1, g1.2, fun _ _ => Nat.zero_le _⟩, g4, g5, g6, g7, g3⟩)
  refine ⟨a, n, c, L, rfl, ⟨hl, fun i hi => ?_⟩, h2, fun x hx => ?_⟩
  · rw [kget_eq L i (by omega)]; exact (hL i (by omega)).1
  · obtain ⟨i, hi, rfl⟩ := List.getElem_of_mem hx
    exact (hL i hi).2
end
end Go.Proofs.Ytpjjadmjdafkeaa
