/- Opening arguments: lists of coded pictures. -/
import Derived.Test.YtmokncpppmchfaaDoorOpen
import Derived.Test.YtmokncpppmchfaaDoorJ1
namespace Go.Proofs.YtmokncpppmchfaaDoor
open Go.RowKit Go.ChangeShapes Go.WideShapes
section
variable {H : Type} {enc : TypeId × Value → H} {w : World}
theorem open_ByteSC {e : Value} (h : Cells enc Tryd.prog w 36 [e]) :
    ∃ (a : Option Addr) (n c : Nat) (f : Nat → List Int), e = .slice a n c ∧ SS w a n (lst n f) ∧ (n ≤ c ∧ c ≤ maxLen) := by
  obtain ⟨a, n, c, xs, h1, h2, s, h3⟩ := h.slice1 Tryd.underlying36 (show Tryd.prog.cellsOf 30 = 1 from by kernel_rfl)
  simp only [List.cons.injEq, and_true] at h1
  obtain ⟨L, hl, hL⟩ := list_of (α := List Int) n (fun i zs => ∃ (a2 : Option Addr) (c2 : Nat), xs.getD i undef = .slice a2 zs.length c2 ∧ Sl w a2 zs.length (zs.map (Value.int .u8)) ∧ zs.length ≤ c2 ∧ c2 ≤ maxLen) (fun i hi => by
    have hx := h3 (xs.getD i undef) (by rw [List.getD_eq_getElem?_getD, List.getElem?_eq_getElem (by rw [s.1]; exact hi)]; exact List.getElem_mem _)
    obtain ⟨a2, n2, c2, zs, hz, hn2, s2, hzw⟩ := hx.slice_int Tryd.underlying30 Tryd.underlying5 (by kernel_rfl)
    simp only [List.cons.injEq, and_true] at hz
    obtain rfl : n2 = zs.length := s2.int_len.symm
    exact ⟨zs, a2, c2, hz, s2, hn2.1, hn2.2⟩)
  refine ⟨a, n, c, lget L, h1, SS.of fun i hi => ?_, h2⟩
  obtain ⟨b, off, ha, hc⟩ := s.2 i hi
  obtain ⟨a2, c2, g1, g2, g3, g4⟩ := hL i (by omega)
  rw [← lget_eq L i (by omega)] at g1 g2 g3
  exact ⟨b, off, ha, a2, c2, by rw [hc, g1], g2, g3, g4⟩
set_option maxRecDepth 100000 in
theorem open_CodedC {es : List Value} (hl : es.length = 5) (h6 : Cells enc Tryd.prog w 41 es) :
    ∃ (x : Cd) (a : Option Addr) (c : Nat), es = [.int .i64 x.w, .int .i64 x.h, .bool x.i, .int .i64 x.q, .slice a x.n c] ∧ SS w a x.n (lst x.n x.f) ∧ (x.n ≤ c ∧ c ≤ maxLen) := by
  obtain ⟨-, h8⟩ := h6.struct Tryd.underlying41
  match es, hl with
  | [e0, e1, e2, e3, e4], _ =>
    have f0 : Cells enc Tryd.prog w 3 [e0] := by
      have := h8 0 _ rfl
      rw [show Tryd.prog.cellsOf _ = 1 from by kernel_rfl] at this
      exact this
    have f1 : Cells enc Tryd.prog w 3 [e1] := by
      have := h8 1 _ rfl
      rw [show Tryd.prog.cellsOf _ = 1 from by kernel_rfl] at this
      exact this
    have f2 : Cells enc Tryd.prog w 4 [e2] := by
      have := h8 2 _ rfl
      rw [show Tryd.prog.cellsOf _ = 1 from by kernel_rfl] at this
      exact this
    have f3 : Cells enc Tryd.prog w 3 [e3] := by
      have := h8 3 _ rfl
      rw [show Tryd.prog.cellsOf _ = 1 from by kernel_rfl] at this
      exact this
    have f4 : Cells enc Tryd.prog w 36 [e4] := by
      have := h8 4 _ rfl
      rw [show Tryd.prog.cellsOf _ = 1 from by kernel_rfl] at this
      exact this
    obtain ⟨t0, ht0, -⟩ := f0.int Tryd.underlying3
    obtain ⟨t1, ht1, -⟩ := f1.int Tryd.underlying3
    obtain ⟨t2, ht2⟩ := f2.bool Tryd.underlying4
    obtain ⟨t3, ht3, -⟩ := f3.int Tryd.underlying3
    obtain ⟨a, n, c, f, hz, s, hn⟩ := open_ByteSC f4
    simp only [List.cons.injEq, and_true] at ht0 ht1 ht2 ht3
    subst ht0 ht1 ht2 ht3 hz
    exact ⟨⟨t0, t1, t2, t3, n, f⟩, a, c, rfl, s, hn⟩
set_option maxRecDepth 100000 in
theorem open_sl_Coded {v : Value} {d : DataW H} {ps : List MemPlace}
    (hv : ∃ a len cap, v = .slice a len cap) (h : DataW.Trod enc Tryd.prog w 0 (fun _ => true) true 22 v d ps) :
    ∃ (a : Option Addr) (n c : Nat) (r : Nat → Cd), v = .slice a n c ∧ CP w a n r ∧ (n ≤ c ∧ c ≤ maxLen) := by
  obtain ⟨a, n, c, rfl⟩ := hv
  obtain ⟨a', n', c', h1, h2, h3⟩ := (Cells.of_trod h).slice Tryd.underlying22 (show Tryd.prog.cellsOf 41 = 5 from by kernel_rfl)
  simp [Value.cells] at h1
  obtain ⟨rfl, rfl, rfl⟩ := h1
  obtain ⟨L, hl, hL⟩ := list_of (α := Cd) n (fun i y => ∃ b off, a = some ⟨b, off, none⟩ ∧ CdAt w b (off + i * 5) y) (fun i hi => by
    obtain ⟨x, es, ha, h4, h5, h6⟩ := h3 i hi
    obtain ⟨y, a2, c2, rfl, s2, g1⟩ := open_CodedC h4 h6
    obtain ⟨b, off, spot⟩ := x
    have hs : spot = none := by
      obtain ⟨x', es', ha', h4', h5', -⟩ := h3 0 (by omega)
      rw [ha] at ha'
      simp only [Option.some.injEq] at ha'
      subst ha'
      have hc := h5' 0 (by omega)
      match es', h4' with
      | [_, _, _, _, _], _ => exact World.cell?_spot (by simpa [Addr.add] using hc)
    subst hs
    have k0 := h5 0 (by omega)
    have k1 := h5 1 (by omega)
    have k2 := h5 2 (by omega)
    have k3 := h5 3 (by omega)
    have k4 := h5 4 (by omega)
    rw [Addr.add_lit] at k0 k1 k2 k3 k4
    exact ⟨y, b, off, ha, a2, c2, ⟨k0, by rw [Nat.add_assoc]; exact k1, by rw [Nat.add_assoc]; exact k2, by rw [Nat.add_assoc]; exact k3, by rw [Nat.add_assoc]; exact k4⟩, s2, g1.1, g1.2⟩)
  refine ⟨a, n, c, fun i => L.getD i cd0, rfl, fun i hi => ?_, h2⟩
  have he : L.getD i cd0 = L[i]'(by omega) := by simp [show i < L.length by omega]
  simp only [he]
  exact hL i (by omega)
end
end Go.Proofs.YtmokncpppmchfaaDoor
