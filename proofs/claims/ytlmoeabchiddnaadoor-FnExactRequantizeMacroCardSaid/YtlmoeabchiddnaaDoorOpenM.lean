/- Opening arguments: macroblocks. -/
import Derived.Test.YtlmoeabchiddnaaDoorOpen
import Derived.Test.YtlmoeabchiddnaaDoorMb
namespace Go.Proofs.YtlmoeabchiddnaaDoor
open Go.RowKit Go.ChangeShapes Go.WideShapes
section
variable {H : Type} {enc : TypeId × Value → H} {P : Program} {w : World}
/-- All cells are well-formed integers. -/
def AllI (cs : List Value) : Prop := ∀ (j : Nat) (v : Value), cs[j]? = some v → ∃ z : Int, v = Value.int .i64 z ∧ (Lit.int .i64 z).wf = true
theorem AllI.of_int {t : TypeId} {cs : List Value} (h : Cells enc P w t cs) (ht : P.underlying t = some (.int .i64)) : AllI cs := by
  obtain ⟨n, rfl, hw⟩ := h.int ht
  intro j v hv
  match j, hv with
  | 0, hv => simp at hv; exact ⟨n, hv.symm, hw⟩
theorem AllI.part {cs : List Value} {o c j : Nat} {v : Value} (h : AllI ((cs.drop o).take c)) (h1 : o ≤ j) (h2 : j < o + c) (hv : cs[j]? = some v) : ∃ z : Int, v = Value.int .i64 z ∧ (Lit.int .i64 z).wf = true := by
  refine h (j - o) v ?_
  rw [List.getElem?_take_of_lt (by omega), List.getElem?_drop, show o + (j - o) = j by omega]
  exact hv
theorem AllI.of_array {t e : TypeId} {n c : Nat} {cs : List Value} (h : Cells enc P w t cs) (ht : P.underlying t = some (.array n e)) (hc : P.cellsOf e = c) (hn : P.cellsOf t = n * c) (hp : 0 < c) (he : ∀ cs, Cells enc P w e cs → AllI cs) : AllI cs := by
  obtain ⟨hl, hx⟩ := h.array ht
  rw [hn] at hl
  rw [hc] at hx
  intro j v hv
  have hj : j < n * c := by rw [← hl]; exact (List.getElem?_eq_some_iff.1 hv).1
  have hd : j / c < n := Nat.div_lt_of_lt_mul (by rw [Nat.mul_comm]; exact hj)
  have hm := Nat.mod_lt j hp
  have e1 : j / c * c + j % c = j := by rw [Nat.mul_comm]; exact Nat.div_add_mod j c
  exact AllI.part (he _ (hx _ hd)) (by omega) (by omega) hv
theorem AllI.ints {cs : List Value} (h : AllI cs) : ∃ zs : List Int, cs = zs.map (Value.int .i64) ∧ ∀ z ∈ zs, (Lit.int .i64 z).wf = true := by
  induction cs with
  | nil => exact ⟨[], rfl, by simp⟩
  | cons v cs ih =>
    obtain ⟨z, rfl, hz⟩ := h 0 v rfl
    obtain ⟨zs, rfl, hw⟩ := ih (fun j u hu => h (j + 1) u (by simpa using hu))
    exact ⟨z :: zs, rfl, by simp [hz]; exact hw⟩
theorem mac_of (zs : List Int) (h : zs.length = 71) : ∃ m : Mac, m.zs = zs ∧ m.ok := by
  match zs, h with
  | k :: x :: y :: r, h =>
    have hr : r.length = 68 := by simpa using h
    refine ⟨⟨k, x, y, r.take 4, r.drop 4⟩, ?_, ⟨by simp; omega, by simp; omega⟩⟩
    simp [Mac.zs]
set_option maxRecDepth 100000 in
theorem open_Macro {r : Reach} {b0 : Nat} {v : Value} {d : DataW H} {ps : List MemPlace}
    (hv : Value.okWide Tryd.prog w r b0 28 v) (h : DataW.Trod enc Tryd.prog w 0 (fun _ => true) true 28 v d ps) :
    ∃ m : Mac, v = .agg (ic m.zs) ∧ m.ok ∧ ∀ z ∈ m.zs, (Lit.int .i64 z).wf = true := by
  obtain ⟨cs, rfl, hsz⟩ := okWide_struct Tryd.underlying28 hv
  have hl : cs.toList.length = 71 := by rw [Array.length_toList, hsz]; kernel_rfl
  have h6 : Cells enc Tryd.prog w 28 cs.toList := Cells.of_trod h
  obtain ⟨-, h8⟩ := h6.struct Tryd.underlying28
  have c1 : Tryd.prog.cellsOf 3 = 1 := by kernel_rfl
  have cV : Tryd.prog.cellsOf 23 = 2 := by kernel_rfl
  have c4 : Tryd.prog.cellsOf 24 = 4 := by kernel_rfl
  have c16 : Tryd.prog.cellsOf 25 = 16 := by kernel_rfl
  have c64 : Tryd.prog.cellsOf 26 = 64 := by kernel_rfl
  have aI : ∀ cs, Cells enc Tryd.prog w 3 cs → AllI cs := fun cs h => AllI.of_int h Tryd.underlying3
  have a4 : ∀ cs, Cells enc Tryd.prog w 24 cs → AllI cs := fun cs h => AllI.of_array h Tryd.underlying24 c1 c4 (by omega) aI
  have a16 : ∀ cs, Cells enc Tryd.prog w 25 cs → AllI cs := fun cs h => AllI.of_array h Tryd.underlying25 c1 c16 (by omega) aI
  have a64 : ∀ cs, Cells enc Tryd.prog w 26 cs → AllI cs := fun cs h => AllI.of_array h Tryd.underlying26 c16 c64 (by omega) a16
  have aV : ∀ cs, Cells enc Tryd.prog w 23 cs → AllI cs := fun cs h j v hv => by
    obtain ⟨hlv, hx⟩ := h.struct Tryd.underlying23
    rw [cV] at hlv
    have hj : j < 2 := by rw [← hlv]; exact (List.getElem?_eq_some_iff.1 hv).1
    have v0 : Cells enc Tryd.prog w 3 ((cs.drop 0).take (Tryd.prog.cellsOf 3)) := hx 0 _ rfl
    have v1 : Cells enc Tryd.prog w 3 ((cs.drop 1).take (Tryd.prog.cellsOf 3)) := hx 1 _ rfl
    rw [c1] at v0 v1
    by_cases h0 : j < 1
    · exact AllI.part (aI _ v0) (by omega) (by omega) hv
    · exact AllI.part (aI _ v1) (by omega) (by omega) hv
  have f0 : Cells enc Tryd.prog w 3 ((cs.toList.drop 0).take (Tryd.prog.cellsOf 3)) := h8 0 _ rfl
  have f1 : Cells enc Tryd.prog w 23 ((cs.toList.drop 1).take (Tryd.prog.cellsOf 23)) := h8 1 _ rfl
  have f2 : Cells enc Tryd.prog w 24 ((cs.toList.drop 3).take (Tryd.prog.cellsOf 24)) := h8 2 _ rfl
  have f3 : Cells enc Tryd.prog w 26 ((cs.toList.drop 7).take (Tryd.prog.cellsOf 26)) := h8 3 _ rfl
  rw [c1] at f0
  rw [cV] at f1
  rw [c4] at f2
  rw [c64] at f3
  have all : AllI cs.toList := fun j v hv => by
    have hj : j < 71 := by rw [← hl]; exact (List.getElem?_eq_some_iff.1 hv).1
    by_cases h0 : j < 1
    · exact AllI.part (aI _ f0) (by omega) (by omega) hv
    by_cases h1 : j < 3
    · exact AllI.part (aV _ f1) (by omega) (by omega) hv
    by_cases h2 : j < 7
    · exact AllI.part (a4 _ f2) (by omega) (by omega) hv
    · exact AllI.part (a64 _ f3) (by omega) (by omega) hv
  obtain ⟨zs, hz, hw⟩ := all.ints
  obtain ⟨m, rfl, hm⟩ := mac_of zs (by rw [← hl, hz]; simp)
  refine ⟨m, ?_, hm, hw⟩
  have : cs = cs.toList.toArray := by simp
  rw [this, hz]
  rfl
end
end Go.Proofs.YtlmoeabchiddnaaDoor
