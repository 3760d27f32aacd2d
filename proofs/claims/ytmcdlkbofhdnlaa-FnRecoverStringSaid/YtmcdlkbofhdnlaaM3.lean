/- Parity: the order does not matter; twice the same is zero; the lost one comes back (plain). -/
import Derived.Test.YtmcdlkbofhdnlaaP0
namespace Go.Proofs.Ytmcdlkbofhdnlaa

/-- The bytes of l together. -/
def xall (l : List Int) : Int := l.foldl bx 0
def bytes (l : List Int) : Prop := ∀ z ∈ l, byt z
theorem byt0 : byt 0 := ⟨by omega, by omega⟩
theorem bx_zero' {a : Int} (ha : byt a) : bx 0 a = a := by rw [bx_comm byt0 ha]; exact bx_zero ha
theorem foldl_byt {l : List Int} : ∀ {a : Int}, byt a → bytes l → byt (l.foldl bx a) := by
  induction l with
  | nil => intro a ha _; exact ha
  | cons x l ih => intro a ha h; exact ih (bx_byt ha (h x (by simp))) (fun z hz => h z (by simp [hz]))
theorem xall_byt {l : List Int} (h : bytes l) : byt (xall l) := foldl_byt byt0 h
theorem foldl_bx {l : List Int} : ∀ {a : Int}, byt a → bytes l → l.foldl bx a = bx a (xall l) := by
  induction l with
  | nil => intro a ha _; simp [xall, bx_zero ha]
  | cons x l ih =>
    intro a ha h
    have hx := h x (by simp)
    have hl : bytes l := fun z hz => h z (by simp [hz])
    simp only [List.foldl_cons, xall]
    rw [ih (bx_byt ha hx) hl, bx_zero' hx, ih hx hl, bx_assoc ha hx (xall_byt hl)]
theorem xall_cons {x : Int} {l : List Int} (hx : byt x) (h : bytes l) : xall (x :: l) = bx x (xall l) := by
  simp only [xall, List.foldl_cons]
  rw [bx_zero' hx, foldl_bx hx h]; rfl
theorem xall_snoc (l : List Int) (x : Int) : xall (l ++ [x]) = bx (xall l) x := by simp [xall]
theorem xall_reverse {l : List Int} (h : bytes l) : xall l.reverse = xall l := by
  induction l with
  | nil => rfl
  | cons x l ih =>
    have hx := h x (by simp)
    have hl : bytes l := fun z hz => h z (by simp [hz])
    rw [List.reverse_cons, xall_snoc, ih hl, xall_cons hx hl, bx_comm (xall_byt hl) hx]
theorem parT_all (L : List (List Int)) : ∀ t, t ≤ L.length → ∀ i, parT L t i = xall ((L.take t).map fun s => fr s i)
  | 0, _, i => by simp [parT, xall]
  | t + 1, ht, i => by
    rw [List.take_succ_eq_append_getElem (by omega), List.map_append, List.map_cons, List.map_nil, xall_snoc, ← parT_all L t (by omega) i, ← lget_eq L t (by omega)]
    rfl
theorem parT_full (L : List (List Int)) (i : Nat) : parT L L.length i = xall (L.map fun s => fr s i) := by
  rw [parT_all L _ (Nat.le_refl _), List.take_length]
theorem frs_bytes {L : List (List Int)} (h : small L) (i : Nat) : bytes (L.map fun s => fr s i) := by
  intro z hz
  obtain ⟨s, hs, rfl⟩ := List.mem_map.1 hz
  exact fr_byt (h s hs).2 (h s hs).1 i
theorem sizeT_ub (L : List (List Int)) (B : Nat) : ∀ t, (∀ i, i < t → (lget L i).length + 1 ≤ B) → sizeT L t ≤ B
  | 0, _ => by simp [sizeT]
  | t + 1, h => by
    simp only [sizeT]
    have := sizeT_ub L B t (fun i hi => h i (by omega))
    have := h t (by omega)
    omega
theorem sizeT_mem {L : List (List Int)} {s : List Int} (h : s ∈ L) : s.length + 1 ≤ sizeT L L.length := by
  obtain ⟨i, hi, rfl⟩ := List.getElem_of_mem h
  rw [← lget_eq L i hi]
  exact sizeT_ge L L.length i hi
theorem sizeT_perm {L M : List (List Int)} (h : ∀ s, s ∈ L ↔ s ∈ M) : sizeT L L.length = sizeT M M.length := by
  apply Nat.le_antisymm
  · exact sizeT_ub L _ _ (fun i hi => sizeT_mem ((h _).1 (lget_mem L i hi)))
  · exact sizeT_ub M _ _ (fun i hi => sizeT_mem ((h _).2 (lget_mem M i hi)))
theorem parity_reverse {L : List (List Int)} (h : ∀ s ∈ L, ∀ z ∈ s, byt z) : parity L.reverse = parity L := by
  have hg : gvalid L.reverse = gvalid L := by
    rw [Bool.eq_iff_iff, gvalid_iff, gvalid_iff]; simp
  unfold parity
  rw [hg]
  split
  · rename_i hv
    have hsm : small L := fun s hs => ⟨(gvalid_iff.1 hv).2.2 s hs, h s hs⟩
    rw [sizeT_perm (L := L.reverse) (M := L) (by simp)]
    refine tab_congr fun i _ => ?_
    rw [parT_full, parT_full, List.map_reverse, xall_reverse (frs_bytes hsm i)]
  · rfl
theorem parity_twice {s : List Int} (h : ∀ z ∈ s, byt z) (hl : s.length ≤ 255) : parity [s, s] = tab (s.length + 1) (fun _ => 0) := by
  have hg : gvalid [s, s] = true := gvalid_iff.2 ⟨by simp, by simp, fun x hx => by simp at hx; subst hx; exact hl⟩
  have hz : sizeT [s, s] 2 = s.length + 1 := by simp [sizeT, lget]
  unfold parity
  rw [if_pos hg, show ([s, s] : List (List Int)).length = 2 from rfl, hz]
  refine tab_congr fun i _ => ?_
  have hb := fr_byt h hl i
  show bx (bx 0 (fr s i)) (fr s i) = 0
  rw [bx_zero' hb, bx_self hb]
theorem parity_pos {L : List (List Int)} (h : gvalid L = true) : parity L = tab (sizeT L L.length) (parT L L.length) ∧ 1 ≤ (parity L).length := by
  have hp : parity L = tab (sizeT L L.length) (parT L L.length) := if_pos h
  refine ⟨hp, ?_⟩
  rw [hp, tab_len]
  have := sizeT_ge L L.length 0 (gvalid_iff.1 h).1
  omega
end Go.Proofs.Ytmcdlkbofhdnlaa
