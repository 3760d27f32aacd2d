/- The lost string comes back (plain). -/
import Derived.Test.YtmcdlkbofhdnlaaM3
import Derived.Test.YtmcdlkbofhdnlaaP4
namespace Go.Proofs.Ytmcdlkbofhdnlaa
theorem lget_set_ne {L : List (List Int)} {k t : Nat} {h : List Int} (hne : t ≠ k) : lget (L.set k h) t = lget L t := by
  simp [lget, List.getElem?_set, show ¬ k = t from fun e => hne e.symm]
theorem lget_set_eq {L : List (List Int)} {k : Nat} {h : List Int} (hk : k < L.length) : lget (L.set k h) k = h := by
  simp [lget, List.getElem?_set, hk]
theorem bx_swap {a b c : Int} (ha : byt a) (hb : byt b) (hc : byt c) : bx (bx a b) c = bx (bx a c) b := by
  rw [bx_assoc ha hb hc, bx_comm hb hc, ← bx_assoc ha hc hb]
theorem bx_cancel {a b : Int} (ha : byt a) (hb : byt b) : bx a (bx a b) = b := by
  rw [← bx_assoc ha ha hb, bx_self ha, bx_zero' hb]
theorem bx_cancel2 {a b : Int} (ha : byt a) (hb : byt b) : bx (bx a b) b = a := by
  rw [bx_assoc ha hb hb, bx_self hb, bx_zero ha]
theorem recT_holes {L : List (List Int)} {k : Nat} {h P : List Int} (hs : small L) (hk : k < L.length) (hP : ∀ z ∈ P, byt z) (i : Nat) :
    ∀ t, t ≤ L.length → recT (L.set k h) (k : Int) P t i = bx (nth P i) (bx (parT L t i) (if k < t then fr (lget L k) i else 0))
  | 0, _ => by
    have h0 := nth_byt hP i
    simp [recT, parT]
    rw [bx_zero byt0, bx_zero h0]
  | t + 1, ht => by
    have ih := recT_holes (h := h) hs hk hP i t (by omega)
    have h0 := nth_byt hP i
    have h1 := parT_byt hs t (by omega) i
    have hf : ∀ j, j < L.length → byt (fr (lget L j) i) := fun j hj => fr_byt (hs _ (lget_mem L j hj)).2 (hs _ (lget_mem L j hj)).1 i
    by_cases htk : t = k
    · subst htk
      rw [show recT (L.set t h) (t : Int) P (t + 1) i = recT (L.set t h) (t : Int) P t i by simp [recT], ih, if_neg (by omega), if_pos (by omega)]
      simp only [parT]
      rw [bx_cancel2 h1 (hf t hk), bx_zero h1]
    · have h2 := hf t (by omega)
      have hq : byt (if k < t then fr (lget L k) i else 0) := by split; exact hf k hk; exact byt0
      have he : (if k < t + 1 then fr (lget L k) i else 0) = (if k < t then fr (lget L k) i else 0) := by
        by_cases hkt : k < t
        · rw [if_pos hkt, if_pos (by omega)]
        · rw [if_neg hkt, if_neg (by omega)]
      rw [show recT (L.set k h) (k : Int) P (t + 1) i = bx (recT (L.set k h) (k : Int) P t i) (fr (lget (L.set k h) t) i) by simp only [recT]; rw [if_neg (by omega)], ih, lget_set_ne htk, he]
      simp only [parT]
      rw [bx_swap h1 h2 hq, ← bx_assoc h0 (bx_byt h1 hq) h2]
theorem recv_holes {L : List (List Int)} {k : Nat} {h : List Int} (hg : gvalid L = true) (hL : ∀ s ∈ L, ∀ z ∈ s, byt z) (hk : k < L.length) (hh : h.length ≤ 255) :
    recv (L.set k h) (k : Int) (parity L) = (lget L k, true) := by
  have hv := gvalid_iff.1 hg
  have hs : small L := fun s hs => ⟨hv.2.2 s hs, hL s hs⟩
  obtain ⟨hp, hp1⟩ := parity_pos hg
  have hpl : (parity L).length = sizeT L L.length := by rw [hp, tab_len]
  have hm := sizeT_le hs L.length (Nat.le_refl _)
  have hpb : ∀ z ∈ parity L, byt z := by
    rw [hp]; intro z hz
    obtain ⟨i, -, rfl⟩ := List.mem_map.1 hz
    exact parT_byt hs _ (Nat.le_refl _) i
  have hf : byt (fr (lget L k) 0) := fr_byt (hs _ (lget_mem L k hk)).2 (hs _ (lget_mem L k hk)).1 0
  have hrec : ∀ i, i < sizeT L L.length → recT (L.set k h) (k : Int) (parity L) L.length i = fr (lget L k) i := by
    intro i hi
    rw [recT_holes hs hk hpb i _ (Nat.le_refl _), if_pos hk, hp, nth_tab _ _ _ hi]
    exact bx_cancel (parT_byt hs _ (Nat.le_refl _) i) (fr_byt (hs _ (lget_mem L k hk)).2 (hs _ (lget_mem L k hk)).1 i)
  have hsz := sizeT_ge L L.length k hk
  have h0 : recT (L.set k h) (k : Int) (parity L) L.length 0 = ((lget L k).length : Int) := by rw [hrec 0 (by omega)]; rfl
  have hlen : (L.set k h).length = L.length := by simp
  have hok : recOk (L.set k h) (k : Int) (parity L) := by
    refine ⟨gvalid_iff.2 ⟨by rw [hlen]; exact hv.1, by rw [hlen]; exact hv.2.1, fun s hs => ?_⟩, by omega, by rw [hlen]; omega, hp1, by omega⟩
    rcases List.mem_or_eq_of_mem_set hs with h1 | h1
    · exact hv.2.2 s h1
    · subst h1; exact hh
  have hfits : fits (L.set k h) (k : Int) (parity L).length (L.set k h).length := by
    intro j hj hne
    rw [lget_set_ne (by omega), hpl]
    exact sizeT_ge L L.length j (by omega)
  have hfr : framed (recT (L.set k h) (k : Int) (parity L) (L.set k h).length) (parity L).length := by
    rw [hlen, hpl]
    refine ⟨by rw [h0]; simpa using hsz, fun i hi1 hi2 => ?_⟩
    rw [h0] at hi1
    simp at hi1
    rw [hrec i hi2]
    exact fr_past (by omega)
  rw [recv_yes hok hfits hfr, hlen, h0]
  congr 1
  refine Eq.trans (tab_congr (g := fun i => nth (lget L k) i) fun i hi => ?_) (tab_nth (lget L k)).symm
  simp at hi
  rw [hrec (i + 1) (by omega)]
  simp [fr]
end Go.Proofs.Ytmcdlkbofhdnlaa
