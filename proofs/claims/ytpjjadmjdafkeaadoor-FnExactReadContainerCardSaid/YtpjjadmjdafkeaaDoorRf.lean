/- ReadContainer: what is accepted (plain). -/
import Derived.Test.YtpjjadmjdafkeaaDoorRp
namespace Go.Proofs.YtpjjadmjdafkeaaDoor
open Go.RowKit
/-- ReadContainer finds entries. -/
def rcOk (d : List Int) : Prop := fits d ∧ cAt d (cNum d) = d.length ∧ (∀ i, i < cNum d → cK d i ≤ 1) ∧ svalid (cL d) = true
instance (d : List Int) : Decidable (rcOk d) := by unfold rcOk; infer_instance
def rcL (d : List Int) : List Smp := if rcOk d then cL d else []
theorem fits_at {d : List Int} (h : fits d) {i : Nat} (hi : i ≤ cNum d) : cAt d i ≤ d.length := Nat.le_trans (cAt_le d i _ hi) h.2.2
theorem cN_nn {d : List Int} (hb : bys d) (h : fits d) {i : Nat} (hi : i < cNum d) : 0 ≤ cN d i ∧ cN d i ≤ 65535 := by
  have h1 := h.2.1
  have b0 := bys_nth hb (i := 1 + 5 * i + 3) (by omega)
  have b1 := bys_nth hb (i := 1 + 5 * i + 4) (by omega)
  unfold cN; omega
theorem cD_len {d : List Int} (hf : fits d) {i : Nat} (hi : i < cNum d) : (cD d i).length = (cN d i).toNat := by
  have h1 := fits_at hf (show i + 1 ≤ cNum d from hi)
  simp only [cAt] at h1
  unfold cD
  rw [List.length_take, List.length_drop]; omega
theorem wdat_cL {d : List Int} (hf : fits d) : ∀ k, k ≤ cNum d → wdat (cL d) k = (d.drop (1 + 5 * cNum d)).take (cAt d k - (1 + 5 * cNum d))
  | 0, _ => by simp [wdat_zero, cAt]
  | k + 1, hk => by
    rw [wdat_succ _ (by rw [cL_len]; exact hk), wdat_cL hf k (by omega), cL_get d hk]
    have h1 := fits_at hf (show k + 1 ≤ cNum d from hk)
    have h0 := cAt_le d 0 k (by omega)
    have e0 : cAt d 0 = 1 + 5 * cNum d := rfl
    rw [e0] at h0
    have e1 : cAt d (k + 1) = cAt d k + (cN d k).toNat := rfl
    rw [e1]
    show _ ++ cD d k = _
    have e2 : cAt d k + (cN d k).toNat - (1 + 5 * cNum d) = (cAt d k - (1 + 5 * cNum d)) + (cN d k).toNat := by omega
    rw [e2, List.take_add, List.drop_drop]
    unfold cD
    rw [show 1 + 5 * cNum d + (cAt d k - (1 + 5 * cNum d)) = cAt d k by omega]
/-- The head that would be written: the flag may differ. -/
theorem wpre_cL {d : List Int} (hb : bys d) (hf : fits d) : ∀ k, k ≤ cNum d → ((∀ i, i < k → cK d i ≤ 1) ↔ wpre (cL d) k = d.take (1 + 5 * k))
  | 0, _ => by
    have h1 := hf.1
    have b0 := bys_nth hb (i := 0) (by omega)
    constructor
    · intro _
      rw [wpre_zero, cL_len]
      match d, h1 with
      | x :: l, _ =>
        simp only [nth, List.getD_eq_getElem?_getD, List.getElem?_cons_zero, Option.getD_some] at b0
        simp [cNum, nth]; omega
    · intro _ i hi; omega
  | k + 1, hk => by
    have ih := wpre_cL hb hf k (by omega)
    have h1 := hf.2.1
    have hcn := cN_nn hb hf hk
    have b0 := bys_nth hb (i := 1 + 5 * k) (by omega)
    have b1 := bys_nth hb (i := 1 + 5 * k + 1) (by omega)
    have b2 := bys_nth hb (i := 1 + 5 * k + 2) (by omega)
    have b3 := bys_nth hb (i := 1 + 5 * k + 3) (by omega)
    have b4 := bys_nth hb (i := 1 + 5 * k + 4) (by omega)
    have hh : whead (sget (cL d) k) = [nth d (1 + 5 * k), nth d (1 + 5 * k + 1), flag (cK d k == 1), nth d (1 + 5 * k + 3), nth d (1 + 5 * k + 4)] := by
      rw [cL_get d hk]
      unfold whead
      simp only
      rw [cD_len hf hk, Int.toNat_of_nonneg hcn.1]
      unfold cT cN
      simp only [List.cons.injEq, and_true, true_and]
      omega
    have ht : d.take (1 + 5 * (k + 1)) = d.take (1 + 5 * k) ++ [nth d (1 + 5 * k), nth d (1 + 5 * k + 1), nth d (1 + 5 * k + 2), nth d (1 + 5 * k + 3), nth d (1 + 5 * k + 4)] := by
      rw [show 1 + 5 * (k + 1) = 1 + 5 * k + 5 by omega, List.take_add]
      congr 1
      apply List.ext_getElem
      · simp; omega
      · intro i h2 h3
        simp at h3
        rw [List.getElem_take, List.getElem_drop]
        match i, h3 with
        | 0, _ => simp [nth_eq d (1 + 5 * k) (by omega)]
        | 1, _ => simp [nth_eq d (1 + 5 * k + 1) (by omega)]
        | 2, _ => simp [nth_eq d (1 + 5 * k + 2) (by omega)]
        | 3, _ => simp [nth_eq d (1 + 5 * k + 3) (by omega)]
        | 4, _ => simp [nth_eq d (1 + 5 * k + 4) (by omega)]
    rw [wpre_succ _ (by rw [cL_len]; exact hk), hh, ht]
    have hfl : flag (cK d k == 1) = nth d (1 + 5 * k + 2) ↔ cK d k ≤ 1 := by
      unfold cK
      constructor
      · intro h; have := flag_le (nth d (1 + 5 * k + 2) == 1); omega
      · intro h; exact flag_dec b2.1 h
    constructor
    · intro h
      rw [ih.1 (fun i hi => h i (by omega)), hfl.2 (h k (by omega))]
    · intro h
      have hl : (wpre (cL d) k).length = (d.take (1 + 5 * k)).length := by
        rw [wpre_len _ _ (by rw [cL_len]; omega), List.length_take]; omega
      obtain ⟨g1, g2⟩ := List.append_inj h hl
      simp only [List.cons.injEq] at g2
      intro i hi
      by_cases hik : i = k
      · subst hik; exact hfl.1 g2.2.2.1
      · exact ih.2 g1 i (by omega)
theorem wdat_bys {L : List Smp} (h : ∀ x ∈ L, bys x.2.2) (k : Nat) : bys (wdat L k) := by
  intro z hz
  unfold wdat at hz
  obtain ⟨x, hx, hzx⟩ := List.mem_flatMap.1 hz
  exact h x (List.mem_of_mem_take hx) z hzx
theorem wcont_bys0 {L : List Smp} (h : ∀ x ∈ L, bys x.2.2) : bys (wcont L) := by
  unfold wcont
  split
  · rename_i hv
    obtain ⟨h1, h2⟩ := svalid_iff.1 hv
    intro z hz
    unfold wbytes at hz
    rcases List.mem_append.1 hz with hz | hz
    · unfold wpre at hz
      rcases List.mem_cons.1 hz with rfl | hz
      · omega
      · obtain ⟨x, hx, hzx⟩ := List.mem_flatMap.1 hz
        have hxL := List.mem_of_mem_take hx
        obtain ⟨j, hj, rfl⟩ := List.getElem_of_mem hxL
        have hs := h2 j hj
        unfold sok at hs
        rw [sget_eq L j hj] at hs
        have hf := flag_le (L[j]).2.1
        simp only [whead, List.mem_cons, List.not_mem_nil, or_false] at hzx
        omega
    · exact wdat_bys h _ z hz
  · intro z hz; simp at hz
theorem wcont_bys {d : List Int} (hb : bys d) (_ : fits d) : bys (wcont (cL d)) := by
  refine wcont_bys0 fun x hx => ?_
  simp only [cL, List.mem_map] at hx
  obtain ⟨i, -, rfl⟩ := hx
  intro z hz
  exact hb z (List.mem_of_mem_drop (List.mem_of_mem_take hz))
/-- Written again and the same: just what the reference accepts. -/
theorem rc_iff {d : List Int} (hb : bys d) (hf : fits d) : wcont (cL d) = d ↔ rcOk d := by
  have hn := hf.2.1
  have e0 : cAt d 0 = 1 + 5 * cNum d := rfl
  have h0 := cAt_le d 0 (cNum d) (by omega)
  rw [e0] at h0
  constructor
  · intro h
    have hv : svalid (cL d) = true := by
      cases hs : svalid (cL d) with
      | true => rfl
      | false =>
        rw [wcont_no hs] at h
        have := hf.1
        rw [← h] at this
        simp at this
    rw [wcont_yes hv, cL_len] at h
    unfold wall at h
    rw [cL_len, wdat_cL hf _ (Nat.le_refl _)] at h
    have hl : (wpre (cL d) (cNum d)).length = 1 + 5 * cNum d := wpre_len _ _ (by rw [cL_len]; exact Nat.le_refl _)
    have h2 : wpre (cL d) (cNum d) = d.take (1 + 5 * cNum d) := by
      have := congrArg (List.take (1 + 5 * cNum d)) h
      rwa [List.take_append_of_le_length (by omega), List.take_of_length_le (by omega)] at this
    refine ⟨hf, ?_, (wpre_cL hb hf _ (Nat.le_refl _)).2 h2, hv⟩
    have h3 := congrArg List.length h
    rw [List.length_append, hl, List.length_take, List.length_drop] at h3
    have h4 := hf.2.2
    omega
  · rintro ⟨-, hat, hfl, hv⟩
    rw [wcont_yes hv, cL_len]
    unfold wall
    rw [cL_len, wdat_cL hf _ (Nat.le_refl _), (wpre_cL hb hf _ (Nat.le_refl _)).1 hfl, hat]
    have hx : (d.drop (1 + 5 * cNum d)).take (d.length - (1 + 5 * cNum d)) = d.drop (1 + 5 * cNum d) := List.take_of_length_le (by simp)
    rw [hx, List.take_append_drop]
theorem nth_wpre (L : List Smp) {i r : Nat} (hr : r < 5) : ∀ k, k ≤ L.length → i < k → nth (wpre L k) (1 + 5 * i + r) = nth (whead (sget L i)) r
  | 0, _, hi => by omega
  | k + 1, hk, hi => by
    rw [wpre_succ L (by omega)]
    have hl := wpre_len L k (by omega)
    by_cases hik : i = k
    · subst hik
      unfold nth
      rw [List.getD_eq_getElem?_getD, List.getElem?_append_right (by omega), hl, show 1 + 5 * i + r - (1 + 5 * i) = r by omega, List.getD_eq_getElem?_getD]
    · have ih := nth_wpre L (r := r) hr k (by omega) (show i < k by omega)
      rw [← ih]
      unfold nth
      rw [List.getD_eq_getElem?_getD, List.getElem?_append_left (by omega), List.getD_eq_getElem?_getD]
theorem wdat_split (L : List Smp) {i : Nat} (hi : i < L.length) : ∃ rest, wdat L L.length = wdat L i ++ ((sget L i).2.2 ++ rest) := by
  refine ⟨(L.drop (i + 1)).flatMap (fun x => x.2.2), ?_⟩
  have h1 : L = L.take i ++ (sget L i :: L.drop (i + 1)) := by
    rw [sget_eq L i hi, ← List.drop_eq_getElem_cons hi, List.take_append_drop]
  unfold wdat
  rw [List.take_length]
  conv => lhs; rw [h1]
  rw [List.flatMap_append, List.flatMap_cons]
/-- What was written is read back. -/
theorem rc_wcont {L : List Smp} (hv : svalid L = true) (hb : ∀ x ∈ L, bys x.2.2) : rcOk (wcont L) ∧ cL (wcont L) = L := by
  obtain ⟨hv1, hv2⟩ := svalid_iff.1 hv
  have hbd := wcont_bys0 hb
  have hd : wcont L = wpre L L.length ++ wdat L L.length := by rw [wcont_yes hv]; rfl
  have hpl := wpre_len L L.length (Nat.le_refl _)
  generalize wcont L = d at *
  have hnth : ∀ j, j < 1 + 5 * L.length → nth d j = nth (wpre L L.length) j := fun j hj => by
    rw [hd]; unfold nth
    rw [List.getD_eq_getElem?_getD, List.getElem?_append_left (by omega), List.getD_eq_getElem?_getD]
  have hnum : cNum d = L.length := by
    unfold cNum
    rw [hnth 0 (by omega)]
    simp [wpre, nth]
  have hx : ∀ i, i < L.length → cT d i = (sget L i).1 ∧ cK d i = flag (sget L i).2.1 ∧ cN d i = ((sget L i).2.2.length : Int) := fun i hi => by
    have hs := hv2 i hi
    have g0 := nth_wpre L (i := i) (r := 0) (by omega) L.length (Nat.le_refl _) hi
    have g1 := nth_wpre L (i := i) (r := 1) (by omega) L.length (Nat.le_refl _) hi
    have g2 := nth_wpre L (i := i) (r := 2) (by omega) L.length (Nat.le_refl _) hi
    have g3 := nth_wpre L (i := i) (r := 3) (by omega) L.length (Nat.le_refl _) hi
    have g4 := nth_wpre L (i := i) (r := 4) (by omega) L.length (Nat.le_refl _) hi
    unfold cT cK cN
    rw [hnth (1 + 5 * i) (by omega), hnth (1 + 5 * i + 1) (by omega), hnth (1 + 5 * i + 2) (by omega), hnth (1 + 5 * i + 3) (by omega), hnth (1 + 5 * i + 4) (by omega)]
    rw [Nat.add_zero] at g0
    rw [g0, g1, g2, g3, g4]
    simp only [whead, nth, List.getD_eq_getElem?_getD, List.getElem?_cons_zero, List.getElem?_cons_succ, Option.getD_some]
    refine ⟨by omega, trivial, by omega⟩
  have hat : ∀ i, i ≤ L.length → cAt d i = 1 + 5 * L.length + (wdat L i).length := by
    intro i
    induction i with
    | zero => intro _; simp [cAt, hnum, wdat_zero]
    | succ i ih =>
      intro hi
      have h1 := ih (by omega)
      have h2 := (hx i hi).2.2
      simp only [cAt, h1, h2, wdat_succ L hi, List.length_append]
      omega
  have hcd : ∀ i, i < L.length → cD d i = (sget L i).2.2 := fun i hi => by
    obtain ⟨rest, hr⟩ := wdat_split L hi
    unfold cD
    rw [hat i (by omega), (hx i hi).2.2, hd, hr, ← hpl, Int.toNat_natCast, ← List.drop_drop, List.drop_left, List.drop_left, List.take_left]
  have hcl : cL d = L := by
    apply List.ext_getElem
    · rw [cL_len, hnum]
    · intro i h1 h2
      rw [← sget_eq _ _ h1, ← sget_eq _ _ h2, cL_get d (by rw [hnum]; exact h2), (hx i h2).1, (hx i h2).2.1, hcd i h2]
      have : ((flag (sget L i).2.1 == 1) : Bool) = (sget L i).2.1 := dec_flag _
      rw [this]
  have hlen : d.length = 1 + 5 * L.length + (wdat L L.length).length := by rw [hd, List.length_append, hpl]
  refine ⟨⟨⟨by omega, by rw [hnum]; omega, by rw [hnum, hat _ (Nat.le_refl _)]; omega⟩, by rw [hnum, hat _ (Nat.le_refl _)]; omega, fun i hi => ?_, by rw [hcl]; exact hv⟩, hcl⟩
  rw [hnum] at hi
  rw [(hx i hi).2.1]
  exact (flag_le _).2
end Go.Proofs.YtpjjadmjdafkeaaDoor
