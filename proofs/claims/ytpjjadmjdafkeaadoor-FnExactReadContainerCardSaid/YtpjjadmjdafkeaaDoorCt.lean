/- Containers (plain): their bytes. -/
import Derived.Test.YtpjjadmjdafkeaaDoorPk
import Derived.Test.YtpjjadmjdafkeaaDoorS3
namespace Go.Proofs.YtpjjadmjdafkeaaDoor

/-- What stands for an entry at the head. -/
def whead (x : Smp) : List Int := [x.1 / 256, x.1 % 256, flag x.2.1, (x.2.2.length : Int) / 256, (x.2.2.length : Int) % 256]
def wpre (L : List Smp) (k : Nat) : List Int := (L.length : Int) :: (L.take k).flatMap whead
def wdat (L : List Smp) (k : Nat) : List Int := (L.take k).flatMap (fun x => x.2.2)
def wbytes (L : List Smp) : List Int := wpre L L.length ++ wdat L L.length
def wall (L : List Smp) (k : Nat) : List Int := wpre L L.length ++ wdat L k
/-- WriteContainer. -/
def wcont (L : List Smp) : List Int := if svalid L = true then wbytes L else []
theorem wpre_zero (L : List Smp) : wpre L 0 = [(L.length : Int)] := by simp [wpre]
theorem wdat_zero (L : List Smp) : wdat L 0 = [] := by simp [wdat]
theorem take_snoc_s (L : List Smp) {k : Nat} (h : k < L.length) : L.take (k + 1) = L.take k ++ [sget L k] := by
  rw [List.take_succ_eq_append_getElem h, sget_eq L k h]
theorem wpre_succ (L : List Smp) {k : Nat} (h : k < L.length) : wpre L (k + 1) = wpre L k ++ whead (sget L k) := by
  simp [wpre, take_snoc_s L h]
theorem wdat_succ (L : List Smp) {k : Nat} (h : k < L.length) : wdat L (k + 1) = wdat L k ++ (sget L k).2.2 := by
  simp [wdat, take_snoc_s L h]
theorem wpre_len (L : List Smp) : ∀ k, k ≤ L.length → (wpre L k).length = 1 + 5 * k
  | 0, _ => by simp [wpre_zero]
  | k + 1, h => by rw [wpre_succ L (by omega), List.length_append, wpre_len L k (by omega)]; simp [whead]; omega
theorem wdat_len (L : List Smp) (hv : svalid L = true) : ∀ k, k ≤ L.length → (wdat L k).length ≤ 5000 * k
  | 0, _ => by simp [wdat_zero]
  | k + 1, h => by
    have h1 := wdat_len L hv k (by omega)
    have h2 := ((svalid_iff.1 hv).2 k (by omega)).2.2.1
    rw [wdat_succ L (by omega), List.length_append]; omega
theorem wall_zero (L : List Smp) : wall L 0 = wpre L L.length := by simp [wall, wdat_zero]
theorem wall_succ (L : List Smp) {k : Nat} (h : k < L.length) : wall L (k + 1) = wall L k ++ (sget L k).2.2 := by
  simp [wall, wdat_succ L h]
theorem wall_len (L : List Smp) (hv : svalid L = true) (k : Nat) (h : k ≤ L.length) : (wall L k).length ≤ 600000 := by
  have h1 := wpre_len L L.length (Nat.le_refl _)
  have h2 := wdat_len L hv k h
  have h3 := (svalid_iff.1 hv).1
  simp only [wall, List.length_append]; omega
theorem wcont_yes {L : List Smp} (h : svalid L = true) : wcont L = wall L L.length := if_pos h
theorem wcont_no {L : List Smp} (h : svalid L = false) : wcont L = [] := if_neg (by rw [h]; simp)
theorem wcont_len (L : List Smp) : (wcont L).length ≤ 600000 := by
  unfold wcont
  split
  · rename_i h
    have h1 := wpre_len L L.length (Nat.le_refl _)
    have h2 := wdat_len L h L.length (Nat.le_refl _)
    have h3 := (svalid_iff.1 h).1
    simp only [wbytes, List.length_append]; omega
  · simp
end Go.Proofs.YtpjjadmjdafkeaaDoor
