/- The cursor: contracts of one and pair; what readContainer reads (plain). -/
import Derived.Test.YtpjjadmjdafkeaaDoorCu
import Derived.Test.YtpjjadmjdafkeaaDoorCt
namespace Go.Proofs.YtpjjadmjdafkeaaDoor
open Go.RowKit
set_option maxHeartbeats 1000000
def tk1 (rest : List Int) (er : Bool) : Int := nth (tkB rest er 1) 0
def tk2 (rest : List Int) (er : Bool) : Int := nth (tkB rest er 2) 0 * 256 + nth (tkB rest er 2) 1
theorem bys_nth {l : List Int} (h : bys l) {i : Nat} (hi : i < l.length) : 0 ≤ nth l i ∧ nth l i ≤ 255 := h _ (by rw [nth_eq _ _ hi]; exact List.getElem_mem hi)
theorem tk1_le {rest : List Int} (hb : bys rest) (er : Bool) : 0 ≤ tk1 rest er ∧ tk1 rest er ≤ 255 := bys_nth (tkB_bys hb er 1) (by rw [tkB_len]; omega)
theorem tk2_le {rest : List Int} (hb : bys rest) (er : Bool) : 0 ≤ tk2 rest er ∧ tk2 rest er ≤ 65535 := by
  have h0 := bys_nth (tkB_bys hb er 2) (i := 0) (by rw [tkB_len]; omega)
  have h1 := bys_nth (tkB_bys hb er 2) (i := 1) (by rw [tkB_len]; omega)
  unfold tk2; omega
theorem one_any (q : Nat) (s : ByteArray) (rest : List Int) (er : Bool) (w : World) (hb : bys rest) (h : CuS w q rest er) :
    Calls Tryd.prog 38 #[.pointer (some ⟨q, 0, none⟩), .string s] w fun e w' => e = .returned (.int .i64 (tk1 rest er)) ∧ CuS w' q (tkR rest er 1) (tkE rest er 1) ∧ w.grownBy w' (some q) := by
  have hr := tk1_le hb er
  have hv : wrap64 (tk1 rest er) = tk1 rest er := by unfold wrap64; omega
  go_enter Tryd.func38, Tryd.ntmps38
  go_wp2_with fail
  refine (take_any q 1 s rest er w (by omega) h).mono ?_
  rintro e w1 ⟨a, c, rfl, own, hC, g⟩
  obtain ⟨b1, o1, rfl, g1⟩ := (Sl.of_owns own).int (i := 0) (by omega)
  change w1.cell? _ = some (.int .u8 (tk1 rest er)) at g1
  obtain ⟨x, hx⟩ : ∃ x, x = tk1 rest er := ⟨_, rfl⟩
  have HX := Lib.hid hx
  rw [← hx] at g1 hr hv
  rw [Nat.add_zero] at g1
  clear hx
  go_wp2
  go_ret
  exact ⟨by rw [← HX.out]; rfl, hC, g⟩
theorem pair_any (q : Nat) (s : ByteArray) (rest : List Int) (er : Bool) (w : World) (hb : bys rest) (h : CuS w q rest er) :
    Calls Tryd.prog 39 #[.pointer (some ⟨q, 0, none⟩), .string s] w fun e w' => e = .returned (.int .i64 (tk2 rest er)) ∧ CuS w' q (tkR rest er 2) (tkE rest er 2) ∧ w.grownBy w' (some q) := by
  go_enter Tryd.func39, Tryd.ntmps39
  go_wp2_with fail
  refine (take_any q 2 s rest er w (by omega) h).mono ?_
  rintro e w1 ⟨a, c, rfl, own, hC, g⟩
  have hcap := owns_cap own
  unfold maxLen at hcap
  go_wp2_with fail
  refine (pairAt_any a c 2 (tkB rest er 2) 0 w1 (by omega) (Sl.of_owns own) (tkB_bys hb er 2) (by omega)).mono ?_
  rintro e w2 ⟨rfl, m, rfl⟩
  have e2 : Ext w1 (w1.drewN m) := Ext.drewN _ _
  go_wp2
  go_ret
  exact ⟨rfl, hC.gr (ext_gr' e2), grown_ext g e2⟩
end Go.Proofs.YtpjjadmjdafkeaaDoor
