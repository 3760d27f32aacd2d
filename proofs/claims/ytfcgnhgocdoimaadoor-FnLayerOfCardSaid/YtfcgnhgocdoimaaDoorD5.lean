/- Drawing: the arguments of the layers' laws. -/
import Derived.Test.YtfcgnhgocdoimaaDoorD2
namespace Go.Proofs.YtfcgnhgocdoimaaDoor
open Go.RowKit
set_option maxHeartbeats 400000
theorem DrawLayerOf_any (a : Option Addr) (c n : Nat) (zs : List Int) (w : World) (hc : n ≤ c) (hc2 : c ≤ 9223372036854775807) (r : Sl w a n (zs.map (Value.int .u8))) (hz : ∀ z ∈ zs, 0 ≤ z ∧ z ≤ 255) :
    Calls Tryd.prog 10 #[.slice a n c] w fun e w' => ∃ x y : Int, e = .returned (.tuple #[.int .i64 x, .int .i64 y]) ∧ -1 ≤ x ∧ x ≤ 28 ∧ 0 ≤ y ∧ y ≤ 5 ∧ Ext w w' := by
  go_enter Tryd.func10, Tryd.ntmps10
  go_wp2_with fail
  refine (open_any a c n zs _ hc hc2 r hz).mono ?_
  rintro e w1 ⟨b, rfl, rd, e1, hb⟩
  have hrd : RdP w1 b 0 := ⟨0, Nat.le_refl _, rd⟩
  clear r hz rd
  go_wp2_with fail
  refine (pick_c b 0 30 _ hrd (by omega) (by omega) (by omega)).mono ?_
  rintro e w2 ⟨x, rfl, x0, x1, r2, g2⟩
  go_wp2_with fail
  refine (pick_c b _ 6 _ r2 (by omega) (by omega) (by omega)).mono ?_
  rintro e w3 ⟨y, rfl, y0, y1, r3, g3⟩
  have E : Ext w w3 := Ext.grown e1 (grown_trans g2 g3) (fun k hk => by simp at hk; omega)
  clear hrd r2 r3 g2 g3 e1
  go_wp2
  exact bodyPost_ret (v := .tuple #[.int .i64 (x - 1), .int .i64 y]) (by simp [results, Tryd.results10, go_sem]) rfl ⟨_, _, rfl, by omega, by omega, by omega, by omega, E⟩
end Go.Proofs.YtfcgnhgocdoimaaDoor
