/- The exact laws of layers: walks. -/
import Derived.Test.YtfcgnhgocdoimaaDoorC2
namespace Go.Proofs.YtfcgnhgocdoimaaDoor
open Go.RowKit
set_option maxHeartbeats 400000
theorem law_FnExactLayerOf (x : Int) (wx : (Lit.int .i64 x).wf = true) (l : Int) (_wl : (Lit.int .i64 l).wf = true) (w : World) (hT : Tab w) :
    Calls Tryd.prog 3 #[.int .i64 x, .int .i64 l] w fun e w' => e = .returned (.bool true) ∧ Ext w w' := by
  have hx : x < 9223372036854775808 := by simp [Lit.wf, IntKind.min, IntKind.max, IntKind.signed, IntKind.bits] at wx; omega
  clear wx
  go_enter Tryd.func3, Tryd.ntmps3
  go_wp2_with fail
  refine (spec_LayerOf_any x l _ hx).mono ?_
  rintro e w1 ⟨rfl, rfl⟩
  go_wp2_with fail
  refine (impl_LayerOf_any x l _ hT hx).mono ?_
  rintro e w1 ⟨rfl, rfl⟩
  generalize layerOf x l = y
  go_wp2
  go_ret
  exact ⟨rfl, Below.refl _ _⟩
theorem law_FnExactLayerReference (x : Int) (wx : (Lit.int .i64 x).wf = true) (l : Int) (_wl : (Lit.int .i64 l).wf = true) (w : World) (hT : Tab w) :
    Calls Tryd.prog 4 #[.int .i64 x, .int .i64 l] w fun e w' => e = .returned (.bool true) ∧ Ext w w' := by
  have hx : x < 9223372036854775808 := by simp [Lit.wf, IntKind.min, IntKind.max, IntKind.signed, IntKind.bits] at wx; omega
  clear wx
  go_enter Tryd.func4, Tryd.ntmps4
  go_wp2_with fail
  refine (spec_LayerReference_any x l _ hx).mono ?_
  rintro e w1 ⟨rfl, rfl⟩
  go_wp2_with fail
  refine (impl_LayerReference_any x l _ hT hx).mono ?_
  rintro e w1 ⟨rfl, rfl⟩
  generalize layerRef x l = y
  go_wp2
  go_ret
  exact ⟨rfl, Below.refl _ _⟩
end Go.Proofs.YtfcgnhgocdoimaaDoor
