/-
  NARROWER THAN 'FOR EVERY INPUT', by the rows' own cells (each row's printed sentence says how): FnInterMacro: laid · FnExactReconstruct: laid · FnExactIntraMacro: laid · FnReconstruct: laid · FnIntraMacro: laid · FnExactMacroCost: laid.
  DERIVED. THE GIVEN ROWS OF THIS SEAT. 6 by the template 'for every input the law returns true; each argument reads behind the call as it read before'; 0 by the template 'total and deterministic' (their statements: YtbnhaegidfbgbaaDoorTotals.lean).
  GIVEN WITH THE SEED: the statements are not yours to turn. If you find one false, say at which input.
  Laid BY PROGRAM, IN A SANDBOX (cutbox-rows.mjs): the forced cells as the released guide's own fill.sh prints them over the translation a71800a309b6c56d… (all of the seat's roots in one cut). By AI agents, Wed Nov 11 2026. No macro, syntax, notation, axiom, sorry.
-/
import Derived.Test.YtbnhaegidfbgbaaDoorChecked
import GoSem.Claim
import GoSem.ClaimJoined
import GoSem.ClaimMapViews
import Derived.JoinedTies
import Derived.KernelRfl
namespace Go.Proofs.YtbnhaegidfbgbaaDoor
/- THE CELL 'sum', in the pinned program and in every row, IS THE sha256 OF THE DUMP (.gsa) THAT YtbnhaegidfbgbaaDoorProg.lean LOADS. Nothing in Lean hashes anything: it is a label: what it is worth is what the hold of that sum in a sandbox is worth. -/
noncomputable def Tryd.pinned : Pinned := { name := "ytbnhaegidfbgbaadoor", sum := "a71800a309b6c56d38ef9a3e53e37fc39fb0a10b34e00066bab14bc70ed0961f", checked := Tryd.checked }
namespace Rows
def none {H : Type} : Left H := { results := [], args := [] }

/- WHAT THE LISTED PACKAGE-LEVEL VARIABLES READ AS WHEN THE CALL BEGINS. Each datum BY PROGRAM (the guide's laid-datum.mjs) off the statement by which the dump's own 'gosem.cut.vars' lays the variable. In a bare row this is a premise. The card (YtbnhaegidfbgbaaDoorCards.lean) ties it to the program's text. -/
def laid_loop_example_videocodec_impl_quantSteps {H : Type} : DataW H := .agg [.lit (.int .i64 1), .lit (.int .i64 2), .lit (.int .i64 4), .lit (.int .i64 8), .lit (.int .i64 12), .lit (.int .i64 16), .lit (.int .i64 24), .lit (.int .i64 32), .lit (.int .i64 48), .lit (.int .i64 64), .lit (.int .i64 96), .lit (.int .i64 128), .lit (.int .i64 192), .lit (.int .i64 256), .lit (.int .i64 384), .lit (.int .i64 512)]

/-- 'laws.FnInterMacro': WHATEVER THE INPUT: true; the input reads as it did. -/
def fnInterMacroSpec : ChangeSpec := { name := "fnInterMacro", vars := ["loop.example/videocodec/impl.quantSteps"], fn := fun _ => fun
  | [d, g1] => { results := [.lit (.bool true)], args := [d], vars := [g1] }
  | _ => none }
def fnInterMacroRow : OpenClaim := { program := "ytbnhaegidfbgbaadoor", sum := "a71800a309b6c56d38ef9a3e53e37fc39fb0a10b34e00066bab14bc70ed0961f", func := "loop.example/videocodec/laws.FnInterMacro", spec := "fnInterMacro", unfollowed := true, recurses := true, named := ["loop.example/videocodec/impl.quantSteps"], apart := false, laid := [("loop.example/videocodec/impl.quantSteps", laid_loop_example_videocodec_impl_quantSteps)] }
def FnInterMacroSaid : Prop := fnInterMacroRow.holds Tryd.pinned (OpenSpec.ofChange fnInterMacroSpec)

/-- ITS FALSE NEIGHBOUR: 'it returns false'. Refute it at one input. -/
def fnInterMacroWrong : ChangeSpec := { name := "fnInterMacro", vars := ["loop.example/videocodec/impl.quantSteps"], fn := fun _ => fun
  | [d, g1] => { results := [.lit (.bool false)], args := [d], vars := [g1] }
  | _ => none }
def FnInterMacroWrongFalsely : Prop := fnInterMacroRow.holds Tryd.pinned (OpenSpec.ofChange fnInterMacroWrong)

/-- 'laws.FnExactReconstruct': WHATEVER THE INPUT: true; the input reads as it did. -/
def fnExactReconstructSpec : ChangeSpec := { name := "fnExactReconstruct", vars := ["loop.example/videocodec/impl.quantSteps"], fn := fun _ => fun
  | [d1, d2, d3, d4, d5, d6, d7, g1] => { results := [.lit (.bool true)], args := [d1, d2, d3, d4, d5, d6, d7], vars := [g1] }
  | _ => none }
def fnExactReconstructRow : OpenClaim := { program := "ytbnhaegidfbgbaadoor", sum := "a71800a309b6c56d38ef9a3e53e37fc39fb0a10b34e00066bab14bc70ed0961f", func := "loop.example/videocodec/laws.FnExactReconstruct", spec := "fnExactReconstruct", unfollowed := true, recurses := true, named := ["loop.example/videocodec/impl.quantSteps"], apart := false, laid := [("loop.example/videocodec/impl.quantSteps", laid_loop_example_videocodec_impl_quantSteps)] }
def FnExactReconstructSaid : Prop := fnExactReconstructRow.holds Tryd.pinned (OpenSpec.ofChange fnExactReconstructSpec)

/-- ITS FALSE NEIGHBOUR: 'it returns false'. Refute it at one input. -/
def fnExactReconstructWrong : ChangeSpec := { name := "fnExactReconstruct", vars := ["loop.example/videocodec/impl.quantSteps"], fn := fun _ => fun
  | [d1, d2, d3, d4, d5, d6, d7, g1] => { results := [.lit (.bool false)], args := [d1, d2, d3, d4, d5, d6, d7], vars := [g1] }
  | _ => none }
def FnExactReconstructWrongFalsely : Prop := fnExactReconstructRow.holds Tryd.pinned (OpenSpec.ofChange fnExactReconstructWrong)

/-- 'laws.FnExactIntraMacro': WHATEVER THE INPUT: true; the input reads as it did. -/
def fnExactIntraMacroSpec : ChangeSpec := { name := "fnExactIntraMacro", vars := ["loop.example/videocodec/impl.quantSteps"], fn := fun _ => fun
  | [d1, d2, d3, d4, d5, d6, g1] => { results := [.lit (.bool true)], args := [d1, d2, d3, d4, d5, d6], vars := [g1] }
  | _ => none }
def fnExactIntraMacroRow : OpenClaim := { program := "ytbnhaegidfbgbaadoor", sum := "a71800a309b6c56d38ef9a3e53e37fc39fb0a10b34e00066bab14bc70ed0961f", func := "loop.example/videocodec/laws.FnExactIntraMacro", spec := "fnExactIntraMacro", unfollowed := true, recurses := true, named := ["loop.example/videocodec/impl.quantSteps"], apart := false, laid := [("loop.example/videocodec/impl.quantSteps", laid_loop_example_videocodec_impl_quantSteps)] }
def FnExactIntraMacroSaid : Prop := fnExactIntraMacroRow.holds Tryd.pinned (OpenSpec.ofChange fnExactIntraMacroSpec)

/-- ITS FALSE NEIGHBOUR: 'it returns false'. Refute it at one input. -/
def fnExactIntraMacroWrong : ChangeSpec := { name := "fnExactIntraMacro", vars := ["loop.example/videocodec/impl.quantSteps"], fn := fun _ => fun
  | [d1, d2, d3, d4, d5, d6, g1] => { results := [.lit (.bool false)], args := [d1, d2, d3, d4, d5, d6], vars := [g1] }
  | _ => none }
def FnExactIntraMacroWrongFalsely : Prop := fnExactIntraMacroRow.holds Tryd.pinned (OpenSpec.ofChange fnExactIntraMacroWrong)

/-- 'laws.FnReconstruct': WHATEVER THE INPUT: true; the input reads as it did. -/
def fnReconstructSpec : ChangeSpec := { name := "fnReconstruct", vars := ["loop.example/videocodec/impl.quantSteps"], fn := fun _ => fun
  | [d, g1] => { results := [.lit (.bool true)], args := [d], vars := [g1] }
  | _ => none }
def fnReconstructRow : OpenClaim := { program := "ytbnhaegidfbgbaadoor", sum := "a71800a309b6c56d38ef9a3e53e37fc39fb0a10b34e00066bab14bc70ed0961f", func := "loop.example/videocodec/laws.FnReconstruct", spec := "fnReconstruct", unfollowed := true, recurses := true, named := ["loop.example/videocodec/impl.quantSteps"], apart := false, laid := [("loop.example/videocodec/impl.quantSteps", laid_loop_example_videocodec_impl_quantSteps)] }
def FnReconstructSaid : Prop := fnReconstructRow.holds Tryd.pinned (OpenSpec.ofChange fnReconstructSpec)

/-- ITS FALSE NEIGHBOUR: 'it returns false'. Refute it at one input. -/
def fnReconstructWrong : ChangeSpec := { name := "fnReconstruct", vars := ["loop.example/videocodec/impl.quantSteps"], fn := fun _ => fun
  | [d, g1] => { results := [.lit (.bool false)], args := [d], vars := [g1] }
  | _ => none }
def FnReconstructWrongFalsely : Prop := fnReconstructRow.holds Tryd.pinned (OpenSpec.ofChange fnReconstructWrong)

/-- 'laws.FnIntraMacro': WHATEVER THE INPUT: true; the input reads as it did. -/
def fnIntraMacroSpec : ChangeSpec := { name := "fnIntraMacro", vars := ["loop.example/videocodec/impl.quantSteps"], fn := fun _ => fun
  | [d, g1] => { results := [.lit (.bool true)], args := [d], vars := [g1] }
  | _ => none }
def fnIntraMacroRow : OpenClaim := { program := "ytbnhaegidfbgbaadoor", sum := "a71800a309b6c56d38ef9a3e53e37fc39fb0a10b34e00066bab14bc70ed0961f", func := "loop.example/videocodec/laws.FnIntraMacro", spec := "fnIntraMacro", unfollowed := true, recurses := true, named := ["loop.example/videocodec/impl.quantSteps"], apart := false, laid := [("loop.example/videocodec/impl.quantSteps", laid_loop_example_videocodec_impl_quantSteps)] }
def FnIntraMacroSaid : Prop := fnIntraMacroRow.holds Tryd.pinned (OpenSpec.ofChange fnIntraMacroSpec)

/-- ITS FALSE NEIGHBOUR: 'it returns false'. Refute it at one input. -/
def fnIntraMacroWrong : ChangeSpec := { name := "fnIntraMacro", vars := ["loop.example/videocodec/impl.quantSteps"], fn := fun _ => fun
  | [d, g1] => { results := [.lit (.bool false)], args := [d], vars := [g1] }
  | _ => none }
def FnIntraMacroWrongFalsely : Prop := fnIntraMacroRow.holds Tryd.pinned (OpenSpec.ofChange fnIntraMacroWrong)

/-- 'laws.FnExactMacroCost': WHATEVER THE INPUT: true; the input reads as it did. -/
def fnExactMacroCostSpec : ChangeSpec := { name := "fnExactMacroCost", vars := ["loop.example/videocodec/impl.quantSteps"], fn := fun _ => fun
  | [d1, d2, d3, d4, d5, d6, d7, d8, g1] => { results := [.lit (.bool true)], args := [d1, d2, d3, d4, d5, d6, d7, d8], vars := [g1] }
  | _ => none }
def fnExactMacroCostRow : OpenClaim := { program := "ytbnhaegidfbgbaadoor", sum := "a71800a309b6c56d38ef9a3e53e37fc39fb0a10b34e00066bab14bc70ed0961f", func := "loop.example/videocodec/laws.FnExactMacroCost", spec := "fnExactMacroCost", unfollowed := true, recurses := true, named := ["loop.example/videocodec/impl.quantSteps"], apart := false, laid := [("loop.example/videocodec/impl.quantSteps", laid_loop_example_videocodec_impl_quantSteps)] }
def FnExactMacroCostSaid : Prop := fnExactMacroCostRow.holds Tryd.pinned (OpenSpec.ofChange fnExactMacroCostSpec)

/-- ITS FALSE NEIGHBOUR: 'it returns false'. Refute it at one input. -/
def fnExactMacroCostWrong : ChangeSpec := { name := "fnExactMacroCost", vars := ["loop.example/videocodec/impl.quantSteps"], fn := fun _ => fun
  | [d1, d2, d3, d4, d5, d6, d7, d8, g1] => { results := [.lit (.bool false)], args := [d1, d2, d3, d4, d5, d6, d7, d8], vars := [g1] }
  | _ => none }
def FnExactMacroCostWrongFalsely : Prop := fnExactMacroCostRow.holds Tryd.pinned (OpenSpec.ofChange fnExactMacroCostWrong)

/- THE SECOND FORM. 'bulk': how many values and letters a reading holds, each counted each time it is reached (what is shared counts as often as it is met; a slice's spare places count too). A statement '..UptoSaid' is the law's where the arguments, and the package variables that the reading takes, are together of bulk at most 1048576: NARROWER than '..Said'. Prove '..Said' where nothing that the law and all that it calls make is longer than what came in: it says more and counts as full. Else prove '..UptoSaid'. A law counts once. -/
mutual
def uptoBulk {H : Type} : DataW H → Nat
  | .lit (.string bytes) => bytes.length + 1
  | .lit _ => 1
  | .nil => 1
  | .ptr d => uptoBulk d + 1
  | .slice elems spare => uptoBulkAll elems + uptoBulkAll spare + 1
  | .agg parts => uptoBulkAll parts + 1
  | .iface _ d => uptoBulk d + 1
  | .map entries => uptoBulkEntries entries + 1
  | .held _ => 1
def uptoBulkAll {H : Type} : List (DataW H) → Nat
  | [] => 0
  | d :: r => uptoBulk d + uptoBulkAll r
def uptoBulkEntries {H : Type} : List (Lit × DataW H) → Nat
  | [] => 0
  | x :: r => uptoBulkEntry x + uptoBulkEntries r
def uptoBulkEntry {H : Type} : Lit × DataW H → Nat
  | (.string bytes, d) => bytes.length + uptoBulk d + 1
  | (_, d) => uptoBulk d + 1
 end
def uptoSmall : (H : Type) → List (DataW H) → Bool := fun _ ds => decide (uptoBulkAll ds ≤ 1048576)
def OpenSpec.upto (s : _root_.Go.ChangeSpec) : _root_.Go.OpenSpec := { _root_.Go.OpenSpec.ofChange s with cond := some uptoSmall }

/-- 'laws.FnInterMacro', WHERE WHAT IT READS IS OF BULK AT MOST 1048576: true; the input reads as it did. -/
def fnInterMacroUptoRow : OpenClaim := { program := "ytbnhaegidfbgbaadoor", sum := "a71800a309b6c56d38ef9a3e53e37fc39fb0a10b34e00066bab14bc70ed0961f", func := "loop.example/videocodec/laws.FnInterMacro", spec := "fnInterMacro", unfollowed := true, recurses := true, named := ["loop.example/videocodec/impl.quantSteps"], apart := false, laid := [("loop.example/videocodec/impl.quantSteps", laid_loop_example_videocodec_impl_quantSteps)], narrowed := true }
def FnInterMacroUptoSaid : Prop := fnInterMacroUptoRow.holds Tryd.pinned (OpenSpec.upto fnInterMacroSpec)

/-- 'laws.FnExactReconstruct', WHERE WHAT IT READS IS OF BULK AT MOST 1048576: true; the input reads as it did. -/
def fnExactReconstructUptoRow : OpenClaim := { program := "ytbnhaegidfbgbaadoor", sum := "a71800a309b6c56d38ef9a3e53e37fc39fb0a10b34e00066bab14bc70ed0961f", func := "loop.example/videocodec/laws.FnExactReconstruct", spec := "fnExactReconstruct", unfollowed := true, recurses := true, named := ["loop.example/videocodec/impl.quantSteps"], apart := false, laid := [("loop.example/videocodec/impl.quantSteps", laid_loop_example_videocodec_impl_quantSteps)], narrowed := true }
def FnExactReconstructUptoSaid : Prop := fnExactReconstructUptoRow.holds Tryd.pinned (OpenSpec.upto fnExactReconstructSpec)

/-- 'laws.FnExactIntraMacro', WHERE WHAT IT READS IS OF BULK AT MOST 1048576: true; the input reads as it did. -/
def fnExactIntraMacroUptoRow : OpenClaim := { program := "ytbnhaegidfbgbaadoor", sum := "a71800a309b6c56d38ef9a3e53e37fc39fb0a10b34e00066bab14bc70ed0961f", func := "loop.example/videocodec/laws.FnExactIntraMacro", spec := "fnExactIntraMacro", unfollowed := true, recurses := true, named := ["loop.example/videocodec/impl.quantSteps"], apart := false, laid := [("loop.example/videocodec/impl.quantSteps", laid_loop_example_videocodec_impl_quantSteps)], narrowed := true }
def FnExactIntraMacroUptoSaid : Prop := fnExactIntraMacroUptoRow.holds Tryd.pinned (OpenSpec.upto fnExactIntraMacroSpec)

/-- 'laws.FnReconstruct', WHERE WHAT IT READS IS OF BULK AT MOST 1048576: true; the input reads as it did. -/
def fnReconstructUptoRow : OpenClaim := { program := "ytbnhaegidfbgbaadoor", sum := "a71800a309b6c56d38ef9a3e53e37fc39fb0a10b34e00066bab14bc70ed0961f", func := "loop.example/videocodec/laws.FnReconstruct", spec := "fnReconstruct", unfollowed := true, recurses := true, named := ["loop.example/videocodec/impl.quantSteps"], apart := false, laid := [("loop.example/videocodec/impl.quantSteps", laid_loop_example_videocodec_impl_quantSteps)], narrowed := true }
def FnReconstructUptoSaid : Prop := fnReconstructUptoRow.holds Tryd.pinned (OpenSpec.upto fnReconstructSpec)

/-- 'laws.FnIntraMacro', WHERE WHAT IT READS IS OF BULK AT MOST 1048576: true; the input reads as it did. -/
def fnIntraMacroUptoRow : OpenClaim := { program := "ytbnhaegidfbgbaadoor", sum := "a71800a309b6c56d38ef9a3e53e37fc39fb0a10b34e00066bab14bc70ed0961f", func := "loop.example/videocodec/laws.FnIntraMacro", spec := "fnIntraMacro", unfollowed := true, recurses := true, named := ["loop.example/videocodec/impl.quantSteps"], apart := false, laid := [("loop.example/videocodec/impl.quantSteps", laid_loop_example_videocodec_impl_quantSteps)], narrowed := true }
def FnIntraMacroUptoSaid : Prop := fnIntraMacroUptoRow.holds Tryd.pinned (OpenSpec.upto fnIntraMacroSpec)

/-- 'laws.FnExactMacroCost', WHERE WHAT IT READS IS OF BULK AT MOST 1048576: true; the input reads as it did. -/
def fnExactMacroCostUptoRow : OpenClaim := { program := "ytbnhaegidfbgbaadoor", sum := "a71800a309b6c56d38ef9a3e53e37fc39fb0a10b34e00066bab14bc70ed0961f", func := "loop.example/videocodec/laws.FnExactMacroCost", spec := "fnExactMacroCost", unfollowed := true, recurses := true, named := ["loop.example/videocodec/impl.quantSteps"], apart := false, laid := [("loop.example/videocodec/impl.quantSteps", laid_loop_example_videocodec_impl_quantSteps)], narrowed := true }
def FnExactMacroCostUptoSaid : Prop := fnExactMacroCostUptoRow.holds Tryd.pinned (OpenSpec.upto fnExactMacroCostSpec)

end Rows
end Go.Proofs.YtbnhaegidfbgbaaDoor
