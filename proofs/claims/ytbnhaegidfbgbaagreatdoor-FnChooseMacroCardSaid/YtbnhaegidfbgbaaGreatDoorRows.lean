/-
  NARROWER THAN 'FOR EVERY INPUT', by the rows' own cells (each row's printed sentence says how): FnMacroCost: laid · FnExactChooseMacro: laid · FnChooseMacro: laid · FnExactEncodePicture: laid.
  DERIVED. THE GIVEN ROWS OF THIS SEAT. 4 by the template 'for every input the law returns true; each argument reads behind the call as it read before'; 0 by the template 'total and deterministic' (their statements: YtbnhaegidfbgbaaGreatDoorTotals.lean).
  GIVEN WITH THE SEED: the statements are not yours to turn. If you find one false, say at which input.
  Laid BY PROGRAM, IN A SANDBOX (cutbox-rows.mjs): the forced cells as the released guide's own fill.sh prints them over the translation 47ed9ae7a5a580b7… (all of the seat's roots in one cut). By AI agents, Wed Nov 11 2026. No macro, syntax, notation, axiom, sorry.
-/
import Derived.Test.YtbnhaegidfbgbaaGreatDoorChecked
import GoSem.Claim
import GoSem.ClaimJoined
import GoSem.ClaimMapViews
import Derived.JoinedTies
import Derived.KernelRfl
namespace Go.Proofs.YtbnhaegidfbgbaaGreatDoor
/- THE CELL 'sum', in the pinned program and in every row, IS THE sha256 OF THE DUMP (.gsa) THAT YtbnhaegidfbgbaaGreatDoorProg.lean LOADS. Nothing in Lean hashes anything: it is a label: what it is worth is what the hold of that sum in a sandbox is worth. -/
noncomputable def Tryz.pinned : Pinned := { name := "ytbnhaegidfbgbaagreatdoor", sum := "47ed9ae7a5a580b7a8fd5655f95e045da06f66f695baa93046a684c2f42c481f", checked := Tryz.checked }
namespace Rows
def none {H : Type} : Left H := { results := [], args := [] }

/- WHAT THE LISTED PACKAGE-LEVEL VARIABLES READ AS WHEN THE CALL BEGINS. Each datum BY PROGRAM (the guide's laid-datum.mjs) off the statement by which the dump's own 'gosem.cut.vars' lays the variable. In a bare row this is a premise. The card (YtbnhaegidfbgbaaGreatDoorCards.lean) ties it to the program's text. -/
def laid_loop_example_videocodec_impl_quantSteps {H : Type} : DataW H := .agg [.lit (.int .i64 1), .lit (.int .i64 2), .lit (.int .i64 4), .lit (.int .i64 8), .lit (.int .i64 12), .lit (.int .i64 16), .lit (.int .i64 24), .lit (.int .i64 32), .lit (.int .i64 48), .lit (.int .i64 64), .lit (.int .i64 96), .lit (.int .i64 128), .lit (.int .i64 192), .lit (.int .i64 256), .lit (.int .i64 384), .lit (.int .i64 512)]

/-- 'laws.FnMacroCost': WHATEVER THE INPUT: true; the input reads as it did. -/
def fnMacroCostSpec : ChangeSpec := { name := "fnMacroCost", vars := ["loop.example/videocodec/impl.quantSteps"], fn := fun _ => fun
  | [d, g1] => { results := [.lit (.bool true)], args := [d], vars := [g1] }
  | _ => none }
def fnMacroCostRow : OpenClaim := { program := "ytbnhaegidfbgbaagreatdoor", sum := "47ed9ae7a5a580b7a8fd5655f95e045da06f66f695baa93046a684c2f42c481f", func := "loop.example/videocodec/laws.FnMacroCost", spec := "fnMacroCost", unfollowed := true, recurses := true, named := ["loop.example/videocodec/impl.quantSteps"], apart := false, laid := [("loop.example/videocodec/impl.quantSteps", laid_loop_example_videocodec_impl_quantSteps)] }
def FnMacroCostSaid : Prop := fnMacroCostRow.holds Tryz.pinned (OpenSpec.ofChange fnMacroCostSpec)

/-- ITS FALSE NEIGHBOUR: 'it returns false'. Refute it at one input. -/
def fnMacroCostWrong : ChangeSpec := { name := "fnMacroCost", vars := ["loop.example/videocodec/impl.quantSteps"], fn := fun _ => fun
  | [d, g1] => { results := [.lit (.bool false)], args := [d], vars := [g1] }
  | _ => none }
def FnMacroCostWrongFalsely : Prop := fnMacroCostRow.holds Tryz.pinned (OpenSpec.ofChange fnMacroCostWrong)

/-- 'laws.FnExactChooseMacro': WHATEVER THE INPUT: true; the input reads as it did. -/
def fnExactChooseMacroSpec : ChangeSpec := { name := "fnExactChooseMacro", vars := ["loop.example/videocodec/impl.quantSteps"], fn := fun _ => fun
  | [d1, d2, d3, d4, d5, d6, d7, g1] => { results := [.lit (.bool true)], args := [d1, d2, d3, d4, d5, d6, d7], vars := [g1] }
  | _ => none }
def fnExactChooseMacroRow : OpenClaim := { program := "ytbnhaegidfbgbaagreatdoor", sum := "47ed9ae7a5a580b7a8fd5655f95e045da06f66f695baa93046a684c2f42c481f", func := "loop.example/videocodec/laws.FnExactChooseMacro", spec := "fnExactChooseMacro", unfollowed := true, recurses := true, named := ["loop.example/videocodec/impl.quantSteps"], apart := false, laid := [("loop.example/videocodec/impl.quantSteps", laid_loop_example_videocodec_impl_quantSteps)] }
def FnExactChooseMacroSaid : Prop := fnExactChooseMacroRow.holds Tryz.pinned (OpenSpec.ofChange fnExactChooseMacroSpec)

/-- ITS FALSE NEIGHBOUR: 'it returns false'. Refute it at one input. -/
def fnExactChooseMacroWrong : ChangeSpec := { name := "fnExactChooseMacro", vars := ["loop.example/videocodec/impl.quantSteps"], fn := fun _ => fun
  | [d1, d2, d3, d4, d5, d6, d7, g1] => { results := [.lit (.bool false)], args := [d1, d2, d3, d4, d5, d6, d7], vars := [g1] }
  | _ => none }
def FnExactChooseMacroWrongFalsely : Prop := fnExactChooseMacroRow.holds Tryz.pinned (OpenSpec.ofChange fnExactChooseMacroWrong)

/-- 'laws.FnChooseMacro': WHATEVER THE INPUT: true; the input reads as it did. -/
def fnChooseMacroSpec : ChangeSpec := { name := "fnChooseMacro", vars := ["loop.example/videocodec/impl.quantSteps"], fn := fun _ => fun
  | [d, g1] => { results := [.lit (.bool true)], args := [d], vars := [g1] }
  | _ => none }
def fnChooseMacroRow : OpenClaim := { program := "ytbnhaegidfbgbaagreatdoor", sum := "47ed9ae7a5a580b7a8fd5655f95e045da06f66f695baa93046a684c2f42c481f", func := "loop.example/videocodec/laws.FnChooseMacro", spec := "fnChooseMacro", unfollowed := true, recurses := true, named := ["loop.example/videocodec/impl.quantSteps"], apart := false, laid := [("loop.example/videocodec/impl.quantSteps", laid_loop_example_videocodec_impl_quantSteps)] }
def FnChooseMacroSaid : Prop := fnChooseMacroRow.holds Tryz.pinned (OpenSpec.ofChange fnChooseMacroSpec)

/-- ITS FALSE NEIGHBOUR: 'it returns false'. Refute it at one input. -/
def fnChooseMacroWrong : ChangeSpec := { name := "fnChooseMacro", vars := ["loop.example/videocodec/impl.quantSteps"], fn := fun _ => fun
  | [d, g1] => { results := [.lit (.bool false)], args := [d], vars := [g1] }
  | _ => none }
def FnChooseMacroWrongFalsely : Prop := fnChooseMacroRow.holds Tryz.pinned (OpenSpec.ofChange fnChooseMacroWrong)

/-- 'laws.FnExactEncodePicture': WHATEVER THE INPUT: true; the input reads as it did. -/
def fnExactEncodePictureSpec : ChangeSpec := { name := "fnExactEncodePicture", vars := ["loop.example/videocodec/impl.quantSteps"], fn := fun _ => fun
  | [d1, d2, d3, d4, g1] => { results := [.lit (.bool true)], args := [d1, d2, d3, d4], vars := [g1] }
  | _ => none }
def fnExactEncodePictureRow : OpenClaim := { program := "ytbnhaegidfbgbaagreatdoor", sum := "47ed9ae7a5a580b7a8fd5655f95e045da06f66f695baa93046a684c2f42c481f", func := "loop.example/videocodec/laws.FnExactEncodePicture", spec := "fnExactEncodePicture", unfollowed := true, recurses := true, named := ["loop.example/videocodec/impl.quantSteps"], apart := false, laid := [("loop.example/videocodec/impl.quantSteps", laid_loop_example_videocodec_impl_quantSteps)] }
def FnExactEncodePictureSaid : Prop := fnExactEncodePictureRow.holds Tryz.pinned (OpenSpec.ofChange fnExactEncodePictureSpec)

/-- ITS FALSE NEIGHBOUR: 'it returns false'. Refute it at one input. -/
def fnExactEncodePictureWrong : ChangeSpec := { name := "fnExactEncodePicture", vars := ["loop.example/videocodec/impl.quantSteps"], fn := fun _ => fun
  | [d1, d2, d3, d4, g1] => { results := [.lit (.bool false)], args := [d1, d2, d3, d4], vars := [g1] }
  | _ => none }
def FnExactEncodePictureWrongFalsely : Prop := fnExactEncodePictureRow.holds Tryz.pinned (OpenSpec.ofChange fnExactEncodePictureWrong)

/- THE SECOND FORM. 'bulk': how many values and letters a reading holds, each counted each time it is reached (what is shared counts as often as it is met; a slice's spare places count too). A statement '..UptoSaid' is the law's where the arguments, and the package variables that the reading takes, are together of bulk at most 1048576: NARROWER than '..Said'. Prove '..Said' where nothing that the law and all that it calls make is longer than what came in: it says more and counts as full. Else prove '..UptoSaid'. A law counts once. -/
mutual
def uptoBulk {H : Type} : DataW H → Nat
  | .lit (.string bytes) => bytes.length + 1
  | .lit _ => 1
  | .nil => 1
  | .ptr d => uptoBulk d + 1
  | .slice elems spare => uptoBulkAll elems + uptoBulkAll spare + 1
  | .agg parts => uptoBulkAll parts + 1
  | .iface _ d => uptoBulk d + 1
  | .map entries => uptoBulkEntries entries + 1
  | .held _ => 1
def uptoBulkAll {H : Type} : List (DataW H) → Nat
  | [] => 0
  | d :: r => uptoBulk d + uptoBulkAll r
def uptoBulkEntries {H : Type} : List (Lit × DataW H) → Nat
  | [] => 0
  | x :: r => uptoBulkEntry x + uptoBulkEntries r
def uptoBulkEntry {H : Type} : Lit × DataW H → Nat
  | (.string bytes, d) => bytes.length + uptoBulk d + 1
  | (_, d) => uptoBulk d + 1
 end
def uptoSmall : (H : Type) → List (DataW H) → Bool := fun _ ds => decide (uptoBulkAll ds ≤ 1048576)
def OpenSpec.upto (s : _root_.Go.ChangeSpec) : _root_.Go.OpenSpec := { _root_.Go.OpenSpec.ofChange s with cond := some uptoSmall }

/-- 'laws.FnMacroCost', WHERE WHAT IT READS IS OF BULK AT MOST 1048576: true; the input reads as it did. -/
def fnMacroCostUptoRow : OpenClaim := { program := "ytbnhaegidfbgbaagreatdoor", sum := "47ed9ae7a5a580b7a8fd5655f95e045da06f66f695baa93046a684c2f42c481f", func := "loop.example/videocodec/laws.FnMacroCost", spec := "fnMacroCost", unfollowed := true, recurses := true, named := ["loop.example/videocodec/impl.quantSteps"], apart := false, laid := [("loop.example/videocodec/impl.quantSteps", laid_loop_example_videocodec_impl_quantSteps)], narrowed := true }
def FnMacroCostUptoSaid : Prop := fnMacroCostUptoRow.holds Tryz.pinned (OpenSpec.upto fnMacroCostSpec)

/-- 'laws.FnExactChooseMacro', WHERE WHAT IT READS IS OF BULK AT MOST 1048576: true; the input reads as it did. -/
def fnExactChooseMacroUptoRow : OpenClaim := { program := "ytbnhaegidfbgbaagreatdoor", sum := "47ed9ae7a5a580b7a8fd5655f95e045da06f66f695baa93046a684c2f42c481f", func := "loop.example/videocodec/laws.FnExactChooseMacro", spec := "fnExactChooseMacro", unfollowed := true, recurses := true, named := ["loop.example/videocodec/impl.quantSteps"], apart := false, laid := [("loop.example/videocodec/impl.quantSteps", laid_loop_example_videocodec_impl_quantSteps)], narrowed := true }
def FnExactChooseMacroUptoSaid : Prop := fnExactChooseMacroUptoRow.holds Tryz.pinned (OpenSpec.upto fnExactChooseMacroSpec)

/-- 'laws.FnChooseMacro', WHERE WHAT IT READS IS OF BULK AT MOST 1048576: true; the input reads as it did. -/
def fnChooseMacroUptoRow : OpenClaim := { program := "ytbnhaegidfbgbaagreatdoor", sum := "47ed9ae7a5a580b7a8fd5655f95e045da06f66f695baa93046a684c2f42c481f", func := "loop.example/videocodec/laws.FnChooseMacro", spec := "fnChooseMacro", unfollowed := true, recurses := true, named := ["loop.example/videocodec/impl.quantSteps"], apart := false, laid := [("loop.example/videocodec/impl.quantSteps", laid_loop_example_videocodec_impl_quantSteps)], narrowed := true }
def FnChooseMacroUptoSaid : Prop := fnChooseMacroUptoRow.holds Tryz.pinned (OpenSpec.upto fnChooseMacroSpec)

/-- 'laws.FnExactEncodePicture', WHERE WHAT IT READS IS OF BULK AT MOST 1048576: true; the input reads as it did. -/
def fnExactEncodePictureUptoRow : OpenClaim := { program := "ytbnhaegidfbgbaagreatdoor", sum := "47ed9ae7a5a580b7a8fd5655f95e045da06f66f695baa93046a684c2f42c481f", func := "loop.example/videocodec/laws.FnExactEncodePicture", spec := "fnExactEncodePicture", unfollowed := true, recurses := true, named := ["loop.example/videocodec/impl.quantSteps"], apart := false, laid := [("loop.example/videocodec/impl.quantSteps", laid_loop_example_videocodec_impl_quantSteps)], narrowed := true }
def FnExactEncodePictureUptoSaid : Prop := fnExactEncodePictureUptoRow.holds Tryz.pinned (OpenSpec.upto fnExactEncodePictureSpec)

end Rows
end Go.Proofs.YtbnhaegidfbgbaaGreatDoor
