/-
  NARROWER THAN 'FOR EVERY INPUT', by the rows' own cells (each row's printed sentence says how): FnWriteContainer: ifaces, laid · FnExactReadContainer: ifaces, laid · FnReadContainer: ifaces, laid.
  DERIVED. THE GIVEN ROWS OF THIS SEAT. 3 by the template 'for every input the law returns true; each argument reads behind the call as it read before'; 0 by the template 'total and deterministic' (their statements: YtpjjadmjdafkeaaDoorTotals.lean).
  GIVEN WITH THE SEED: the statements are not yours to turn. If you find one false, say at which input.
  Laid BY PROGRAM, IN A SANDBOX (cutbox-rows.mjs): the forced cells as the released guide's own fill.sh prints them over the translation d547201f380dd4c9… (all of the seat's roots in one cut). By AI agents, Wed Nov 11 2026. No macro, syntax, notation, axiom, sorry.
-/
import Derived.Test.YtpjjadmjdafkeaaDoorChecked
import GoSem.Claim
import GoSem.ClaimJoined
import GoSem.ClaimMapViews
import Derived.JoinedTies
import Derived.KernelRfl
namespace Go.Proofs.YtpjjadmjdafkeaaDoor
/- THE CELL 'sum', in the pinned program and in every row, IS THE sha256 OF THE DUMP (.gsa) THAT YtpjjadmjdafkeaaDoorProg.lean LOADS. Nothing in Lean hashes anything: it is a label: what it is worth is what the hold of that sum in a sandbox is worth. -/
noncomputable def Tryd.pinned : Pinned := { name := "ytpjjadmjdafkeaadoor", sum := "d547201f380dd4c9029628f9d063169d3405c07fb72f100caa8159f256bdc97d", checked := Tryd.checked }
namespace Rows
def none {H : Type} : Left H := { results := [], args := [] }

/- WHAT THE LISTED PACKAGE-LEVEL VARIABLES READ AS WHEN THE CALL BEGINS. Each datum BY PROGRAM (the guide's laid-datum.mjs) off the statement by which the dump's own 'gosem.cut.vars' lays the variable. In a bare row this is a premise. The card (YtpjjadmjdafkeaaDoorCards.lean) ties it to the program's text. -/
def laid_loop_example_videocodec_impl_errShort {H : Type} : DataW H := .iface "*errors.errorString" (.ptr (.agg [.lit (.string [116, 111, 111, 32, 115, 104, 111, 114, 116])]))

/-- 'laws.FnWriteContainer': WHATEVER THE INPUT: true; the input reads as it did. -/
def fnWriteContainerSpec : ChangeSpec := { name := "fnWriteContainer", vars := ["loop.example/videocodec/impl.errShort"], fn := fun _ => fun
  | [d, g1] => { results := [.lit (.bool true)], args := [d], vars := [g1] }
  | _ => none }
def fnWriteContainerRow : OpenClaim := { program := "ytpjjadmjdafkeaadoor", sum := "d547201f380dd4c9029628f9d063169d3405c07fb72f100caa8159f256bdc97d", func := "loop.example/videocodec/laws.FnWriteContainer", spec := "fnWriteContainer", inPlace := ["internal/reflectlite.TypeOf"], unfollowed := true, recurses := true, named := ["loop.example/videocodec/impl.errShort"], ifaces := true, apart := false, laid := [("loop.example/videocodec/impl.errShort", laid_loop_example_videocodec_impl_errShort)] }
def FnWriteContainerSaid : Prop := fnWriteContainerRow.holds Tryd.pinned (OpenSpec.ofChange fnWriteContainerSpec)

/-- ITS FALSE NEIGHBOUR: 'it returns false'. Refute it at one input. -/
def fnWriteContainerWrong : ChangeSpec := { name := "fnWriteContainer", vars := ["loop.example/videocodec/impl.errShort"], fn := fun _ => fun
  | [d, g1] => { results := [.lit (.bool false)], args := [d], vars := [g1] }
  | _ => none }
def FnWriteContainerWrongFalsely : Prop := fnWriteContainerRow.holds Tryd.pinned (OpenSpec.ofChange fnWriteContainerWrong)

/-- 'laws.FnExactReadContainer': WHATEVER THE INPUT: true; the input reads as it did. -/
def fnExactReadContainerSpec : ChangeSpec := { name := "fnExactReadContainer", vars := ["loop.example/videocodec/impl.errShort"], fn := fun _ => fun
  | [d, g1] => { results := [.lit (.bool true)], args := [d], vars := [g1] }
  | _ => none }
def fnExactReadContainerRow : OpenClaim := { program := "ytpjjadmjdafkeaadoor", sum := "d547201f380dd4c9029628f9d063169d3405c07fb72f100caa8159f256bdc97d", func := "loop.example/videocodec/laws.FnExactReadContainer", spec := "fnExactReadContainer", inPlace := ["internal/reflectlite.TypeOf"], unfollowed := true, recurses := true, named := ["loop.example/videocodec/impl.errShort"], ifaces := true, apart := false, laid := [("loop.example/videocodec/impl.errShort", laid_loop_example_videocodec_impl_errShort)] }
def FnExactReadContainerSaid : Prop := fnExactReadContainerRow.holds Tryd.pinned (OpenSpec.ofChange fnExactReadContainerSpec)

/-- ITS FALSE NEIGHBOUR: 'it returns false'. Refute it at one input. -/
def fnExactReadContainerWrong : ChangeSpec := { name := "fnExactReadContainer", vars := ["loop.example/videocodec/impl.errShort"], fn := fun _ => fun
  | [d, g1] => { results := [.lit (.bool false)], args := [d], vars := [g1] }
  | _ => none }
def FnExactReadContainerWrongFalsely : Prop := fnExactReadContainerRow.holds Tryd.pinned (OpenSpec.ofChange fnExactReadContainerWrong)

/-- 'laws.FnReadContainer': WHATEVER THE INPUT: true; the input reads as it did. -/
def fnReadContainerSpec : ChangeSpec := { name := "fnReadContainer", vars := ["loop.example/videocodec/impl.errShort"], fn := fun _ => fun
  | [d, g1] => { results := [.lit (.bool true)], args := [d], vars := [g1] }
  | _ => none }
def fnReadContainerRow : OpenClaim := { program := "ytpjjadmjdafkeaadoor", sum := "d547201f380dd4c9029628f9d063169d3405c07fb72f100caa8159f256bdc97d", func := "loop.example/videocodec/laws.FnReadContainer", spec := "fnReadContainer", inPlace := ["internal/reflectlite.TypeOf"], unfollowed := true, recurses := true, named := ["loop.example/videocodec/impl.errShort"], ifaces := true, apart := false, laid := [("loop.example/videocodec/impl.errShort", laid_loop_example_videocodec_impl_errShort)] }
def FnReadContainerSaid : Prop := fnReadContainerRow.holds Tryd.pinned (OpenSpec.ofChange fnReadContainerSpec)

/-- ITS FALSE NEIGHBOUR: 'it returns false'. Refute it at one input. -/
def fnReadContainerWrong : ChangeSpec := { name := "fnReadContainer", vars := ["loop.example/videocodec/impl.errShort"], fn := fun _ => fun
  | [d, g1] => { results := [.lit (.bool false)], args := [d], vars := [g1] }
  | _ => none }
def FnReadContainerWrongFalsely : Prop := fnReadContainerRow.holds Tryd.pinned (OpenSpec.ofChange fnReadContainerWrong)

/- THE SECOND FORM. 'bulk': how many values and letters a reading holds, each counted each time it is reached (what is shared counts as often as it is met; a slice's spare places count too). A statement '..UptoSaid' is the law's where the arguments, and the package variables that the reading takes, are together of bulk at most 1048576: NARROWER than '..Said'. Prove '..Said' where nothing that the law and all that it calls make is longer than what came in: it says more and counts as full. Else prove '..UptoSaid'. A law counts once. -/
mutual
def uptoBulk {H : Type} : DataW H → Nat
  | .lit (.string bytes) => bytes.length + 1
  | .lit _ => 1
  | .nil => 1
  | .ptr d => uptoBulk d + 1
  | .slice elems spare => uptoBulkAll elems + uptoBulkAll spare + 1
  | .agg parts => uptoBulkAll parts + 1
  | .iface _ d => uptoBulk d + 1
  | .map entries => uptoBulkEntries entries + 1
  | .held _ => 1
def uptoBulkAll {H : Type} : List (DataW H) → Nat
  | [] => 0
  | d :: r => uptoBulk d + uptoBulkAll r
def uptoBulkEntries {H : Type} : List (Lit × DataW H) → Nat
  | [] => 0
  | x :: r => uptoBulkEntry x + uptoBulkEntries r
def uptoBulkEntry {H : Type} : Lit × DataW H → Nat
  | (.string bytes, d) => bytes.length + uptoBulk d + 1
  | (_, d) => uptoBulk d + 1
 end
def uptoSmall : (H : Type) → List (DataW H) → Bool := fun _ ds => decide (uptoBulkAll ds ≤ 1048576)
def OpenSpec.upto (s : _root_.Go.ChangeSpec) : _root_.Go.OpenSpec := { _root_.Go.OpenSpec.ofChange s with cond := some uptoSmall }

/-- 'laws.FnWriteContainer', WHERE WHAT IT READS IS OF BULK AT MOST 1048576: true; the input reads as it did. -/
def fnWriteContainerUptoRow : OpenClaim := { program := "ytpjjadmjdafkeaadoor", sum := "d547201f380dd4c9029628f9d063169d3405c07fb72f100caa8159f256bdc97d", func := "loop.example/videocodec/laws.FnWriteContainer", spec := "fnWriteContainer", inPlace := ["internal/reflectlite.TypeOf"], unfollowed := true, recurses := true, named := ["loop.example/videocodec/impl.errShort"], ifaces := true, apart := false, laid := [("loop.example/videocodec/impl.errShort", laid_loop_example_videocodec_impl_errShort)], narrowed := true }
def FnWriteContainerUptoSaid : Prop := fnWriteContainerUptoRow.holds Tryd.pinned (OpenSpec.upto fnWriteContainerSpec)

/-- 'laws.FnExactReadContainer', WHERE WHAT IT READS IS OF BULK AT MOST 1048576: true; the input reads as it did. -/
def fnExactReadContainerUptoRow : OpenClaim := { program := "ytpjjadmjdafkeaadoor", sum := "d547201f380dd4c9029628f9d063169d3405c07fb72f100caa8159f256bdc97d", func := "loop.example/videocodec/laws.FnExactReadContainer", spec := "fnExactReadContainer", inPlace := ["internal/reflectlite.TypeOf"], unfollowed := true, recurses := true, named := ["loop.example/videocodec/impl.errShort"], ifaces := true, apart := false, laid := [("loop.example/videocodec/impl.errShort", laid_loop_example_videocodec_impl_errShort)], narrowed := true }
def FnExactReadContainerUptoSaid : Prop := fnExactReadContainerUptoRow.holds Tryd.pinned (OpenSpec.upto fnExactReadContainerSpec)

/-- 'laws.FnReadContainer', WHERE WHAT IT READS IS OF BULK AT MOST 1048576: true; the input reads as it did. -/
def fnReadContainerUptoRow : OpenClaim := { program := "ytpjjadmjdafkeaadoor", sum := "d547201f380dd4c9029628f9d063169d3405c07fb72f100caa8159f256bdc97d", func := "loop.example/videocodec/laws.FnReadContainer", spec := "fnReadContainer", inPlace := ["internal/reflectlite.TypeOf"], unfollowed := true, recurses := true, named := ["loop.example/videocodec/impl.errShort"], ifaces := true, apart := false, laid := [("loop.example/videocodec/impl.errShort", laid_loop_example_videocodec_impl_errShort)], narrowed := true }
def FnReadContainerUptoSaid : Prop := fnReadContainerUptoRow.holds Tryd.pinned (OpenSpec.upto fnReadContainerSpec)

end Rows
end Go.Proofs.YtpjjadmjdafkeaaDoor
