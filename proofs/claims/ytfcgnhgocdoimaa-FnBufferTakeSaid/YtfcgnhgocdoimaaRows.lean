/-
  No cell of these rows narrows 'for every input' (looked for: loops, veiled, ifaces, maps, wideKeys, modest, calm, conditions, laid).
  DERIVED. THE GIVEN ROWS OF THIS SEAT. 9 by the template 'for every input the law returns true; each argument reads behind the call as it read before'; 0 by the template 'total and deterministic' (their statements: YtfcgnhgocdoimaaTotals.lean).
  GIVEN WITH THE SEED: the statements are not yours to turn. If you find one false, say at which input.
  Laid BY PROGRAM, IN A SANDBOX (cutbox-rows.mjs): the forced cells as the released guide's own fill.sh prints them over the translation 7dee748f05465490… (all of the seat's roots in one cut). By AI agents, Wed Nov 11 2026. No macro, syntax, notation, axiom, sorry.
-/
import Derived.Test.YtfcgnhgocdoimaaChecked
import GoSem.Claim
import GoSem.ClaimJoined
import GoSem.ClaimMapViews
import Derived.JoinedTies
import Derived.KernelRfl
namespace Go.Proofs.Ytfcgnhgocdoimaa
/- THE CELL 'sum', in the pinned program and in every row, IS THE sha256 OF THE DUMP (.gsa) THAT YtfcgnhgocdoimaaProg.lean LOADS. Nothing in Lean hashes anything: it is a label: what it is worth is what the hold of that sum in a sandbox is worth. -/
noncomputable def Try.pinned : Pinned := { name := "ytfcgnhgocdoimaa", sum := "7dee748f054654900c362dabcd8532083f6ffba1aa1d9fa93277ce41b8f475b6", checked := Try.checked }
namespace Rows
def none {H : Type} : Left H := { results := [], args := [] }

/-- 'laws.FnExactNeedsRefresh': WHATEVER THE INPUT: true; the input reads as it did. -/
def fnExactNeedsRefreshSpec : ChangeSpec := { name := "fnExactNeedsRefresh", fn := fun _ => fun
  | [d] => { results := [.lit (.bool true)], args := [d] }
  | _ => none }
def fnExactNeedsRefreshRow : OpenClaim := { program := "ytfcgnhgocdoimaa", sum := "7dee748f054654900c362dabcd8532083f6ffba1aa1d9fa93277ce41b8f475b6", func := "loop.example/videocodec/laws.FnExactNeedsRefresh", spec := "fnExactNeedsRefresh", apart := false }
def FnExactNeedsRefreshSaid : Prop := fnExactNeedsRefreshRow.holds Try.pinned (OpenSpec.ofChange fnExactNeedsRefreshSpec)

/-- ITS FALSE NEIGHBOUR: 'it returns false'. Refute it at one input. -/
def fnExactNeedsRefreshWrong : ChangeSpec := { name := "fnExactNeedsRefresh", fn := fun _ => fun
  | [d] => { results := [.lit (.bool false)], args := [d] }
  | _ => none }
def FnExactNeedsRefreshWrongFalsely : Prop := fnExactNeedsRefreshRow.holds Try.pinned (OpenSpec.ofChange fnExactNeedsRefreshWrong)

/-- 'laws.FnExactRefreshSchedule': WHATEVER THE INPUT: true; the input reads as it did. -/
def fnExactRefreshScheduleSpec : ChangeSpec := { name := "fnExactRefreshSchedule", fn := fun _ => fun
  | [d1, d2] => { results := [.lit (.bool true)], args := [d1, d2] }
  | _ => none }
def fnExactRefreshScheduleRow : OpenClaim := { program := "ytfcgnhgocdoimaa", sum := "7dee748f054654900c362dabcd8532083f6ffba1aa1d9fa93277ce41b8f475b6", func := "loop.example/videocodec/laws.FnExactRefreshSchedule", spec := "fnExactRefreshSchedule", apart := false }
def FnExactRefreshScheduleSaid : Prop := fnExactRefreshScheduleRow.holds Try.pinned (OpenSpec.ofChange fnExactRefreshScheduleSpec)

/-- ITS FALSE NEIGHBOUR: 'it returns false'. Refute it at one input. -/
def fnExactRefreshScheduleWrong : ChangeSpec := { name := "fnExactRefreshSchedule", fn := fun _ => fun
  | [d1, d2] => { results := [.lit (.bool false)], args := [d1, d2] }
  | _ => none }
def FnExactRefreshScheduleWrongFalsely : Prop := fnExactRefreshScheduleRow.holds Try.pinned (OpenSpec.ofChange fnExactRefreshScheduleWrong)

/-- 'laws.FnExactBufferTake': WHATEVER THE INPUT: true; the input reads as it did. -/
def fnExactBufferTakeSpec : ChangeSpec := { name := "fnExactBufferTake", fn := fun _ => fun
  | [d1, d2] => { results := [.lit (.bool true)], args := [d1, d2] }
  | _ => none }
def fnExactBufferTakeRow : OpenClaim := { program := "ytfcgnhgocdoimaa", sum := "7dee748f054654900c362dabcd8532083f6ffba1aa1d9fa93277ce41b8f475b6", func := "loop.example/videocodec/laws.FnExactBufferTake", spec := "fnExactBufferTake", apart := false }
def FnExactBufferTakeSaid : Prop := fnExactBufferTakeRow.holds Try.pinned (OpenSpec.ofChange fnExactBufferTakeSpec)

/-- ITS FALSE NEIGHBOUR: 'it returns false'. Refute it at one input. -/
def fnExactBufferTakeWrong : ChangeSpec := { name := "fnExactBufferTake", fn := fun _ => fun
  | [d1, d2] => { results := [.lit (.bool false)], args := [d1, d2] }
  | _ => none }
def FnExactBufferTakeWrongFalsely : Prop := fnExactBufferTakeRow.holds Try.pinned (OpenSpec.ofChange fnExactBufferTakeWrong)

/-- 'laws.FnExactAverageRate': WHATEVER THE INPUT: true; the input reads as it did. -/
def fnExactAverageRateSpec : ChangeSpec := { name := "fnExactAverageRate", fn := fun _ => fun
  | [d] => { results := [.lit (.bool true)], args := [d] }
  | _ => none }
def fnExactAverageRateRow : OpenClaim := { program := "ytfcgnhgocdoimaa", sum := "7dee748f054654900c362dabcd8532083f6ffba1aa1d9fa93277ce41b8f475b6", func := "loop.example/videocodec/laws.FnExactAverageRate", spec := "fnExactAverageRate", apart := false }
def FnExactAverageRateSaid : Prop := fnExactAverageRateRow.holds Try.pinned (OpenSpec.ofChange fnExactAverageRateSpec)

/-- ITS FALSE NEIGHBOUR: 'it returns false'. Refute it at one input. -/
def fnExactAverageRateWrong : ChangeSpec := { name := "fnExactAverageRate", fn := fun _ => fun
  | [d] => { results := [.lit (.bool false)], args := [d] }
  | _ => none }
def FnExactAverageRateWrongFalsely : Prop := fnExactAverageRateRow.holds Try.pinned (OpenSpec.ofChange fnExactAverageRateWrong)

/-- 'laws.FnExactInterleave': WHATEVER THE INPUT: true; the input reads as it did. -/
def fnExactInterleaveSpec : ChangeSpec := { name := "fnExactInterleave", fn := fun _ => fun
  | [d1, d2] => { results := [.lit (.bool true)], args := [d1, d2] }
  | _ => none }
def fnExactInterleaveRow : OpenClaim := { program := "ytfcgnhgocdoimaa", sum := "7dee748f054654900c362dabcd8532083f6ffba1aa1d9fa93277ce41b8f475b6", func := "loop.example/videocodec/laws.FnExactInterleave", spec := "fnExactInterleave", apart := false }
def FnExactInterleaveSaid : Prop := fnExactInterleaveRow.holds Try.pinned (OpenSpec.ofChange fnExactInterleaveSpec)

/-- ITS FALSE NEIGHBOUR: 'it returns false'. Refute it at one input. -/
def fnExactInterleaveWrong : ChangeSpec := { name := "fnExactInterleave", fn := fun _ => fun
  | [d1, d2] => { results := [.lit (.bool false)], args := [d1, d2] }
  | _ => none }
def FnExactInterleaveWrongFalsely : Prop := fnExactInterleaveRow.holds Try.pinned (OpenSpec.ofChange fnExactInterleaveWrong)

/-- 'laws.FnRefreshSchedule': WHATEVER THE INPUT: true; the input reads as it did. -/
def fnRefreshScheduleSpec : ChangeSpec := { name := "fnRefreshSchedule", fn := fun _ => fun
  | [d] => { results := [.lit (.bool true)], args := [d] }
  | _ => none }
def fnRefreshScheduleRow : OpenClaim := { program := "ytfcgnhgocdoimaa", sum := "7dee748f054654900c362dabcd8532083f6ffba1aa1d9fa93277ce41b8f475b6", func := "loop.example/videocodec/laws.FnRefreshSchedule", spec := "fnRefreshSchedule", apart := false }
def FnRefreshScheduleSaid : Prop := fnRefreshScheduleRow.holds Try.pinned (OpenSpec.ofChange fnRefreshScheduleSpec)

/-- ITS FALSE NEIGHBOUR: 'it returns false'. Refute it at one input. -/
def fnRefreshScheduleWrong : ChangeSpec := { name := "fnRefreshSchedule", fn := fun _ => fun
  | [d] => { results := [.lit (.bool false)], args := [d] }
  | _ => none }
def FnRefreshScheduleWrongFalsely : Prop := fnRefreshScheduleRow.holds Try.pinned (OpenSpec.ofChange fnRefreshScheduleWrong)

/-- 'laws.FnBurst': WHATEVER THE INPUT: true; the input reads as it did. -/
def fnBurstSpec : ChangeSpec := { name := "fnBurst", fn := fun _ => fun
  | [d1, d2] => { results := [.lit (.bool true)], args := [d1, d2] }
  | _ => none }
def fnBurstRow : OpenClaim := { program := "ytfcgnhgocdoimaa", sum := "7dee748f054654900c362dabcd8532083f6ffba1aa1d9fa93277ce41b8f475b6", func := "loop.example/videocodec/laws.FnBurst", spec := "fnBurst", apart := false }
def FnBurstSaid : Prop := fnBurstRow.holds Try.pinned (OpenSpec.ofChange fnBurstSpec)

/-- ITS FALSE NEIGHBOUR: 'it returns false'. Refute it at one input. -/
def fnBurstWrong : ChangeSpec := { name := "fnBurst", fn := fun _ => fun
  | [d1, d2] => { results := [.lit (.bool false)], args := [d1, d2] }
  | _ => none }
def FnBurstWrongFalsely : Prop := fnBurstRow.holds Try.pinned (OpenSpec.ofChange fnBurstWrong)

/-- 'laws.FnInterleave': WHATEVER THE INPUT: true; the input reads as it did. -/
def fnInterleaveSpec : ChangeSpec := { name := "fnInterleave", fn := fun _ => fun
  | [d] => { results := [.lit (.bool true)], args := [d] }
  | _ => none }
def fnInterleaveRow : OpenClaim := { program := "ytfcgnhgocdoimaa", sum := "7dee748f054654900c362dabcd8532083f6ffba1aa1d9fa93277ce41b8f475b6", func := "loop.example/videocodec/laws.FnInterleave", spec := "fnInterleave", apart := false }
def FnInterleaveSaid : Prop := fnInterleaveRow.holds Try.pinned (OpenSpec.ofChange fnInterleaveSpec)

/-- ITS FALSE NEIGHBOUR: 'it returns false'. Refute it at one input. -/
def fnInterleaveWrong : ChangeSpec := { name := "fnInterleave", fn := fun _ => fun
  | [d] => { results := [.lit (.bool false)], args := [d] }
  | _ => none }
def FnInterleaveWrongFalsely : Prop := fnInterleaveRow.holds Try.pinned (OpenSpec.ofChange fnInterleaveWrong)

/-- 'laws.FnBufferTake': WHATEVER THE INPUT: true; the input reads as it did. -/
def fnBufferTakeSpec : ChangeSpec := { name := "fnBufferTake", fn := fun _ => fun
  | [d] => { results := [.lit (.bool true)], args := [d] }
  | _ => none }
def fnBufferTakeRow : OpenClaim := { program := "ytfcgnhgocdoimaa", sum := "7dee748f054654900c362dabcd8532083f6ffba1aa1d9fa93277ce41b8f475b6", func := "loop.example/videocodec/laws.FnBufferTake", spec := "fnBufferTake", apart := false }
def FnBufferTakeSaid : Prop := fnBufferTakeRow.holds Try.pinned (OpenSpec.ofChange fnBufferTakeSpec)

/-- ITS FALSE NEIGHBOUR: 'it returns false'. Refute it at one input. -/
def fnBufferTakeWrong : ChangeSpec := { name := "fnBufferTake", fn := fun _ => fun
  | [d] => { results := [.lit (.bool false)], args := [d] }
  | _ => none }
def FnBufferTakeWrongFalsely : Prop := fnBufferTakeRow.holds Try.pinned (OpenSpec.ofChange fnBufferTakeWrong)

/- THE SECOND FORM. 'bulk': how many values and letters a reading holds, each counted each time it is reached (what is shared counts as often as it is met; a slice's spare places count too). A statement '..UptoSaid' is the law's where the arguments, and the package variables that the reading takes, are together of bulk at most 1048576: NARROWER than '..Said'. Prove '..Said' where nothing that the law and all that it calls make is longer than what came in: it says more and counts as full. Else prove '..UptoSaid'. A law counts once. -/
mutual
def uptoBulk {H : Type} : DataW H → Nat
  | .lit (.string bytes) => bytes.length + 1
  | .lit _ => 1
  | .nil => 1
  | .ptr d => uptoBulk d + 1
  | .slice elems spare => uptoBulkAll elems + uptoBulkAll spare + 1
  | .agg parts => uptoBulkAll parts + 1
  | .iface _ d => uptoBulk d + 1
  | .map entries => uptoBulkEntries entries + 1
  | .held _ => 1
def uptoBulkAll {H : Type} : List (DataW H) → Nat
  | [] => 0
  | d :: r => uptoBulk d + uptoBulkAll r
def uptoBulkEntries {H : Type} : List (Lit × DataW H) → Nat
  | [] => 0
  | x :: r => uptoBulkEntry x + uptoBulkEntries r
def uptoBulkEntry {H : Type} : Lit × DataW H → Nat
  | (.string bytes, d) => bytes.length + uptoBulk d + 1
  | (_, d) => uptoBulk d + 1
 end
def uptoSmall : (H : Type) → List (DataW H) → Bool := fun _ ds => decide (uptoBulkAll ds ≤ 1048576)
def OpenSpec.upto (s : _root_.Go.ChangeSpec) : _root_.Go.OpenSpec := { _root_.Go.OpenSpec.ofChange s with cond := some uptoSmall }

/-- 'laws.FnExactNeedsRefresh', WHERE WHAT IT READS IS OF BULK AT MOST 1048576: true; the input reads as it did. -/
def fnExactNeedsRefreshUptoRow : OpenClaim := { program := "ytfcgnhgocdoimaa", sum := "7dee748f054654900c362dabcd8532083f6ffba1aa1d9fa93277ce41b8f475b6", func := "loop.example/videocodec/laws.FnExactNeedsRefresh", spec := "fnExactNeedsRefresh", apart := false, narrowed := true }
def FnExactNeedsRefreshUptoSaid : Prop := fnExactNeedsRefreshUptoRow.holds Try.pinned (OpenSpec.upto fnExactNeedsRefreshSpec)

/-- 'laws.FnExactRefreshSchedule', WHERE WHAT IT READS IS OF BULK AT MOST 1048576: true; the input reads as it did. -/
def fnExactRefreshScheduleUptoRow : OpenClaim := { program := "ytfcgnhgocdoimaa", sum := "7dee748f054654900c362dabcd8532083f6ffba1aa1d9fa93277ce41b8f475b6", func := "loop.example/videocodec/laws.FnExactRefreshSchedule", spec := "fnExactRefreshSchedule", apart := false, narrowed := true }
def FnExactRefreshScheduleUptoSaid : Prop := fnExactRefreshScheduleUptoRow.holds Try.pinned (OpenSpec.upto fnExactRefreshScheduleSpec)

/-- 'laws.FnExactBufferTake', WHERE WHAT IT READS IS OF BULK AT MOST 1048576: true; the input reads as it did. -/
def fnExactBufferTakeUptoRow : OpenClaim := { program := "ytfcgnhgocdoimaa", sum := "7dee748f054654900c362dabcd8532083f6ffba1aa1d9fa93277ce41b8f475b6", func := "loop.example/videocodec/laws.FnExactBufferTake", spec := "fnExactBufferTake", apart := false, narrowed := true }
def FnExactBufferTakeUptoSaid : Prop := fnExactBufferTakeUptoRow.holds Try.pinned (OpenSpec.upto fnExactBufferTakeSpec)

/-- 'laws.FnExactAverageRate', WHERE WHAT IT READS IS OF BULK AT MOST 1048576: true; the input reads as it did. -/
def fnExactAverageRateUptoRow : OpenClaim := { program := "ytfcgnhgocdoimaa", sum := "7dee748f054654900c362dabcd8532083f6ffba1aa1d9fa93277ce41b8f475b6", func := "loop.example/videocodec/laws.FnExactAverageRate", spec := "fnExactAverageRate", apart := false, narrowed := true }
def FnExactAverageRateUptoSaid : Prop := fnExactAverageRateUptoRow.holds Try.pinned (OpenSpec.upto fnExactAverageRateSpec)

/-- 'laws.FnExactInterleave', WHERE WHAT IT READS IS OF BULK AT MOST 1048576: true; the input reads as it did. -/
def fnExactInterleaveUptoRow : OpenClaim := { program := "ytfcgnhgocdoimaa", sum := "7dee748f054654900c362dabcd8532083f6ffba1aa1d9fa93277ce41b8f475b6", func := "loop.example/videocodec/laws.FnExactInterleave", spec := "fnExactInterleave", apart := false, narrowed := true }
def FnExactInterleaveUptoSaid : Prop := fnExactInterleaveUptoRow.holds Try.pinned (OpenSpec.upto fnExactInterleaveSpec)

/-- 'laws.FnRefreshSchedule', WHERE WHAT IT READS IS OF BULK AT MOST 1048576: true; the input reads as it did. -/
def fnRefreshScheduleUptoRow : OpenClaim := { program := "ytfcgnhgocdoimaa", sum := "7dee748f054654900c362dabcd8532083f6ffba1aa1d9fa93277ce41b8f475b6", func := "loop.example/videocodec/laws.FnRefreshSchedule", spec := "fnRefreshSchedule", apart := false, narrowed := true }
def FnRefreshScheduleUptoSaid : Prop := fnRefreshScheduleUptoRow.holds Try.pinned (OpenSpec.upto fnRefreshScheduleSpec)

/-- 'laws.FnBurst', WHERE WHAT IT READS IS OF BULK AT MOST 1048576: true; the input reads as it did. -/
def fnBurstUptoRow : OpenClaim := { program := "ytfcgnhgocdoimaa", sum := "7dee748f054654900c362dabcd8532083f6ffba1aa1d9fa93277ce41b8f475b6", func := "loop.example/videocodec/laws.FnBurst", spec := "fnBurst", apart := false, narrowed := true }
def FnBurstUptoSaid : Prop := fnBurstUptoRow.holds Try.pinned (OpenSpec.upto fnBurstSpec)

/-- 'laws.FnInterleave', WHERE WHAT IT READS IS OF BULK AT MOST 1048576: true; the input reads as it did. -/
def fnInterleaveUptoRow : OpenClaim := { program := "ytfcgnhgocdoimaa", sum := "7dee748f054654900c362dabcd8532083f6ffba1aa1d9fa93277ce41b8f475b6", func := "loop.example/videocodec/laws.FnInterleave", spec := "fnInterleave", apart := false, narrowed := true }
def FnInterleaveUptoSaid : Prop := fnInterleaveUptoRow.holds Try.pinned (OpenSpec.upto fnInterleaveSpec)

/-- 'laws.FnBufferTake', WHERE WHAT IT READS IS OF BULK AT MOST 1048576: true; the input reads as it did. -/
def fnBufferTakeUptoRow : OpenClaim := { program := "ytfcgnhgocdoimaa", sum := "7dee748f054654900c362dabcd8532083f6ffba1aa1d9fa93277ce41b8f475b6", func := "loop.example/videocodec/laws.FnBufferTake", spec := "fnBufferTake", apart := false, narrowed := true }
def FnBufferTakeUptoSaid : Prop := fnBufferTakeUptoRow.holds Try.pinned (OpenSpec.upto fnBufferTakeSpec)

end Rows
end Go.Proofs.Ytfcgnhgocdoimaa
