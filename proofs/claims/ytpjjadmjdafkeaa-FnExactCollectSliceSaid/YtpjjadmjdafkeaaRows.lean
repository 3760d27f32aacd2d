/-
  No cell of these rows narrows 'for every input' (looked for: loops, veiled, ifaces, maps, wideKeys, modest, calm, conditions, laid).
  DERIVED. THE GIVEN ROWS OF THIS SEAT. 9 by the template 'for every input the law returns true; each argument reads behind the call as it read before'; 0 by the template 'total and deterministic' (their statements: YtpjjadmjdafkeaaTotals.lean).
  GIVEN WITH THE SEED: the statements are not yours to turn. If you find one false, say at which input.
  Laid BY PROGRAM, IN A SANDBOX (cutbox-rows.mjs): the forced cells as the released guide's own fill.sh prints them over the translation 199fb08a172ab31a… (all of the seat's roots in one cut). By AI agents, Wed Nov 11 2026. No macro, syntax, notation, axiom, sorry.
-/
import Derived.Test.YtpjjadmjdafkeaaChecked
import GoSem.Claim
import GoSem.ClaimJoined
import GoSem.ClaimMapViews
import Derived.JoinedTies
import Derived.KernelRfl
namespace Go.Proofs.Ytpjjadmjdafkeaa
/- THE CELL 'sum', in the pinned program and in every row, IS THE sha256 OF THE DUMP (.gsa) THAT YtpjjadmjdafkeaaProg.lean LOADS. Nothing in Lean hashes anything: it is a label: what it is worth is what the hold of that sum in a sandbox is worth. -/
noncomputable def Try.pinned : Pinned := { name := "ytpjjadmjdafkeaa", sum := "199fb08a172ab31a366fa2f88deb57ac04e86681c36e1df2eb986e068c63d978", checked := Try.checked }
namespace Rows
def none {H : Type} : Left H := { results := [], args := [] }

/-- 'laws.FnExactPacketBytes': WHATEVER THE INPUT: true; the input reads as it did. -/
def fnExactPacketBytesSpec : ChangeSpec := { name := "fnExactPacketBytes", fn := fun _ => fun
  | [d] => { results := [.lit (.bool true)], args := [d] }
  | _ => none }
def fnExactPacketBytesRow : OpenClaim := { program := "ytpjjadmjdafkeaa", sum := "199fb08a172ab31a366fa2f88deb57ac04e86681c36e1df2eb986e068c63d978", func := "loop.example/videocodec/laws.FnExactPacketBytes", spec := "fnExactPacketBytes", plainKeys := false, apart := false }
def FnExactPacketBytesSaid : Prop := fnExactPacketBytesRow.holds Try.pinned (OpenSpec.ofChange fnExactPacketBytesSpec)

/-- ITS FALSE NEIGHBOUR: 'it returns false'. Refute it at one input. -/
def fnExactPacketBytesWrong : ChangeSpec := { name := "fnExactPacketBytes", fn := fun _ => fun
  | [d] => { results := [.lit (.bool false)], args := [d] }
  | _ => none }
def FnExactPacketBytesWrongFalsely : Prop := fnExactPacketBytesRow.holds Try.pinned (OpenSpec.ofChange fnExactPacketBytesWrong)

/-- 'laws.FnExactReadPacket': WHATEVER THE INPUT: true; the input reads as it did. -/
def fnExactReadPacketSpec : ChangeSpec := { name := "fnExactReadPacket", fn := fun _ => fun
  | [d] => { results := [.lit (.bool true)], args := [d] }
  | _ => none }
def fnExactReadPacketRow : OpenClaim := { program := "ytpjjadmjdafkeaa", sum := "199fb08a172ab31a366fa2f88deb57ac04e86681c36e1df2eb986e068c63d978", func := "loop.example/videocodec/laws.FnExactReadPacket", spec := "fnExactReadPacket", plainKeys := false, apart := false }
def FnExactReadPacketSaid : Prop := fnExactReadPacketRow.holds Try.pinned (OpenSpec.ofChange fnExactReadPacketSpec)

/-- ITS FALSE NEIGHBOUR: 'it returns false'. Refute it at one input. -/
def fnExactReadPacketWrong : ChangeSpec := { name := "fnExactReadPacket", fn := fun _ => fun
  | [d] => { results := [.lit (.bool false)], args := [d] }
  | _ => none }
def FnExactReadPacketWrongFalsely : Prop := fnExactReadPacketRow.holds Try.pinned (OpenSpec.ofChange fnExactReadPacketWrong)

/-- 'laws.FnPacketBytes': WHATEVER THE INPUT: true; the input reads as it did. -/
def fnPacketBytesSpec : ChangeSpec := { name := "fnPacketBytes", fn := fun _ => fun
  | [d] => { results := [.lit (.bool true)], args := [d] }
  | _ => none }
def fnPacketBytesRow : OpenClaim := { program := "ytpjjadmjdafkeaa", sum := "199fb08a172ab31a366fa2f88deb57ac04e86681c36e1df2eb986e068c63d978", func := "loop.example/videocodec/laws.FnPacketBytes", spec := "fnPacketBytes", plainKeys := false, apart := false }
def FnPacketBytesSaid : Prop := fnPacketBytesRow.holds Try.pinned (OpenSpec.ofChange fnPacketBytesSpec)

/-- ITS FALSE NEIGHBOUR: 'it returns false'. Refute it at one input. -/
def fnPacketBytesWrong : ChangeSpec := { name := "fnPacketBytes", fn := fun _ => fun
  | [d] => { results := [.lit (.bool false)], args := [d] }
  | _ => none }
def FnPacketBytesWrongFalsely : Prop := fnPacketBytesRow.holds Try.pinned (OpenSpec.ofChange fnPacketBytesWrong)

/-- 'laws.FnReadPacket': WHATEVER THE INPUT: true; the input reads as it did. -/
def fnReadPacketSpec : ChangeSpec := { name := "fnReadPacket", fn := fun _ => fun
  | [d1, d2] => { results := [.lit (.bool true)], args := [d1, d2] }
  | _ => none }
def fnReadPacketRow : OpenClaim := { program := "ytpjjadmjdafkeaa", sum := "199fb08a172ab31a366fa2f88deb57ac04e86681c36e1df2eb986e068c63d978", func := "loop.example/videocodec/laws.FnReadPacket", spec := "fnReadPacket", plainKeys := false, apart := false }
def FnReadPacketSaid : Prop := fnReadPacketRow.holds Try.pinned (OpenSpec.ofChange fnReadPacketSpec)

/-- ITS FALSE NEIGHBOUR: 'it returns false'. Refute it at one input. -/
def fnReadPacketWrong : ChangeSpec := { name := "fnReadPacket", fn := fun _ => fun
  | [d1, d2] => { results := [.lit (.bool false)], args := [d1, d2] }
  | _ => none }
def FnReadPacketWrongFalsely : Prop := fnReadPacketRow.holds Try.pinned (OpenSpec.ofChange fnReadPacketWrong)

/-- 'laws.FnExactMissingNumbers': WHATEVER THE INPUT: true; the input reads as it did. -/
def fnExactMissingNumbersSpec : ChangeSpec := { name := "fnExactMissingNumbers", fn := fun _ => fun
  | [d1, d2, d3] => { results := [.lit (.bool true)], args := [d1, d2, d3] }
  | _ => none }
def fnExactMissingNumbersRow : OpenClaim := { program := "ytpjjadmjdafkeaa", sum := "199fb08a172ab31a366fa2f88deb57ac04e86681c36e1df2eb986e068c63d978", func := "loop.example/videocodec/laws.FnExactMissingNumbers", spec := "fnExactMissingNumbers", plainKeys := false, apart := false }
def FnExactMissingNumbersSaid : Prop := fnExactMissingNumbersRow.holds Try.pinned (OpenSpec.ofChange fnExactMissingNumbersSpec)

/-- ITS FALSE NEIGHBOUR: 'it returns false'. Refute it at one input. -/
def fnExactMissingNumbersWrong : ChangeSpec := { name := "fnExactMissingNumbers", fn := fun _ => fun
  | [d1, d2, d3] => { results := [.lit (.bool false)], args := [d1, d2, d3] }
  | _ => none }
def FnExactMissingNumbersWrongFalsely : Prop := fnExactMissingNumbersRow.holds Try.pinned (OpenSpec.ofChange fnExactMissingNumbersWrong)

/-- 'laws.FnExactCollectSlice': WHATEVER THE INPUT: true; the input reads as it did. -/
def fnExactCollectSliceSpec : ChangeSpec := { name := "fnExactCollectSlice", fn := fun _ => fun
  | [d1, d2, d3] => { results := [.lit (.bool true)], args := [d1, d2, d3] }
  | _ => none }
def fnExactCollectSliceRow : OpenClaim := { program := "ytpjjadmjdafkeaa", sum := "199fb08a172ab31a366fa2f88deb57ac04e86681c36e1df2eb986e068c63d978", func := "loop.example/videocodec/laws.FnExactCollectSlice", spec := "fnExactCollectSlice", plainKeys := false, apart := false }
def FnExactCollectSliceSaid : Prop := fnExactCollectSliceRow.holds Try.pinned (OpenSpec.ofChange fnExactCollectSliceSpec)

/-- ITS FALSE NEIGHBOUR: 'it returns false'. Refute it at one input. -/
def fnExactCollectSliceWrong : ChangeSpec := { name := "fnExactCollectSlice", fn := fun _ => fun
  | [d1, d2, d3] => { results := [.lit (.bool false)], args := [d1, d2, d3] }
  | _ => none }
def FnExactCollectSliceWrongFalsely : Prop := fnExactCollectSliceRow.holds Try.pinned (OpenSpec.ofChange fnExactCollectSliceWrong)

/-- 'laws.FnMissingNumbers': WHATEVER THE INPUT: true; the input reads as it did. -/
def fnMissingNumbersSpec : ChangeSpec := { name := "fnMissingNumbers", fn := fun _ => fun
  | [d] => { results := [.lit (.bool true)], args := [d] }
  | _ => none }
def fnMissingNumbersRow : OpenClaim := { program := "ytpjjadmjdafkeaa", sum := "199fb08a172ab31a366fa2f88deb57ac04e86681c36e1df2eb986e068c63d978", func := "loop.example/videocodec/laws.FnMissingNumbers", spec := "fnMissingNumbers", plainKeys := false, apart := false }
def FnMissingNumbersSaid : Prop := fnMissingNumbersRow.holds Try.pinned (OpenSpec.ofChange fnMissingNumbersSpec)

/-- ITS FALSE NEIGHBOUR: 'it returns false'. Refute it at one input. -/
def fnMissingNumbersWrong : ChangeSpec := { name := "fnMissingNumbers", fn := fun _ => fun
  | [d] => { results := [.lit (.bool false)], args := [d] }
  | _ => none }
def FnMissingNumbersWrongFalsely : Prop := fnMissingNumbersRow.holds Try.pinned (OpenSpec.ofChange fnMissingNumbersWrong)

/-- 'laws.FnCollectSlice': WHATEVER THE INPUT: true; the input reads as it did. -/
def fnCollectSliceSpec : ChangeSpec := { name := "fnCollectSlice", fn := fun _ => fun
  | [d] => { results := [.lit (.bool true)], args := [d] }
  | _ => none }
def fnCollectSliceRow : OpenClaim := { program := "ytpjjadmjdafkeaa", sum := "199fb08a172ab31a366fa2f88deb57ac04e86681c36e1df2eb986e068c63d978", func := "loop.example/videocodec/laws.FnCollectSlice", spec := "fnCollectSlice", plainKeys := false, apart := false }
def FnCollectSliceSaid : Prop := fnCollectSliceRow.holds Try.pinned (OpenSpec.ofChange fnCollectSliceSpec)

/-- ITS FALSE NEIGHBOUR: 'it returns false'. Refute it at one input. -/
def fnCollectSliceWrong : ChangeSpec := { name := "fnCollectSlice", fn := fun _ => fun
  | [d] => { results := [.lit (.bool false)], args := [d] }
  | _ => none }
def FnCollectSliceWrongFalsely : Prop := fnCollectSliceRow.holds Try.pinned (OpenSpec.ofChange fnCollectSliceWrong)

/-- 'laws.FnExactWriteContainer': WHATEVER THE INPUT: true; the input reads as it did. -/
def fnExactWriteContainerSpec : ChangeSpec := { name := "fnExactWriteContainer", fn := fun _ => fun
  | [d] => { results := [.lit (.bool true)], args := [d] }
  | _ => none }
def fnExactWriteContainerRow : OpenClaim := { program := "ytpjjadmjdafkeaa", sum := "199fb08a172ab31a366fa2f88deb57ac04e86681c36e1df2eb986e068c63d978", func := "loop.example/videocodec/laws.FnExactWriteContainer", spec := "fnExactWriteContainer", plainKeys := false, apart := false }
def FnExactWriteContainerSaid : Prop := fnExactWriteContainerRow.holds Try.pinned (OpenSpec.ofChange fnExactWriteContainerSpec)

/-- ITS FALSE NEIGHBOUR: 'it returns false'. Refute it at one input. -/
def fnExactWriteContainerWrong : ChangeSpec := { name := "fnExactWriteContainer", fn := fun _ => fun
  | [d] => { results := [.lit (.bool false)], args := [d] }
  | _ => none }
def FnExactWriteContainerWrongFalsely : Prop := fnExactWriteContainerRow.holds Try.pinned (OpenSpec.ofChange fnExactWriteContainerWrong)

/- THE SECOND FORM. 'bulk': how many values and letters a reading holds, each counted each time it is reached (what is shared counts as often as it is met; a slice's spare places count too). A statement '..UptoSaid' is the law's where the arguments, and the package variables that the reading takes, are together of bulk at most 1048576: NARROWER than '..Said'. Prove '..Said' where nothing that the law and all that it calls make is longer than what came in: it says more and counts as full. Else prove '..UptoSaid'. A law counts once. -/
mutual
def uptoBulk {H : Type} : DataW H → Nat
  | .lit (.string bytes) => bytes.length + 1
  | .lit _ => 1
  | .nil => 1
  | .ptr d => uptoBulk d + 1
  | .slice elems spare => uptoBulkAll elems + uptoBulkAll spare + 1
  | .agg parts => uptoBulkAll parts + 1
  | .iface _ d => uptoBulk d + 1
  | .map entries => uptoBulkEntries entries + 1
  | .held _ => 1
def uptoBulkAll {H : Type} : List (DataW H) → Nat
  | [] => 0
  | d :: r => uptoBulk d + uptoBulkAll r
def uptoBulkEntries {H : Type} : List (Lit × DataW H) → Nat
  | [] => 0
  | x :: r => uptoBulkEntry x + uptoBulkEntries r
def uptoBulkEntry {H : Type} : Lit × DataW H → Nat
  | (.string bytes, d) => bytes.length + uptoBulk d + 1
  | (_, d) => uptoBulk d + 1
 end
def uptoSmall : (H : Type) → List (DataW H) → Bool := fun _ ds => decide (uptoBulkAll ds ≤ 1048576)
def OpenSpec.upto (s : _root_.Go.ChangeSpec) : _root_.Go.OpenSpec := { _root_.Go.OpenSpec.ofChange s with cond := some uptoSmall }

/-- 'laws.FnExactPacketBytes', WHERE WHAT IT READS IS OF BULK AT MOST 1048576: true; the input reads as it did. -/
def fnExactPacketBytesUptoRow : OpenClaim := { program := "ytpjjadmjdafkeaa", sum := "199fb08a172ab31a366fa2f88deb57ac04e86681c36e1df2eb986e068c63d978", func := "loop.example/videocodec/laws.FnExactPacketBytes", spec := "fnExactPacketBytes", plainKeys := false, apart := false, narrowed := true }
def FnExactPacketBytesUptoSaid : Prop := fnExactPacketBytesUptoRow.holds Try.pinned (OpenSpec.upto fnExactPacketBytesSpec)

/-- 'laws.FnExactReadPacket', WHERE WHAT IT READS IS OF BULK AT MOST 1048576: true; the input reads as it did. -/
def fnExactReadPacketUptoRow : OpenClaim := { program := "ytpjjadmjdafkeaa", sum := "199fb08a172ab31a366fa2f88deb57ac04e86681c36e1df2eb986e068c63d978", func := "loop.example/videocodec/laws.FnExactReadPacket", spec := "fnExactReadPacket", plainKeys := false, apart := false, narrowed := true }
def FnExactReadPacketUptoSaid : Prop := fnExactReadPacketUptoRow.holds Try.pinned (OpenSpec.upto fnExactReadPacketSpec)

/-- 'laws.FnPacketBytes', WHERE WHAT IT READS IS OF BULK AT MOST 1048576: true; the input reads as it did. -/
def fnPacketBytesUptoRow : OpenClaim := { program := "ytpjjadmjdafkeaa", sum := "199fb08a172ab31a366fa2f88deb57ac04e86681c36e1df2eb986e068c63d978", func := "loop.example/videocodec/laws.FnPacketBytes", spec := "fnPacketBytes", plainKeys := false, apart := false, narrowed := true }
def FnPacketBytesUptoSaid : Prop := fnPacketBytesUptoRow.holds Try.pinned (OpenSpec.upto fnPacketBytesSpec)

/-- 'laws.FnReadPacket', WHERE WHAT IT READS IS OF BULK AT MOST 1048576: true; the input reads as it did. -/
def fnReadPacketUptoRow : OpenClaim := { program := "ytpjjadmjdafkeaa", sum := "199fb08a172ab31a366fa2f88deb57ac04e86681c36e1df2eb986e068c63d978", func := "loop.example/videocodec/laws.FnReadPacket", spec := "fnReadPacket", plainKeys := false, apart := false, narrowed := true }
def FnReadPacketUptoSaid : Prop := fnReadPacketUptoRow.holds Try.pinned (OpenSpec.upto fnReadPacketSpec)

/-- 'laws.FnExactMissingNumbers', WHERE WHAT IT READS IS OF BULK AT MOST 1048576: true; the input reads as it did. -/
def fnExactMissingNumbersUptoRow : OpenClaim := { program := "ytpjjadmjdafkeaa", sum := "199fb08a172ab31a366fa2f88deb57ac04e86681c36e1df2eb986e068c63d978", func := "loop.example/videocodec/laws.FnExactMissingNumbers", spec := "fnExactMissingNumbers", plainKeys := false, apart := false, narrowed := true }
def FnExactMissingNumbersUptoSaid : Prop := fnExactMissingNumbersUptoRow.holds Try.pinned (OpenSpec.upto fnExactMissingNumbersSpec)

/-- 'laws.FnExactCollectSlice', WHERE WHAT IT READS IS OF BULK AT MOST 1048576: true; the input reads as it did. -/
def fnExactCollectSliceUptoRow : OpenClaim := { program := "ytpjjadmjdafkeaa", sum := "199fb08a172ab31a366fa2f88deb57ac04e86681c36e1df2eb986e068c63d978", func := "loop.example/videocodec/laws.FnExactCollectSlice", spec := "fnExactCollectSlice", plainKeys := false, apart := false, narrowed := true }
def FnExactCollectSliceUptoSaid : Prop := fnExactCollectSliceUptoRow.holds Try.pinned (OpenSpec.upto fnExactCollectSliceSpec)

/-- 'laws.FnMissingNumbers', WHERE WHAT IT READS IS OF BULK AT MOST 1048576: true; the input reads as it did. -/
def fnMissingNumbersUptoRow : OpenClaim := { program := "ytpjjadmjdafkeaa", sum := "199fb08a172ab31a366fa2f88deb57ac04e86681c36e1df2eb986e068c63d978", func := "loop.example/videocodec/laws.FnMissingNumbers", spec := "fnMissingNumbers", plainKeys := false, apart := false, narrowed := true }
def FnMissingNumbersUptoSaid : Prop := fnMissingNumbersUptoRow.holds Try.pinned (OpenSpec.upto fnMissingNumbersSpec)

/-- 'laws.FnCollectSlice', WHERE WHAT IT READS IS OF BULK AT MOST 1048576: true; the input reads as it did. -/
def fnCollectSliceUptoRow : OpenClaim := { program := "ytpjjadmjdafkeaa", sum := "199fb08a172ab31a366fa2f88deb57ac04e86681c36e1df2eb986e068c63d978", func := "loop.example/videocodec/laws.FnCollectSlice", spec := "fnCollectSlice", plainKeys := false, apart := false, narrowed := true }
def FnCollectSliceUptoSaid : Prop := fnCollectSliceUptoRow.holds Try.pinned (OpenSpec.upto fnCollectSliceSpec)

/-- 'laws.FnExactWriteContainer', WHERE WHAT IT READS IS OF BULK AT MOST 1048576: true; the input reads as it did. -/
def fnExactWriteContainerUptoRow : OpenClaim := { program := "ytpjjadmjdafkeaa", sum := "199fb08a172ab31a366fa2f88deb57ac04e86681c36e1df2eb986e068c63d978", func := "loop.example/videocodec/laws.FnExactWriteContainer", spec := "fnExactWriteContainer", plainKeys := false, apart := false, narrowed := true }
def FnExactWriteContainerUptoSaid : Prop := fnExactWriteContainerUptoRow.holds Try.pinned (OpenSpec.upto fnExactWriteContainerSpec)

end Rows
end Go.Proofs.Ytpjjadmjdafkeaa
