/-
  No cell of these rows narrows 'for every input' (looked for: loops, veiled, ifaces, maps, wideKeys, modest, calm, conditions, laid).
  DERIVED. THE GIVEN ROWS OF THIS SEAT. 10 by the template 'for every input the law returns true; each argument reads behind the call as it read before'; 0 by the template 'total and deterministic' (their statements: YtmcdlkbofhdnlaaTotals.lean).
  GIVEN WITH THE SEED: the statements are not yours to turn. If you find one false, say at which input.
  Laid BY PROGRAM, IN A SANDBOX (cutbox-rows.mjs): the forced cells as the released guide's own fill.sh prints them over the translation 5d98100dc70e8c26… (all of the seat's roots in one cut). By AI agents, Wed Nov 11 2026. No macro, syntax, notation, axiom, sorry.
-/
import Derived.Test.YtmcdlkbofhdnlaaChecked
import GoSem.Claim
import GoSem.ClaimJoined
import GoSem.ClaimMapViews
import Derived.JoinedTies
import Derived.KernelRfl
namespace Go.Proofs.Ytmcdlkbofhdnlaa
/- THE CELL 'sum', in the pinned program and in every row, IS THE sha256 OF THE DUMP (.gsa) THAT YtmcdlkbofhdnlaaProg.lean LOADS. Nothing in Lean hashes anything: it is a label: what it is worth is what the hold of that sum in a sandbox is worth. -/
noncomputable def Try.pinned : Pinned := { name := "ytmcdlkbofhdnlaa", sum := "5d98100dc70e8c26a4c346f02b9e07fd56e8f93d23eb6908d0ccb26cbb3d60b6", checked := Try.checked }
namespace Rows
def none {H : Type} : Left H := { results := [], args := [] }

/-- 'laws.FnSamplesValid': WHATEVER THE INPUT: true; the input reads as it did. -/
def fnSamplesValidSpec : ChangeSpec := { name := "fnSamplesValid", fn := fun _ => fun
  | [d] => { results := [.lit (.bool true)], args := [d] }
  | _ => none }
def fnSamplesValidRow : OpenClaim := { program := "ytmcdlkbofhdnlaa", sum := "5d98100dc70e8c26a4c346f02b9e07fd56e8f93d23eb6908d0ccb26cbb3d60b6", func := "loop.example/videocodec/laws.FnSamplesValid", spec := "fnSamplesValid", apart := false }
def FnSamplesValidSaid : Prop := fnSamplesValidRow.holds Try.pinned (OpenSpec.ofChange fnSamplesValidSpec)

/-- ITS FALSE NEIGHBOUR: 'it returns false'. Refute it at one input. -/
def fnSamplesValidWrong : ChangeSpec := { name := "fnSamplesValid", fn := fun _ => fun
  | [d] => { results := [.lit (.bool false)], args := [d] }
  | _ => none }
def FnSamplesValidWrongFalsely : Prop := fnSamplesValidRow.holds Try.pinned (OpenSpec.ofChange fnSamplesValidWrong)

/-- 'laws.FnExactSamplesValid': WHATEVER THE INPUT: true; the input reads as it did. -/
def fnExactSamplesValidSpec : ChangeSpec := { name := "fnExactSamplesValid", fn := fun _ => fun
  | [d] => { results := [.lit (.bool true)], args := [d] }
  | _ => none }
def fnExactSamplesValidRow : OpenClaim := { program := "ytmcdlkbofhdnlaa", sum := "5d98100dc70e8c26a4c346f02b9e07fd56e8f93d23eb6908d0ccb26cbb3d60b6", func := "loop.example/videocodec/laws.FnExactSamplesValid", spec := "fnExactSamplesValid", apart := false }
def FnExactSamplesValidSaid : Prop := fnExactSamplesValidRow.holds Try.pinned (OpenSpec.ofChange fnExactSamplesValidSpec)

/-- ITS FALSE NEIGHBOUR: 'it returns false'. Refute it at one input. -/
def fnExactSamplesValidWrong : ChangeSpec := { name := "fnExactSamplesValid", fn := fun _ => fun
  | [d] => { results := [.lit (.bool false)], args := [d] }
  | _ => none }
def FnExactSamplesValidWrongFalsely : Prop := fnExactSamplesValidRow.holds Try.pinned (OpenSpec.ofChange fnExactSamplesValidWrong)

/-- 'laws.FnExactBufferRun': WHATEVER THE INPUT: true; the input reads as it did. -/
def fnExactBufferRunSpec : ChangeSpec := { name := "fnExactBufferRun", fn := fun _ => fun
  | [d1, d2] => { results := [.lit (.bool true)], args := [d1, d2] }
  | _ => none }
def fnExactBufferRunRow : OpenClaim := { program := "ytmcdlkbofhdnlaa", sum := "5d98100dc70e8c26a4c346f02b9e07fd56e8f93d23eb6908d0ccb26cbb3d60b6", func := "loop.example/videocodec/laws.FnExactBufferRun", spec := "fnExactBufferRun", apart := false }
def FnExactBufferRunSaid : Prop := fnExactBufferRunRow.holds Try.pinned (OpenSpec.ofChange fnExactBufferRunSpec)

/-- ITS FALSE NEIGHBOUR: 'it returns false'. Refute it at one input. -/
def fnExactBufferRunWrong : ChangeSpec := { name := "fnExactBufferRun", fn := fun _ => fun
  | [d1, d2] => { results := [.lit (.bool false)], args := [d1, d2] }
  | _ => none }
def FnExactBufferRunWrongFalsely : Prop := fnExactBufferRunRow.holds Try.pinned (OpenSpec.ofChange fnExactBufferRunWrong)

/-- 'laws.FnBufferRun': WHATEVER THE INPUT: true; the input reads as it did. -/
def fnBufferRunSpec : ChangeSpec := { name := "fnBufferRun", fn := fun _ => fun
  | [d] => { results := [.lit (.bool true)], args := [d] }
  | _ => none }
def fnBufferRunRow : OpenClaim := { program := "ytmcdlkbofhdnlaa", sum := "5d98100dc70e8c26a4c346f02b9e07fd56e8f93d23eb6908d0ccb26cbb3d60b6", func := "loop.example/videocodec/laws.FnBufferRun", spec := "fnBufferRun", apart := false }
def FnBufferRunSaid : Prop := fnBufferRunRow.holds Try.pinned (OpenSpec.ofChange fnBufferRunSpec)

/-- ITS FALSE NEIGHBOUR: 'it returns false'. Refute it at one input. -/
def fnBufferRunWrong : ChangeSpec := { name := "fnBufferRun", fn := fun _ => fun
  | [d] => { results := [.lit (.bool false)], args := [d] }
  | _ => none }
def FnBufferRunWrongFalsely : Prop := fnBufferRunRow.holds Try.pinned (OpenSpec.ofChange fnBufferRunWrong)

/-- 'laws.FnSeekKey': WHATEVER THE INPUT: true; the input reads as it did. -/
def fnSeekKeySpec : ChangeSpec := { name := "fnSeekKey", fn := fun _ => fun
  | [d] => { results := [.lit (.bool true)], args := [d] }
  | _ => none }
def fnSeekKeyRow : OpenClaim := { program := "ytmcdlkbofhdnlaa", sum := "5d98100dc70e8c26a4c346f02b9e07fd56e8f93d23eb6908d0ccb26cbb3d60b6", func := "loop.example/videocodec/laws.FnSeekKey", spec := "fnSeekKey", apart := false }
def FnSeekKeySaid : Prop := fnSeekKeyRow.holds Try.pinned (OpenSpec.ofChange fnSeekKeySpec)

/-- ITS FALSE NEIGHBOUR: 'it returns false'. Refute it at one input. -/
def fnSeekKeyWrong : ChangeSpec := { name := "fnSeekKey", fn := fun _ => fun
  | [d] => { results := [.lit (.bool false)], args := [d] }
  | _ => none }
def FnSeekKeyWrongFalsely : Prop := fnSeekKeyRow.holds Try.pinned (OpenSpec.ofChange fnSeekKeyWrong)

/-- 'laws.FnExactSeekKey': WHATEVER THE INPUT: true; the input reads as it did. -/
def fnExactSeekKeySpec : ChangeSpec := { name := "fnExactSeekKey", fn := fun _ => fun
  | [d1, d2] => { results := [.lit (.bool true)], args := [d1, d2] }
  | _ => none }
def fnExactSeekKeyRow : OpenClaim := { program := "ytmcdlkbofhdnlaa", sum := "5d98100dc70e8c26a4c346f02b9e07fd56e8f93d23eb6908d0ccb26cbb3d60b6", func := "loop.example/videocodec/laws.FnExactSeekKey", spec := "fnExactSeekKey", apart := false }
def FnExactSeekKeySaid : Prop := fnExactSeekKeyRow.holds Try.pinned (OpenSpec.ofChange fnExactSeekKeySpec)

/-- ITS FALSE NEIGHBOUR: 'it returns false'. Refute it at one input. -/
def fnExactSeekKeyWrong : ChangeSpec := { name := "fnExactSeekKey", fn := fun _ => fun
  | [d1, d2] => { results := [.lit (.bool false)], args := [d1, d2] }
  | _ => none }
def FnExactSeekKeyWrongFalsely : Prop := fnExactSeekKeyRow.holds Try.pinned (OpenSpec.ofChange fnExactSeekKeyWrong)

/-- 'laws.FnParityOf': WHATEVER THE INPUT: true; the input reads as it did. -/
def fnParityOfSpec : ChangeSpec := { name := "fnParityOf", fn := fun _ => fun
  | [d] => { results := [.lit (.bool true)], args := [d] }
  | _ => none }
def fnParityOfRow : OpenClaim := { program := "ytmcdlkbofhdnlaa", sum := "5d98100dc70e8c26a4c346f02b9e07fd56e8f93d23eb6908d0ccb26cbb3d60b6", func := "loop.example/videocodec/laws.FnParityOf", spec := "fnParityOf", apart := false }
def FnParityOfSaid : Prop := fnParityOfRow.holds Try.pinned (OpenSpec.ofChange fnParityOfSpec)

/-- ITS FALSE NEIGHBOUR: 'it returns false'. Refute it at one input. -/
def fnParityOfWrong : ChangeSpec := { name := "fnParityOf", fn := fun _ => fun
  | [d] => { results := [.lit (.bool false)], args := [d] }
  | _ => none }
def FnParityOfWrongFalsely : Prop := fnParityOfRow.holds Try.pinned (OpenSpec.ofChange fnParityOfWrong)

/-- 'laws.FnExactParityOf': WHATEVER THE INPUT: true; the input reads as it did. -/
def fnExactParityOfSpec : ChangeSpec := { name := "fnExactParityOf", fn := fun _ => fun
  | [d] => { results := [.lit (.bool true)], args := [d] }
  | _ => none }
def fnExactParityOfRow : OpenClaim := { program := "ytmcdlkbofhdnlaa", sum := "5d98100dc70e8c26a4c346f02b9e07fd56e8f93d23eb6908d0ccb26cbb3d60b6", func := "loop.example/videocodec/laws.FnExactParityOf", spec := "fnExactParityOf", apart := false }
def FnExactParityOfSaid : Prop := fnExactParityOfRow.holds Try.pinned (OpenSpec.ofChange fnExactParityOfSpec)

/-- ITS FALSE NEIGHBOUR: 'it returns false'. Refute it at one input. -/
def fnExactParityOfWrong : ChangeSpec := { name := "fnExactParityOf", fn := fun _ => fun
  | [d] => { results := [.lit (.bool false)], args := [d] }
  | _ => none }
def FnExactParityOfWrongFalsely : Prop := fnExactParityOfRow.holds Try.pinned (OpenSpec.ofChange fnExactParityOfWrong)

/-- 'laws.FnExactRecoverString': WHATEVER THE INPUT: true; the input reads as it did. -/
def fnExactRecoverStringSpec : ChangeSpec := { name := "fnExactRecoverString", fn := fun _ => fun
  | [d1, d2, d3] => { results := [.lit (.bool true)], args := [d1, d2, d3] }
  | _ => none }
def fnExactRecoverStringRow : OpenClaim := { program := "ytmcdlkbofhdnlaa", sum := "5d98100dc70e8c26a4c346f02b9e07fd56e8f93d23eb6908d0ccb26cbb3d60b6", func := "loop.example/videocodec/laws.FnExactRecoverString", spec := "fnExactRecoverString", apart := false }
def FnExactRecoverStringSaid : Prop := fnExactRecoverStringRow.holds Try.pinned (OpenSpec.ofChange fnExactRecoverStringSpec)

/-- ITS FALSE NEIGHBOUR: 'it returns false'. Refute it at one input. -/
def fnExactRecoverStringWrong : ChangeSpec := { name := "fnExactRecoverString", fn := fun _ => fun
  | [d1, d2, d3] => { results := [.lit (.bool false)], args := [d1, d2, d3] }
  | _ => none }
def FnExactRecoverStringWrongFalsely : Prop := fnExactRecoverStringRow.holds Try.pinned (OpenSpec.ofChange fnExactRecoverStringWrong)

/-- 'laws.FnRecoverString': WHATEVER THE INPUT: true; the input reads as it did. -/
def fnRecoverStringSpec : ChangeSpec := { name := "fnRecoverString", fn := fun _ => fun
  | [d] => { results := [.lit (.bool true)], args := [d] }
  | _ => none }
def fnRecoverStringRow : OpenClaim := { program := "ytmcdlkbofhdnlaa", sum := "5d98100dc70e8c26a4c346f02b9e07fd56e8f93d23eb6908d0ccb26cbb3d60b6", func := "loop.example/videocodec/laws.FnRecoverString", spec := "fnRecoverString", apart := false }
def FnRecoverStringSaid : Prop := fnRecoverStringRow.holds Try.pinned (OpenSpec.ofChange fnRecoverStringSpec)

/-- ITS FALSE NEIGHBOUR: 'it returns false'. Refute it at one input. -/
def fnRecoverStringWrong : ChangeSpec := { name := "fnRecoverString", fn := fun _ => fun
  | [d] => { results := [.lit (.bool false)], args := [d] }
  | _ => none }
def FnRecoverStringWrongFalsely : Prop := fnRecoverStringRow.holds Try.pinned (OpenSpec.ofChange fnRecoverStringWrong)

/- THE SECOND FORM. 'bulk': how many values and letters a reading holds, each counted each time it is reached (what is shared counts as often as it is met; a slice's spare places count too). A statement '..UptoSaid' is the law's where the arguments, and the package variables that the reading takes, are together of bulk at most 1048576: NARROWER than '..Said'. Prove '..Said' where nothing that the law and all that it calls make is longer than what came in: it says more and counts as full. Else prove '..UptoSaid'. A law counts once. -/
mutual
def uptoBulk {H : Type} : DataW H → Nat
  | .lit (.string bytes) => bytes.length + 1
  | .lit _ => 1
  | .nil => 1
  | .ptr d => uptoBulk d + 1
  | .slice elems spare => uptoBulkAll elems + uptoBulkAll spare + 1
  | .agg parts => uptoBulkAll parts + 1
  | .iface _ d => uptoBulk d + 1
  | .map entries => uptoBulkEntries entries + 1
  | .held _ => 1
def uptoBulkAll {H : Type} : List (DataW H) → Nat
  | [] => 0
  | d :: r => uptoBulk d + uptoBulkAll r
def uptoBulkEntries {H : Type} : List (Lit × DataW H) → Nat
  | [] => 0
  | x :: r => uptoBulkEntry x + uptoBulkEntries r
def uptoBulkEntry {H : Type} : Lit × DataW H → Nat
  | (.string bytes, d) => bytes.length + uptoBulk d + 1
  | (_, d) => uptoBulk d + 1
 end
def uptoSmall : (H : Type) → List (DataW H) → Bool := fun _ ds => decide (uptoBulkAll ds ≤ 1048576)
def OpenSpec.upto (s : _root_.Go.ChangeSpec) : _root_.Go.OpenSpec := { _root_.Go.OpenSpec.ofChange s with cond := some uptoSmall }

/-- 'laws.FnSamplesValid', WHERE WHAT IT READS IS OF BULK AT MOST 1048576: true; the input reads as it did. -/
def fnSamplesValidUptoRow : OpenClaim := { program := "ytmcdlkbofhdnlaa", sum := "5d98100dc70e8c26a4c346f02b9e07fd56e8f93d23eb6908d0ccb26cbb3d60b6", func := "loop.example/videocodec/laws.FnSamplesValid", spec := "fnSamplesValid", apart := false, narrowed := true }
def FnSamplesValidUptoSaid : Prop := fnSamplesValidUptoRow.holds Try.pinned (OpenSpec.upto fnSamplesValidSpec)

/-- 'laws.FnExactSamplesValid', WHERE WHAT IT READS IS OF BULK AT MOST 1048576: true; the input reads as it did. -/
def fnExactSamplesValidUptoRow : OpenClaim := { program := "ytmcdlkbofhdnlaa", sum := "5d98100dc70e8c26a4c346f02b9e07fd56e8f93d23eb6908d0ccb26cbb3d60b6", func := "loop.example/videocodec/laws.FnExactSamplesValid", spec := "fnExactSamplesValid", apart := false, narrowed := true }
def FnExactSamplesValidUptoSaid : Prop := fnExactSamplesValidUptoRow.holds Try.pinned (OpenSpec.upto fnExactSamplesValidSpec)

/-- 'laws.FnExactBufferRun', WHERE WHAT IT READS IS OF BULK AT MOST 1048576: true; the input reads as it did. -/
def fnExactBufferRunUptoRow : OpenClaim := { program := "ytmcdlkbofhdnlaa", sum := "5d98100dc70e8c26a4c346f02b9e07fd56e8f93d23eb6908d0ccb26cbb3d60b6", func := "loop.example/videocodec/laws.FnExactBufferRun", spec := "fnExactBufferRun", apart := false, narrowed := true }
def FnExactBufferRunUptoSaid : Prop := fnExactBufferRunUptoRow.holds Try.pinned (OpenSpec.upto fnExactBufferRunSpec)

/-- 'laws.FnBufferRun', WHERE WHAT IT READS IS OF BULK AT MOST 1048576: true; the input reads as it did. -/
def fnBufferRunUptoRow : OpenClaim := { program := "ytmcdlkbofhdnlaa", sum := "5d98100dc70e8c26a4c346f02b9e07fd56e8f93d23eb6908d0ccb26cbb3d60b6", func := "loop.example/videocodec/laws.FnBufferRun", spec := "fnBufferRun", apart := false, narrowed := true }
def FnBufferRunUptoSaid : Prop := fnBufferRunUptoRow.holds Try.pinned (OpenSpec.upto fnBufferRunSpec)

/-- 'laws.FnSeekKey', WHERE WHAT IT READS IS OF BULK AT MOST 1048576: true; the input reads as it did. -/
def fnSeekKeyUptoRow : OpenClaim := { program := "ytmcdlkbofhdnlaa", sum := "5d98100dc70e8c26a4c346f02b9e07fd56e8f93d23eb6908d0ccb26cbb3d60b6", func := "loop.example/videocodec/laws.FnSeekKey", spec := "fnSeekKey", apart := false, narrowed := true }
def FnSeekKeyUptoSaid : Prop := fnSeekKeyUptoRow.holds Try.pinned (OpenSpec.upto fnSeekKeySpec)

/-- 'laws.FnExactSeekKey', WHERE WHAT IT READS IS OF BULK AT MOST 1048576: true; the input reads as it did. -/
def fnExactSeekKeyUptoRow : OpenClaim := { program := "ytmcdlkbofhdnlaa", sum := "5d98100dc70e8c26a4c346f02b9e07fd56e8f93d23eb6908d0ccb26cbb3d60b6", func := "loop.example/videocodec/laws.FnExactSeekKey", spec := "fnExactSeekKey", apart := false, narrowed := true }
def FnExactSeekKeyUptoSaid : Prop := fnExactSeekKeyUptoRow.holds Try.pinned (OpenSpec.upto fnExactSeekKeySpec)

/-- 'laws.FnParityOf', WHERE WHAT IT READS IS OF BULK AT MOST 1048576: true; the input reads as it did. -/
def fnParityOfUptoRow : OpenClaim := { program := "ytmcdlkbofhdnlaa", sum := "5d98100dc70e8c26a4c346f02b9e07fd56e8f93d23eb6908d0ccb26cbb3d60b6", func := "loop.example/videocodec/laws.FnParityOf", spec := "fnParityOf", apart := false, narrowed := true }
def FnParityOfUptoSaid : Prop := fnParityOfUptoRow.holds Try.pinned (OpenSpec.upto fnParityOfSpec)

/-- 'laws.FnExactParityOf', WHERE WHAT IT READS IS OF BULK AT MOST 1048576: true; the input reads as it did. -/
def fnExactParityOfUptoRow : OpenClaim := { program := "ytmcdlkbofhdnlaa", sum := "5d98100dc70e8c26a4c346f02b9e07fd56e8f93d23eb6908d0ccb26cbb3d60b6", func := "loop.example/videocodec/laws.FnExactParityOf", spec := "fnExactParityOf", apart := false, narrowed := true }
def FnExactParityOfUptoSaid : Prop := fnExactParityOfUptoRow.holds Try.pinned (OpenSpec.upto fnExactParityOfSpec)

/-- 'laws.FnExactRecoverString', WHERE WHAT IT READS IS OF BULK AT MOST 1048576: true; the input reads as it did. -/
def fnExactRecoverStringUptoRow : OpenClaim := { program := "ytmcdlkbofhdnlaa", sum := "5d98100dc70e8c26a4c346f02b9e07fd56e8f93d23eb6908d0ccb26cbb3d60b6", func := "loop.example/videocodec/laws.FnExactRecoverString", spec := "fnExactRecoverString", apart := false, narrowed := true }
def FnExactRecoverStringUptoSaid : Prop := fnExactRecoverStringUptoRow.holds Try.pinned (OpenSpec.upto fnExactRecoverStringSpec)

/-- 'laws.FnRecoverString', WHERE WHAT IT READS IS OF BULK AT MOST 1048576: true; the input reads as it did. -/
def fnRecoverStringUptoRow : OpenClaim := { program := "ytmcdlkbofhdnlaa", sum := "5d98100dc70e8c26a4c346f02b9e07fd56e8f93d23eb6908d0ccb26cbb3d60b6", func := "loop.example/videocodec/laws.FnRecoverString", spec := "fnRecoverString", apart := false, narrowed := true }
def FnRecoverStringUptoSaid : Prop := fnRecoverStringUptoRow.holds Try.pinned (OpenSpec.upto fnRecoverStringSpec)

end Rows
end Go.Proofs.Ytmcdlkbofhdnlaa
