/-
  DERIVED. GIVEN WITH THE SEED: THE CARDS: each row of YtbnhaegidfbgbaaDoorRows.lean that lists a variable, with what it lists TIED to the program's text (the seventh form; the later family's looks); each row that meets fmt, with fmt's text TOLD by the authors' own Lean function (tested against real Go, not proved from fmt's source: count such statements apart). THE CARD IS WHAT COUNTS. Prove the row's statement (the work); the ties are given (YtbnhaegidfbgbaaDoorTie.lean); close each card by the builder's one call (the guide's Derived/Test/ToyasCard.lean, 'card_holds'). Laid BY PROGRAM, IN A SANDBOX (cutbox-door.mjs). By AI agents, Wed Nov 11 2026. No macro, syntax, notation, axiom, sorry.
-/
import Derived.Test.YtbnhaegidfbgbaaDoorRows
import GoSem.ClaimSeven
namespace Go.Proofs.YtbnhaegidfbgbaaDoor
namespace Rows

/-- THE TIED CARD OF 'laws.FnInterMacro'. -/
def fnInterMacroCard : Claim7 := { stood := { row := fnInterMacroRow, standIns := [], harness := (true, "ab54fefcd508c2e25ef716a65920f4ab968e53da074985089223fa1532069b3f"), looks := true }, kinds := [], alts := [], laidByText := true, laidKinds := [.data], laidTests := true, laidLooks := .later }
def FnInterMacroCardSaid : Prop := Claim7.holds Tryd.pinned (.plain (OpenSpec.ofChange fnInterMacroSpec)) fnInterMacroCard

/-- THE TIED CARD OF 'laws.FnExactReconstruct'. -/
def fnExactReconstructCard : Claim7 := { stood := { row := fnExactReconstructRow, standIns := [], harness := (true, "ab54fefcd508c2e25ef716a65920f4ab968e53da074985089223fa1532069b3f"), looks := true }, kinds := [], alts := [], laidByText := true, laidKinds := [.data], laidTests := true, laidLooks := .later }
def FnExactReconstructCardSaid : Prop := Claim7.holds Tryd.pinned (.plain (OpenSpec.ofChange fnExactReconstructSpec)) fnExactReconstructCard

/-- THE TIED CARD OF 'laws.FnExactIntraMacro'. -/
def fnExactIntraMacroCard : Claim7 := { stood := { row := fnExactIntraMacroRow, standIns := [], harness := (true, "ab54fefcd508c2e25ef716a65920f4ab968e53da074985089223fa1532069b3f"), looks := true }, kinds := [], alts := [], laidByText := true, laidKinds := [.data], laidTests := true, laidLooks := .later }
def FnExactIntraMacroCardSaid : Prop := Claim7.holds Tryd.pinned (.plain (OpenSpec.ofChange fnExactIntraMacroSpec)) fnExactIntraMacroCard

/-- THE TIED CARD OF 'laws.FnReconstruct'. -/
def fnReconstructCard : Claim7 := { stood := { row := fnReconstructRow, standIns := [], harness := (true, "ab54fefcd508c2e25ef716a65920f4ab968e53da074985089223fa1532069b3f"), looks := true }, kinds := [], alts := [], laidByText := true, laidKinds := [.data], laidTests := true, laidLooks := .later }
def FnReconstructCardSaid : Prop := Claim7.holds Tryd.pinned (.plain (OpenSpec.ofChange fnReconstructSpec)) fnReconstructCard

/-- THE TIED CARD OF 'laws.FnIntraMacro'. -/
def fnIntraMacroCard : Claim7 := { stood := { row := fnIntraMacroRow, standIns := [], harness := (true, "ab54fefcd508c2e25ef716a65920f4ab968e53da074985089223fa1532069b3f"), looks := true }, kinds := [], alts := [], laidByText := true, laidKinds := [.data], laidTests := true, laidLooks := .later }
def FnIntraMacroCardSaid : Prop := Claim7.holds Tryd.pinned (.plain (OpenSpec.ofChange fnIntraMacroSpec)) fnIntraMacroCard

/-- THE TIED CARD OF 'laws.FnExactMacroCost'. -/
def fnExactMacroCostCard : Claim7 := { stood := { row := fnExactMacroCostRow, standIns := [], harness := (true, "ab54fefcd508c2e25ef716a65920f4ab968e53da074985089223fa1532069b3f"), looks := true }, kinds := [], alts := [], laidByText := true, laidKinds := [.data], laidTests := true, laidLooks := .later }
def FnExactMacroCostCardSaid : Prop := Claim7.holds Tryd.pinned (.plain (OpenSpec.ofChange fnExactMacroCostSpec)) fnExactMacroCostCard

/-- THE SECOND FORM's CARD OF 'laws.FnInterMacro'. -/
def fnInterMacroUptoCard : Claim7 := { stood := { row := fnInterMacroUptoRow, standIns := [], harness := (true, "ab54fefcd508c2e25ef716a65920f4ab968e53da074985089223fa1532069b3f"), looks := true }, kinds := [], alts := [], laidByText := true, laidKinds := [.data], laidTests := true, laidLooks := .later }
def FnInterMacroUptoCardSaid : Prop := Claim7.holds Tryd.pinned (.plain (OpenSpec.upto fnInterMacroSpec)) fnInterMacroUptoCard

/-- THE SECOND FORM's CARD OF 'laws.FnExactReconstruct'. -/
def fnExactReconstructUptoCard : Claim7 := { stood := { row := fnExactReconstructUptoRow, standIns := [], harness := (true, "ab54fefcd508c2e25ef716a65920f4ab968e53da074985089223fa1532069b3f"), looks := true }, kinds := [], alts := [], laidByText := true, laidKinds := [.data], laidTests := true, laidLooks := .later }
def FnExactReconstructUptoCardSaid : Prop := Claim7.holds Tryd.pinned (.plain (OpenSpec.upto fnExactReconstructSpec)) fnExactReconstructUptoCard

/-- THE SECOND FORM's CARD OF 'laws.FnExactIntraMacro'. -/
def fnExactIntraMacroUptoCard : Claim7 := { stood := { row := fnExactIntraMacroUptoRow, standIns := [], harness := (true, "ab54fefcd508c2e25ef716a65920f4ab968e53da074985089223fa1532069b3f"), looks := true }, kinds := [], alts := [], laidByText := true, laidKinds := [.data], laidTests := true, laidLooks := .later }
def FnExactIntraMacroUptoCardSaid : Prop := Claim7.holds Tryd.pinned (.plain (OpenSpec.upto fnExactIntraMacroSpec)) fnExactIntraMacroUptoCard

/-- THE SECOND FORM's CARD OF 'laws.FnReconstruct'. -/
def fnReconstructUptoCard : Claim7 := { stood := { row := fnReconstructUptoRow, standIns := [], harness := (true, "ab54fefcd508c2e25ef716a65920f4ab968e53da074985089223fa1532069b3f"), looks := true }, kinds := [], alts := [], laidByText := true, laidKinds := [.data], laidTests := true, laidLooks := .later }
def FnReconstructUptoCardSaid : Prop := Claim7.holds Tryd.pinned (.plain (OpenSpec.upto fnReconstructSpec)) fnReconstructUptoCard

/-- THE SECOND FORM's CARD OF 'laws.FnIntraMacro'. -/
def fnIntraMacroUptoCard : Claim7 := { stood := { row := fnIntraMacroUptoRow, standIns := [], harness := (true, "ab54fefcd508c2e25ef716a65920f4ab968e53da074985089223fa1532069b3f"), looks := true }, kinds := [], alts := [], laidByText := true, laidKinds := [.data], laidTests := true, laidLooks := .later }
def FnIntraMacroUptoCardSaid : Prop := Claim7.holds Tryd.pinned (.plain (OpenSpec.upto fnIntraMacroSpec)) fnIntraMacroUptoCard

/-- THE SECOND FORM's CARD OF 'laws.FnExactMacroCost'. -/
def fnExactMacroCostUptoCard : Claim7 := { stood := { row := fnExactMacroCostUptoRow, standIns := [], harness := (true, "ab54fefcd508c2e25ef716a65920f4ab968e53da074985089223fa1532069b3f"), looks := true }, kinds := [], alts := [], laidByText := true, laidKinds := [.data], laidTests := true, laidLooks := .later }
def FnExactMacroCostUptoCardSaid : Prop := Claim7.holds Tryd.pinned (.plain (OpenSpec.upto fnExactMacroCostSpec)) fnExactMacroCostUptoCard
end Rows
end Go.Proofs.YtbnhaegidfbgbaaDoor
