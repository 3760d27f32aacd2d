/-
  DERIVED. GIVEN WITH THE SEED: THE CARDS: each row of YtfcgnhgocdoimaaDoorRows.lean that lists a variable, with what it lists TIED to the program's text (the seventh form; the later family's looks); each row that meets fmt, with fmt's text TOLD by the authors' own Lean function (tested against real Go, not proved from fmt's source: count such statements apart). THE CARD IS WHAT COUNTS. Prove the row's statement (the work); the ties are given (YtfcgnhgocdoimaaDoorTie.lean); close each card by the builder's one call (the guide's Derived/Test/ToyasCard.lean, 'card_holds'). Laid BY PROGRAM, IN A SANDBOX (cutbox-door.mjs). By AI agents, Wed Nov 11 2026. No macro, syntax, notation, axiom, sorry.
-/
import Derived.Test.YtfcgnhgocdoimaaDoorRows
import GoSem.ClaimSeven
namespace Go.Proofs.YtfcgnhgocdoimaaDoor
namespace Rows

/-- THE TIED CARD OF 'laws.FnExactLayerOf'. -/
def fnExactLayerOfCard : Claim7 := { stood := { row := fnExactLayerOfRow, standIns := [], harness := (true, "8a699c29ab96eb4fb1e919fe9da23c81f703c746b181563afa4f3997b2ef70c5"), looks := false }, kinds := [], alts := [], laidByText := true, laidKinds := [.data, .data], laidTests := true, laidLooks := .later }
def FnExactLayerOfCardSaid : Prop := Claim7.holds Tryd.pinned (.plain (OpenSpec.ofChange fnExactLayerOfSpec)) fnExactLayerOfCard

/-- THE TIED CARD OF 'laws.FnExactLayerReference'. -/
def fnExactLayerReferenceCard : Claim7 := { stood := { row := fnExactLayerReferenceRow, standIns := [], harness := (true, "8a699c29ab96eb4fb1e919fe9da23c81f703c746b181563afa4f3997b2ef70c5"), looks := false }, kinds := [], alts := [], laidByText := true, laidKinds := [.data, .data], laidTests := true, laidLooks := .later }
def FnExactLayerReferenceCardSaid : Prop := Claim7.holds Tryd.pinned (.plain (OpenSpec.ofChange fnExactLayerReferenceSpec)) fnExactLayerReferenceCard

/-- THE TIED CARD OF 'laws.FnLayerOf'. -/
def fnLayerOfCard : Claim7 := { stood := { row := fnLayerOfRow, standIns := [], harness := (true, "8a699c29ab96eb4fb1e919fe9da23c81f703c746b181563afa4f3997b2ef70c5"), looks := false }, kinds := [], alts := [], laidByText := true, laidKinds := [.data, .data], laidTests := true, laidLooks := .later }
def FnLayerOfCardSaid : Prop := Claim7.holds Tryd.pinned (.plain (OpenSpec.ofChange fnLayerOfSpec)) fnLayerOfCard

/-- THE SECOND FORM's CARD OF 'laws.FnExactLayerOf'. -/
def fnExactLayerOfUptoCard : Claim7 := { stood := { row := fnExactLayerOfUptoRow, standIns := [], harness := (true, "8a699c29ab96eb4fb1e919fe9da23c81f703c746b181563afa4f3997b2ef70c5"), looks := false }, kinds := [], alts := [], laidByText := true, laidKinds := [.data, .data], laidTests := true, laidLooks := .later }
def FnExactLayerOfUptoCardSaid : Prop := Claim7.holds Tryd.pinned (.plain (OpenSpec.upto fnExactLayerOfSpec)) fnExactLayerOfUptoCard

/-- THE SECOND FORM's CARD OF 'laws.FnExactLayerReference'. -/
def fnExactLayerReferenceUptoCard : Claim7 := { stood := { row := fnExactLayerReferenceUptoRow, standIns := [], harness := (true, "8a699c29ab96eb4fb1e919fe9da23c81f703c746b181563afa4f3997b2ef70c5"), looks := false }, kinds := [], alts := [], laidByText := true, laidKinds := [.data, .data], laidTests := true, laidLooks := .later }
def FnExactLayerReferenceUptoCardSaid : Prop := Claim7.holds Tryd.pinned (.plain (OpenSpec.upto fnExactLayerReferenceSpec)) fnExactLayerReferenceUptoCard

/-- THE SECOND FORM's CARD OF 'laws.FnLayerOf'. -/
def fnLayerOfUptoCard : Claim7 := { stood := { row := fnLayerOfUptoRow, standIns := [], harness := (true, "8a699c29ab96eb4fb1e919fe9da23c81f703c746b181563afa4f3997b2ef70c5"), looks := false }, kinds := [], alts := [], laidByText := true, laidKinds := [.data, .data], laidTests := true, laidLooks := .later }
def FnLayerOfUptoCardSaid : Prop := Claim7.holds Tryd.pinned (.plain (OpenSpec.upto fnLayerOfSpec)) fnLayerOfUptoCard
end Rows
end Go.Proofs.YtfcgnhgocdoimaaDoor
