/-
  DERIVED. GIVEN WITH THE SEED: THE CARDS: each row of YtmcdlkbofhdnlaaDoorRows.lean that lists a variable, with what it lists TIED to the program's text (the seventh form; the later family's looks); each row that meets fmt, with fmt's text TOLD by the authors' own Lean function (tested against real Go, not proved from fmt's source: count such statements apart). THE CARD IS WHAT COUNTS. Prove the row's statement (the work); the ties are given (YtmcdlkbofhdnlaaDoorTie.lean); close each card by the builder's one call (the guide's Derived/Test/ToyasCard.lean, 'card_holds'). Laid BY PROGRAM, IN A SANDBOX (cutbox-door.mjs). By AI agents, Wed Nov 11 2026. No macro, syntax, notation, axiom, sorry.
-/
import Derived.Test.YtmcdlkbofhdnlaaDoorRows
import GoSem.ClaimSeven
namespace Go.Proofs.YtmcdlkbofhdnlaaDoor
namespace Rows

/-- THE TIED CARD OF 'laws.FnLayerReference'. -/
def fnLayerReferenceCard : Claim7 := { stood := { row := fnLayerReferenceRow, standIns := [], harness := (true, "83754bd8356738a6ebabcc86a2205de3f2d6ab1a91fcce0ca5c4beeda7e33c50"), looks := false }, kinds := [], alts := [], laidByText := true, laidKinds := [.data, .data], laidTests := true, laidLooks := .later }
def FnLayerReferenceCardSaid : Prop := Claim7.holds Tryd.pinned (.plain (OpenSpec.ofChange fnLayerReferenceSpec)) fnLayerReferenceCard

/-- THE TIED CARD OF 'laws.FnLayersReferences'. -/
def fnLayersReferencesCard : Claim7 := { stood := { row := fnLayersReferencesRow, standIns := [], harness := (true, "83754bd8356738a6ebabcc86a2205de3f2d6ab1a91fcce0ca5c4beeda7e33c50"), looks := false }, kinds := [], alts := [], laidByText := true, laidKinds := [.data, .data], laidTests := true, laidLooks := .later }
def FnLayersReferencesCardSaid : Prop := Claim7.holds Tryd.pinned (.plain (OpenSpec.ofChange fnLayersReferencesSpec)) fnLayersReferencesCard

/-- THE SECOND FORM's CARD OF 'laws.FnLayerReference'. -/
def fnLayerReferenceUptoCard : Claim7 := { stood := { row := fnLayerReferenceUptoRow, standIns := [], harness := (true, "83754bd8356738a6ebabcc86a2205de3f2d6ab1a91fcce0ca5c4beeda7e33c50"), looks := false }, kinds := [], alts := [], laidByText := true, laidKinds := [.data, .data], laidTests := true, laidLooks := .later }
def FnLayerReferenceUptoCardSaid : Prop := Claim7.holds Tryd.pinned (.plain (OpenSpec.upto fnLayerReferenceSpec)) fnLayerReferenceUptoCard

/-- THE SECOND FORM's CARD OF 'laws.FnLayersReferences'. -/
def fnLayersReferencesUptoCard : Claim7 := { stood := { row := fnLayersReferencesUptoRow, standIns := [], harness := (true, "83754bd8356738a6ebabcc86a2205de3f2d6ab1a91fcce0ca5c4beeda7e33c50"), looks := false }, kinds := [], alts := [], laidByText := true, laidKinds := [.data, .data], laidTests := true, laidLooks := .later }
def FnLayersReferencesUptoCardSaid : Prop := Claim7.holds Tryd.pinned (.plain (OpenSpec.upto fnLayersReferencesSpec)) fnLayersReferencesUptoCard
end Rows
end Go.Proofs.YtmcdlkbofhdnlaaDoor
