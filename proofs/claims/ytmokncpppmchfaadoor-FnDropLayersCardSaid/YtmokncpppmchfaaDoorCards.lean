/-
  DERIVED. GIVEN WITH THE SEED: THE CARDS: each row of YtmokncpppmchfaaDoorRows.lean that lists a variable, with what it lists TIED to the program's text (the seventh form; the later family's looks); each row that meets fmt, with fmt's text TOLD by the authors' own Lean function (tested against real Go, not proved from fmt's source: count such statements apart). THE CARD IS WHAT COUNTS. Prove the row's statement (the work); the ties are given (YtmokncpppmchfaaDoorTie.lean); close each card by the builder's one call (the guide's Derived/Test/ToyasCard.lean, 'card_holds'). Laid BY PROGRAM, IN A SANDBOX (cutbox-door.mjs). By AI agents, Wed Nov 11 2026. No macro, syntax, notation, axiom, sorry.
-/
import Derived.Test.YtmokncpppmchfaaDoorRows
import GoSem.ClaimSeven
namespace Go.Proofs.YtmokncpppmchfaaDoor
namespace Rows

/-- THE TIED CARD OF 'laws.FnExactDropLayers'. -/
def fnExactDropLayersCard : Claim7 := { stood := { row := fnExactDropLayersRow, standIns := [], harness := (true, "4e44794c70beac01d78a6e381bfeec112136cbc990baebb247144dc071d5be55"), looks := false }, kinds := [], alts := [], laidByText := true, laidKinds := [.data, .data], laidTests := true, laidLooks := .later }
def FnExactDropLayersCardSaid : Prop := Claim7.holds Tryd.pinned (.plain (OpenSpec.ofChange fnExactDropLayersSpec)) fnExactDropLayersCard

/-- THE TIED CARD OF 'laws.FnDropLayers'. -/
def fnDropLayersCard : Claim7 := { stood := { row := fnDropLayersRow, standIns := [], harness := (true, "4e44794c70beac01d78a6e381bfeec112136cbc990baebb247144dc071d5be55"), looks := false }, kinds := [], alts := [], laidByText := true, laidKinds := [.data, .data], laidTests := true, laidLooks := .later }
def FnDropLayersCardSaid : Prop := Claim7.holds Tryd.pinned (.plain (OpenSpec.ofChange fnDropLayersSpec)) fnDropLayersCard

/-- THE SECOND FORM's CARD OF 'laws.FnExactDropLayers'. -/
def fnExactDropLayersUptoCard : Claim7 := { stood := { row := fnExactDropLayersUptoRow, standIns := [], harness := (true, "4e44794c70beac01d78a6e381bfeec112136cbc990baebb247144dc071d5be55"), looks := false }, kinds := [], alts := [], laidByText := true, laidKinds := [.data, .data], laidTests := true, laidLooks := .later }
def FnExactDropLayersUptoCardSaid : Prop := Claim7.holds Tryd.pinned (.plain (OpenSpec.upto fnExactDropLayersSpec)) fnExactDropLayersUptoCard

/-- THE SECOND FORM's CARD OF 'laws.FnDropLayers'. -/
def fnDropLayersUptoCard : Claim7 := { stood := { row := fnDropLayersUptoRow, standIns := [], harness := (true, "4e44794c70beac01d78a6e381bfeec112136cbc990baebb247144dc071d5be55"), looks := false }, kinds := [], alts := [], laidByText := true, laidKinds := [.data, .data], laidTests := true, laidLooks := .later }
def FnDropLayersUptoCardSaid : Prop := Claim7.holds Tryd.pinned (.plain (OpenSpec.upto fnDropLayersSpec)) fnDropLayersUptoCard
end Rows
end Go.Proofs.YtmokncpppmchfaaDoor
