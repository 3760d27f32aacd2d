/-
  DERIVED. GIVEN WITH THE SEED: THE CARDS: each row of YtpjjadmjdafkeaaDoorRows.lean that lists a variable, with what it lists TIED to the program's text (the seventh form; the later family's looks); each row that meets fmt, with fmt's text TOLD by the authors' own Lean function (tested against real Go, not proved from fmt's source: count such statements apart). THE CARD IS WHAT COUNTS. Prove the row's statement (the work); the ties are given (YtpjjadmjdafkeaaDoorTie.lean); close each card by the builder's one call (the guide's Derived/Test/ToyasCard.lean, 'card_holds'). Laid BY PROGRAM, IN A SANDBOX (cutbox-door.mjs). By AI agents, Wed Nov 11 2026. No macro, syntax, notation, axiom, sorry.
-/
import Derived.Test.YtpjjadmjdafkeaaDoorRows
import GoSem.ClaimSeven
namespace Go.Proofs.YtpjjadmjdafkeaaDoor
namespace Rows

/-- THE TIED CARD OF 'laws.FnWriteContainer'. -/
def fnWriteContainerCard : Claim7 := { stood := { row := fnWriteContainerRow, standIns := [], harness := (true, "c94e9c5ae4a911f5b975e22464dab992de0dfe4a2c5cee1ac64a37320faffa91"), looks := true }, kinds := [], alts := [], laidByText := true, laidKinds := [.sentinel], laidTests := true, laidLooks := .later }
def FnWriteContainerCardSaid : Prop := Claim7.holds Tryd.pinned (.plain (OpenSpec.ofChange fnWriteContainerSpec)) fnWriteContainerCard

/-- THE TIED CARD OF 'laws.FnExactReadContainer'. -/
def fnExactReadContainerCard : Claim7 := { stood := { row := fnExactReadContainerRow, standIns := [], harness := (true, "c94e9c5ae4a911f5b975e22464dab992de0dfe4a2c5cee1ac64a37320faffa91"), looks := true }, kinds := [], alts := [], laidByText := true, laidKinds := [.sentinel], laidTests := true, laidLooks := .later }
def FnExactReadContainerCardSaid : Prop := Claim7.holds Tryd.pinned (.plain (OpenSpec.ofChange fnExactReadContainerSpec)) fnExactReadContainerCard

/-- THE TIED CARD OF 'laws.FnReadContainer'. -/
def fnReadContainerCard : Claim7 := { stood := { row := fnReadContainerRow, standIns := [], harness := (true, "c94e9c5ae4a911f5b975e22464dab992de0dfe4a2c5cee1ac64a37320faffa91"), looks := true }, kinds := [], alts := [], laidByText := true, laidKinds := [.sentinel], laidTests := true, laidLooks := .later }
def FnReadContainerCardSaid : Prop := Claim7.holds Tryd.pinned (.plain (OpenSpec.ofChange fnReadContainerSpec)) fnReadContainerCard

/-- THE SECOND FORM's CARD OF 'laws.FnWriteContainer'. -/
def fnWriteContainerUptoCard : Claim7 := { stood := { row := fnWriteContainerUptoRow, standIns := [], harness := (true, "c94e9c5ae4a911f5b975e22464dab992de0dfe4a2c5cee1ac64a37320faffa91"), looks := true }, kinds := [], alts := [], laidByText := true, laidKinds := [.sentinel], laidTests := true, laidLooks := .later }
def FnWriteContainerUptoCardSaid : Prop := Claim7.holds Tryd.pinned (.plain (OpenSpec.upto fnWriteContainerSpec)) fnWriteContainerUptoCard

/-- THE SECOND FORM's CARD OF 'laws.FnExactReadContainer'. -/
def fnExactReadContainerUptoCard : Claim7 := { stood := { row := fnExactReadContainerUptoRow, standIns := [], harness := (true, "c94e9c5ae4a911f5b975e22464dab992de0dfe4a2c5cee1ac64a37320faffa91"), looks := true }, kinds := [], alts := [], laidByText := true, laidKinds := [.sentinel], laidTests := true, laidLooks := .later }
def FnExactReadContainerUptoCardSaid : Prop := Claim7.holds Tryd.pinned (.plain (OpenSpec.upto fnExactReadContainerSpec)) fnExactReadContainerUptoCard

/-- THE SECOND FORM's CARD OF 'laws.FnReadContainer'. -/
def fnReadContainerUptoCard : Claim7 := { stood := { row := fnReadContainerUptoRow, standIns := [], harness := (true, "c94e9c5ae4a911f5b975e22464dab992de0dfe4a2c5cee1ac64a37320faffa91"), looks := true }, kinds := [], alts := [], laidByText := true, laidKinds := [.sentinel], laidTests := true, laidLooks := .later }
def FnReadContainerUptoCardSaid : Prop := Claim7.holds Tryd.pinned (.plain (OpenSpec.upto fnReadContainerSpec)) fnReadContainerUptoCard
end Rows
end Go.Proofs.YtpjjadmjdafkeaaDoor
