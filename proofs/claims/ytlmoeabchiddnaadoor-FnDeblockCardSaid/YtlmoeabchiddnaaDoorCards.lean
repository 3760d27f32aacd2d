/-
  DERIVED. GIVEN WITH THE SEED: THE CARDS: each row of YtlmoeabchiddnaaDoorRows.lean that lists a variable, with what it lists TIED to the program's text (the seventh form; the later family's looks); each row that meets fmt, with fmt's text TOLD by the authors' own Lean function (tested against real Go, not proved from fmt's source: count such statements apart). THE CARD IS WHAT COUNTS. Prove the row's statement (the work); the ties are given (YtlmoeabchiddnaaDoorTie.lean); close each card by the builder's one call (the guide's Derived/Test/ToyasCard.lean, 'card_holds'). Laid BY PROGRAM, IN A SANDBOX (cutbox-door.mjs). By AI agents, Wed Nov 11 2026. No macro, syntax, notation, axiom, sorry.
-/
import Derived.Test.YtlmoeabchiddnaaDoorRows
import GoSem.ClaimSeven
namespace Go.Proofs.YtlmoeabchiddnaaDoor
namespace Rows

/-- THE TIED CARD OF 'laws.FnExactRowsRead'. -/
def fnExactRowsReadCard : Claim7 := { stood := { row := fnExactRowsReadRow, standIns := [], harness := (true, "cc87867a7b34f38d8f95160741f0fd05041c7a32a30a82646902e4a4e0c0181e"), looks := false }, kinds := [], alts := [], laidByText := true, laidKinds := [.data, .data], laidTests := true, laidLooks := .later }
def FnExactRowsReadCardSaid : Prop := Claim7.holds Tryd.pinned (.plain (OpenSpec.ofChange fnExactRowsReadSpec)) fnExactRowsReadCard

/-- THE TIED CARD OF 'laws.FnRowsRead'. -/
def fnRowsReadCard : Claim7 := { stood := { row := fnRowsReadRow, standIns := [], harness := (true, "cc87867a7b34f38d8f95160741f0fd05041c7a32a30a82646902e4a4e0c0181e"), looks := false }, kinds := [], alts := [], laidByText := true, laidKinds := [.data, .data], laidTests := true, laidLooks := .later }
def FnRowsReadCardSaid : Prop := Claim7.holds Tryd.pinned (.plain (OpenSpec.ofChange fnRowsReadSpec)) fnRowsReadCard

/-- THE TIED CARD OF 'laws.FnExactDeblock'. -/
def fnExactDeblockCard : Claim7 := { stood := { row := fnExactDeblockRow, standIns := [], harness := (true, "cc87867a7b34f38d8f95160741f0fd05041c7a32a30a82646902e4a4e0c0181e"), looks := false }, kinds := [], alts := [], laidByText := true, laidKinds := [.data], laidTests := true, laidLooks := .later }
def FnExactDeblockCardSaid : Prop := Claim7.holds Tryd.pinned (.plain (OpenSpec.ofChange fnExactDeblockSpec)) fnExactDeblockCard

/-- THE TIED CARD OF 'laws.FnDeblock'. -/
def fnDeblockCard : Claim7 := { stood := { row := fnDeblockRow, standIns := [], harness := (true, "cc87867a7b34f38d8f95160741f0fd05041c7a32a30a82646902e4a4e0c0181e"), looks := false }, kinds := [], alts := [], laidByText := true, laidKinds := [.data], laidTests := true, laidLooks := .later }
def FnDeblockCardSaid : Prop := Claim7.holds Tryd.pinned (.plain (OpenSpec.ofChange fnDeblockSpec)) fnDeblockCard

/-- THE TIED CARD OF 'laws.FnExactRequantizeMacro'. -/
def fnExactRequantizeMacroCard : Claim7 := { stood := { row := fnExactRequantizeMacroRow, standIns := [], harness := (true, "cc87867a7b34f38d8f95160741f0fd05041c7a32a30a82646902e4a4e0c0181e"), looks := false }, kinds := [], alts := [], laidByText := true, laidKinds := [.data], laidTests := true, laidLooks := .later }
def FnExactRequantizeMacroCardSaid : Prop := Claim7.holds Tryd.pinned (.plain (OpenSpec.ofChange fnExactRequantizeMacroSpec)) fnExactRequantizeMacroCard

/-- THE TIED CARD OF 'laws.FnRequantizeMacro'. -/
def fnRequantizeMacroCard : Claim7 := { stood := { row := fnRequantizeMacroRow, standIns := [], harness := (true, "cc87867a7b34f38d8f95160741f0fd05041c7a32a30a82646902e4a4e0c0181e"), looks := false }, kinds := [], alts := [], laidByText := true, laidKinds := [.data], laidTests := true, laidLooks := .later }
def FnRequantizeMacroCardSaid : Prop := Claim7.holds Tryd.pinned (.plain (OpenSpec.ofChange fnRequantizeMacroSpec)) fnRequantizeMacroCard

/-- THE TIED CARD OF 'laws.FnExactDropLayers'. -/
def fnExactDropLayersCard : Claim7 := { stood := { row := fnExactDropLayersRow, standIns := [], harness := (true, "cc87867a7b34f38d8f95160741f0fd05041c7a32a30a82646902e4a4e0c0181e"), looks := false }, kinds := [], alts := [], laidByText := true, laidKinds := [.data, .data], laidTests := true, laidLooks := .later }
def FnExactDropLayersCardSaid : Prop := Claim7.holds Tryd.pinned (.plain (OpenSpec.ofChange fnExactDropLayersSpec)) fnExactDropLayersCard

/-- THE TIED CARD OF 'laws.FnDropLayers'. -/
def fnDropLayersCard : Claim7 := { stood := { row := fnDropLayersRow, standIns := [], harness := (true, "cc87867a7b34f38d8f95160741f0fd05041c7a32a30a82646902e4a4e0c0181e"), looks := false }, kinds := [], alts := [], laidByText := true, laidKinds := [.data, .data], laidTests := true, laidLooks := .later }
def FnDropLayersCardSaid : Prop := Claim7.holds Tryd.pinned (.plain (OpenSpec.ofChange fnDropLayersSpec)) fnDropLayersCard

/-- THE SECOND FORM's CARD OF 'laws.FnExactRowsRead'. -/
def fnExactRowsReadUptoCard : Claim7 := { stood := { row := fnExactRowsReadUptoRow, standIns := [], harness := (true, "cc87867a7b34f38d8f95160741f0fd05041c7a32a30a82646902e4a4e0c0181e"), looks := false }, kinds := [], alts := [], laidByText := true, laidKinds := [.data, .data], laidTests := true, laidLooks := .later }
def FnExactRowsReadUptoCardSaid : Prop := Claim7.holds Tryd.pinned (.plain (OpenSpec.upto fnExactRowsReadSpec)) fnExactRowsReadUptoCard

/-- THE SECOND FORM's CARD OF 'laws.FnRowsRead'. -/
def fnRowsReadUptoCard : Claim7 := { stood := { row := fnRowsReadUptoRow, standIns := [], harness := (true, "cc87867a7b34f38d8f95160741f0fd05041c7a32a30a82646902e4a4e0c0181e"), looks := false }, kinds := [], alts := [], laidByText := true, laidKinds := [.data, .data], laidTests := true, laidLooks := .later }
def FnRowsReadUptoCardSaid : Prop := Claim7.holds Tryd.pinned (.plain (OpenSpec.upto fnRowsReadSpec)) fnRowsReadUptoCard

/-- THE SECOND FORM's CARD OF 'laws.FnExactDeblock'. -/
def fnExactDeblockUptoCard : Claim7 := { stood := { row := fnExactDeblockUptoRow, standIns := [], harness := (true, "cc87867a7b34f38d8f95160741f0fd05041c7a32a30a82646902e4a4e0c0181e"), looks := false }, kinds := [], alts := [], laidByText := true, laidKinds := [.data], laidTests := true, laidLooks := .later }
def FnExactDeblockUptoCardSaid : Prop := Claim7.holds Tryd.pinned (.plain (OpenSpec.upto fnExactDeblockSpec)) fnExactDeblockUptoCard

/-- THE SECOND FORM's CARD OF 'laws.FnDeblock'. -/
def fnDeblockUptoCard : Claim7 := { stood := { row := fnDeblockUptoRow, standIns := [], harness := (true, "cc87867a7b34f38d8f95160741f0fd05041c7a32a30a82646902e4a4e0c0181e"), looks := false }, kinds := [], alts := [], laidByText := true, laidKinds := [.data], laidTests := true, laidLooks := .later }
def FnDeblockUptoCardSaid : Prop := Claim7.holds Tryd.pinned (.plain (OpenSpec.upto fnDeblockSpec)) fnDeblockUptoCard

/-- THE SECOND FORM's CARD OF 'laws.FnExactRequantizeMacro'. -/
def fnExactRequantizeMacroUptoCard : Claim7 := { stood := { row := fnExactRequantizeMacroUptoRow, standIns := [], harness := (true, "cc87867a7b34f38d8f95160741f0fd05041c7a32a30a82646902e4a4e0c0181e"), looks := false }, kinds := [], alts := [], laidByText := true, laidKinds := [.data], laidTests := true, laidLooks := .later }
def FnExactRequantizeMacroUptoCardSaid : Prop := Claim7.holds Tryd.pinned (.plain (OpenSpec.upto fnExactRequantizeMacroSpec)) fnExactRequantizeMacroUptoCard

/-- THE SECOND FORM's CARD OF 'laws.FnRequantizeMacro'. -/
def fnRequantizeMacroUptoCard : Claim7 := { stood := { row := fnRequantizeMacroUptoRow, standIns := [], harness := (true, "cc87867a7b34f38d8f95160741f0fd05041c7a32a30a82646902e4a4e0c0181e"), looks := false }, kinds := [], alts := [], laidByText := true, laidKinds := [.data], laidTests := true, laidLooks := .later }
def FnRequantizeMacroUptoCardSaid : Prop := Claim7.holds Tryd.pinned (.plain (OpenSpec.upto fnRequantizeMacroSpec)) fnRequantizeMacroUptoCard

/-- THE SECOND FORM's CARD OF 'laws.FnExactDropLayers'. -/
def fnExactDropLayersUptoCard : Claim7 := { stood := { row := fnExactDropLayersUptoRow, standIns := [], harness := (true, "cc87867a7b34f38d8f95160741f0fd05041c7a32a30a82646902e4a4e0c0181e"), looks := false }, kinds := [], alts := [], laidByText := true, laidKinds := [.data, .data], laidTests := true, laidLooks := .later }
def FnExactDropLayersUptoCardSaid : Prop := Claim7.holds Tryd.pinned (.plain (OpenSpec.upto fnExactDropLayersSpec)) fnExactDropLayersUptoCard

/-- THE SECOND FORM's CARD OF 'laws.FnDropLayers'. -/
def fnDropLayersUptoCard : Claim7 := { stood := { row := fnDropLayersUptoRow, standIns := [], harness := (true, "cc87867a7b34f38d8f95160741f0fd05041c7a32a30a82646902e4a4e0c0181e"), looks := false }, kinds := [], alts := [], laidByText := true, laidKinds := [.data, .data], laidTests := true, laidLooks := .later }
def FnDropLayersUptoCardSaid : Prop := Claim7.holds Tryd.pinned (.plain (OpenSpec.upto fnDropLayersSpec)) fnDropLayersUptoCard
end Rows
end Go.Proofs.YtlmoeabchiddnaaDoor
