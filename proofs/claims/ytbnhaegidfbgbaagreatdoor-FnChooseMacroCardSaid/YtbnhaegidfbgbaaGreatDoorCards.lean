/-
  DERIVED. GIVEN WITH THE SEED: THE CARDS: each row of YtbnhaegidfbgbaaGreatDoorRows.lean that lists a variable, with what it lists TIED to the program's text (the seventh form; the later family's looks); each row that meets fmt, with fmt's text TOLD by the authors' own Lean function (tested against real Go, not proved from fmt's source: count such statements apart). THE CARD IS WHAT COUNTS. Prove the row's statement (the work); the ties are given (YtbnhaegidfbgbaaGreatDoorTie.lean); close each card by the builder's one call (the guide's Derived/Test/ToyasCard.lean, 'card_holds'). Laid BY PROGRAM, IN A SANDBOX (cutbox-door.mjs). By AI agents, Wed Nov 11 2026. No macro, syntax, notation, axiom, sorry.
-/
import Derived.Test.YtbnhaegidfbgbaaGreatDoorRows
import GoSem.ClaimSeven
namespace Go.Proofs.YtbnhaegidfbgbaaGreatDoor
namespace Rows

/-- THE TIED CARD OF 'laws.FnMacroCost'. -/
def fnMacroCostCard : Claim7 := { stood := { row := fnMacroCostRow, standIns := [], harness := (true, "f0ec48e2a85005f485e6b391dccb6ac0b7a018f5d9c0ba286d11c3e897df1a4b"), looks := true }, kinds := [], alts := [], laidByText := true, laidKinds := [.data], laidTests := true, laidLooks := .later }
def FnMacroCostCardSaid : Prop := Claim7.holds Tryz.pinned (.plain (OpenSpec.ofChange fnMacroCostSpec)) fnMacroCostCard

/-- THE TIED CARD OF 'laws.FnExactChooseMacro'. -/
def fnExactChooseMacroCard : Claim7 := { stood := { row := fnExactChooseMacroRow, standIns := [], harness := (true, "f0ec48e2a85005f485e6b391dccb6ac0b7a018f5d9c0ba286d11c3e897df1a4b"), looks := true }, kinds := [], alts := [], laidByText := true, laidKinds := [.data], laidTests := true, laidLooks := .later }
def FnExactChooseMacroCardSaid : Prop := Claim7.holds Tryz.pinned (.plain (OpenSpec.ofChange fnExactChooseMacroSpec)) fnExactChooseMacroCard

/-- THE TIED CARD OF 'laws.FnChooseMacro'. -/
def fnChooseMacroCard : Claim7 := { stood := { row := fnChooseMacroRow, standIns := [], harness := (true, "f0ec48e2a85005f485e6b391dccb6ac0b7a018f5d9c0ba286d11c3e897df1a4b"), looks := true }, kinds := [], alts := [], laidByText := true, laidKinds := [.data], laidTests := true, laidLooks := .later }
def FnChooseMacroCardSaid : Prop := Claim7.holds Tryz.pinned (.plain (OpenSpec.ofChange fnChooseMacroSpec)) fnChooseMacroCard

/-- THE TIED CARD OF 'laws.FnExactEncodePicture'. -/
def fnExactEncodePictureCard : Claim7 := { stood := { row := fnExactEncodePictureRow, standIns := [], harness := (true, "f0ec48e2a85005f485e6b391dccb6ac0b7a018f5d9c0ba286d11c3e897df1a4b"), looks := true }, kinds := [], alts := [], laidByText := true, laidKinds := [.data], laidTests := true, laidLooks := .later }
def FnExactEncodePictureCardSaid : Prop := Claim7.holds Tryz.pinned (.plain (OpenSpec.ofChange fnExactEncodePictureSpec)) fnExactEncodePictureCard

/-- THE SECOND FORM's CARD OF 'laws.FnMacroCost'. -/
def fnMacroCostUptoCard : Claim7 := { stood := { row := fnMacroCostUptoRow, standIns := [], harness := (true, "f0ec48e2a85005f485e6b391dccb6ac0b7a018f5d9c0ba286d11c3e897df1a4b"), looks := true }, kinds := [], alts := [], laidByText := true, laidKinds := [.data], laidTests := true, laidLooks := .later }
def FnMacroCostUptoCardSaid : Prop := Claim7.holds Tryz.pinned (.plain (OpenSpec.upto fnMacroCostSpec)) fnMacroCostUptoCard

/-- THE SECOND FORM's CARD OF 'laws.FnExactChooseMacro'. -/
def fnExactChooseMacroUptoCard : Claim7 := { stood := { row := fnExactChooseMacroUptoRow, standIns := [], harness := (true, "f0ec48e2a85005f485e6b391dccb6ac0b7a018f5d9c0ba286d11c3e897df1a4b"), looks := true }, kinds := [], alts := [], laidByText := true, laidKinds := [.data], laidTests := true, laidLooks := .later }
def FnExactChooseMacroUptoCardSaid : Prop := Claim7.holds Tryz.pinned (.plain (OpenSpec.upto fnExactChooseMacroSpec)) fnExactChooseMacroUptoCard

/-- THE SECOND FORM's CARD OF 'laws.FnChooseMacro'. -/
def fnChooseMacroUptoCard : Claim7 := { stood := { row := fnChooseMacroUptoRow, standIns := [], harness := (true, "f0ec48e2a85005f485e6b391dccb6ac0b7a018f5d9c0ba286d11c3e897df1a4b"), looks := true }, kinds := [], alts := [], laidByText := true, laidKinds := [.data], laidTests := true, laidLooks := .later }
def FnChooseMacroUptoCardSaid : Prop := Claim7.holds Tryz.pinned (.plain (OpenSpec.upto fnChooseMacroSpec)) fnChooseMacroUptoCard

/-- THE SECOND FORM's CARD OF 'laws.FnExactEncodePicture'. -/
def fnExactEncodePictureUptoCard : Claim7 := { stood := { row := fnExactEncodePictureUptoRow, standIns := [], harness := (true, "f0ec48e2a85005f485e6b391dccb6ac0b7a018f5d9c0ba286d11c3e897df1a4b"), looks := true }, kinds := [], alts := [], laidByText := true, laidKinds := [.data], laidTests := true, laidLooks := .later }
def FnExactEncodePictureUptoCardSaid : Prop := Claim7.holds Tryz.pinned (.plain (OpenSpec.upto fnExactEncodePictureSpec)) fnExactEncodePictureUptoCard
end Rows
end Go.Proofs.YtbnhaegidfbgbaaGreatDoor
