/-
  DERIVED. GIVEN WITH THE SEED: THE CARDS: each row of YtijnbalgnhigbaaGreatDoorRows.lean that lists a variable, with what it lists TIED to the program's text (the seventh form; the later family's looks); each row that meets fmt, with fmt's text TOLD by the authors' own Lean function (tested against real Go, not proved from fmt's source: count such statements apart). THE CARD IS WHAT COUNTS. Prove the row's statement (the work); the ties are given (YtijnbalgnhigbaaGreatDoorTie.lean); close each card by the builder's one call (the guide's Derived/Test/ToyasCard.lean, 'card_holds'). Laid BY PROGRAM, IN A SANDBOX (cutbox-door.mjs). By AI agents, Wed Nov 11 2026. No macro, syntax, notation, axiom, sorry.
-/
import Derived.Test.YtijnbalgnhigbaaGreatDoorRows
import GoSem.ClaimSeven
namespace Go.Proofs.YtijnbalgnhigbaaGreatDoor
namespace Rows

/-- THE TIED CARD OF 'laws.FnExactEncodePicture'. -/
def fnExactEncodePictureCard : Claim7 := { stood := { row := fnExactEncodePictureRow, standIns := [], harness := (true, "6afd322ba3e746fb3d8469ff191f556661beedc47244e010e73b703136a3e6ee"), looks := true }, kinds := [], alts := [], laidByText := true, laidKinds := [.data], laidTests := true, laidLooks := .later }
def FnExactEncodePictureCardSaid : Prop := Claim7.holds Tryz.pinned (.plain (OpenSpec.ofChange fnExactEncodePictureSpec)) fnExactEncodePictureCard

/-- THE SECOND FORM's CARD OF 'laws.FnExactEncodePicture'. -/
def fnExactEncodePictureUptoCard : Claim7 := { stood := { row := fnExactEncodePictureUptoRow, standIns := [], harness := (true, "6afd322ba3e746fb3d8469ff191f556661beedc47244e010e73b703136a3e6ee"), looks := true }, kinds := [], alts := [], laidByText := true, laidKinds := [.data], laidTests := true, laidLooks := .later }
def FnExactEncodePictureUptoCardSaid : Prop := Claim7.holds Tryz.pinned (.plain (OpenSpec.upto fnExactEncodePictureSpec)) fnExactEncodePictureUptoCard
end Rows
end Go.Proofs.YtijnbalgnhigbaaGreatDoor
