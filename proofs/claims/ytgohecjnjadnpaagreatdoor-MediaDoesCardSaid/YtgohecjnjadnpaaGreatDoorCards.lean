/-
  DERIVED. GIVEN WITH THE SEED: THE CARDS: each row of YtgohecjnjadnpaaGreatDoorRows.lean that lists a variable, with what it lists TIED to the program's text (the seventh form; the later family's looks); each row that meets fmt, with fmt's text TOLD by the authors' own Lean function (tested against real Go, not proved from fmt's source: count such statements apart). THE CARD IS WHAT COUNTS. Prove the row's statement (the work); the ties are given (YtgohecjnjadnpaaGreatDoorTie.lean); close each card by the builder's one call (the guide's Derived/Test/ToyasCard.lean, 'card_holds'). Laid BY PROGRAM, IN A SANDBOX (cutbox-door.mjs). By AI agents, Wed Nov 11 2026. No macro, syntax, notation, axiom, sorry.
-/
import Derived.Test.YtgohecjnjadnpaaGreatDoorRows
import GoSem.ClaimSeven
namespace Go.Proofs.YtgohecjnjadnpaaGreatDoor
namespace Rows

/-- THE TIED CARD OF 'platelayerlaw16.MediaDoes'. -/
def mediaDoesCard : Claim7 := { stood := { row := mediaDoesRow, standIns := [], harness := (true, "e7483647c98dec96dc4aebfed636e87efa3198214141bfc88acdd1b8a5555ca6"), looks := true }, kinds := [], alts := [], laidByText := true, laidKinds := [.handle], laidTests := true, laidLooks := .later }
def MediaDoesCardSaid : Prop := Claim7.holds Tryz.pinned (.plain (OpenSpec.ofChange mediaDoesSpec)) mediaDoesCard

/-- THE SECOND FORM's CARD OF 'platelayerlaw16.MediaDoes'. -/
def mediaDoesUptoCard : Claim7 := { stood := { row := mediaDoesUptoRow, standIns := [], harness := (true, "e7483647c98dec96dc4aebfed636e87efa3198214141bfc88acdd1b8a5555ca6"), looks := true }, kinds := [], alts := [], laidByText := true, laidKinds := [.handle], laidTests := true, laidLooks := .later }
def MediaDoesUptoCardSaid : Prop := Claim7.holds Tryz.pinned (.plain (OpenSpec.upto mediaDoesSpec)) mediaDoesUptoCard
end Rows
end Go.Proofs.YtgohecjnjadnpaaGreatDoor
