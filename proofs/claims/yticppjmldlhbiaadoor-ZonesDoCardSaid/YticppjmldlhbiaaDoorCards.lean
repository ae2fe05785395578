/-
  DERIVED. GIVEN WITH THE SEED: THE CARDS: each row of YticppjmldlhbiaaDoorRows.lean that lists a variable, with what it lists TIED to the program's text (the seventh form; the later family's looks); each row that meets fmt, with fmt's text TOLD by the authors' own Lean function (tested against real Go, not proved from fmt's source: count such statements apart). THE CARD IS WHAT COUNTS. Prove the row's statement (the work); the ties are given (YticppjmldlhbiaaDoorTie.lean); close each card by the builder's one call (the guide's Derived/Test/ToyasCard.lean, 'card_holds'). Laid BY PROGRAM, IN A SANDBOX (cutbox-door.mjs). By AI agents, Wed Nov 11 2026. No macro, syntax, notation, axiom, sorry.
-/
import Derived.Test.YticppjmldlhbiaaDoorRows
import GoSem.ClaimSeven
namespace Go.Proofs.YticppjmldlhbiaaDoor
namespace Rows

/-- THE TIED CARD OF 'platelayerlaw11.ValidDoes'. -/
def validDoesCard : Claim7 := { stood := { row := validDoesRow, standIns := [], harness := (true, "56d0bdc96f2cce60055b13d015b3414f41dc7299afecd4e075da1e49855f010a"), looks := true }, kinds := [], alts := [], laidByText := true, laidKinds := [.handle], laidTests := true, laidLooks := .later }
def ValidDoesCardSaid : Prop := Claim7.holds Tryd.pinned (.plain (OpenSpec.ofChange validDoesSpec)) validDoesCard

/-- THE TIED CARD OF 'platelayerlaw13.ZonesDo'. -/
def zonesDoCard : Claim7 := { stood := { row := zonesDoRow, standIns := [], harness := (true, "56d0bdc96f2cce60055b13d015b3414f41dc7299afecd4e075da1e49855f010a"), looks := true }, kinds := [], alts := [], laidByText := true, laidKinds := [.handle], laidTests := true, laidLooks := .later }
def ZonesDoCardSaid : Prop := Claim7.holds Tryd.pinned (.plain (OpenSpec.ofChange zonesDoSpec)) zonesDoCard

/-- THE SECOND FORM's CARD OF 'platelayerlaw11.ValidDoes'. -/
def validDoesUptoCard : Claim7 := { stood := { row := validDoesUptoRow, standIns := [], harness := (true, "56d0bdc96f2cce60055b13d015b3414f41dc7299afecd4e075da1e49855f010a"), looks := true }, kinds := [], alts := [], laidByText := true, laidKinds := [.handle], laidTests := true, laidLooks := .later }
def ValidDoesUptoCardSaid : Prop := Claim7.holds Tryd.pinned (.plain (OpenSpec.upto validDoesSpec)) validDoesUptoCard

/-- THE SECOND FORM's CARD OF 'platelayerlaw13.ZonesDo'. -/
def zonesDoUptoCard : Claim7 := { stood := { row := zonesDoUptoRow, standIns := [], harness := (true, "56d0bdc96f2cce60055b13d015b3414f41dc7299afecd4e075da1e49855f010a"), looks := true }, kinds := [], alts := [], laidByText := true, laidKinds := [.handle], laidTests := true, laidLooks := .later }
def ZonesDoUptoCardSaid : Prop := Claim7.holds Tryd.pinned (.plain (OpenSpec.upto zonesDoSpec)) zonesDoUptoCard
end Rows
end Go.Proofs.YticppjmldlhbiaaDoor
