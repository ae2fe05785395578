/-
  DERIVED. GIVEN WITH THE SEED: THE CARDS: each row of YthimfpkkdhpceaaGreatDoorRows.lean that lists a variable, with what it lists TIED to the program's text (the seventh form; the later family's looks); each row that meets fmt, with fmt's text TOLD by the authors' own Lean function (tested against real Go, not proved from fmt's source: count such statements apart). THE CARD IS WHAT COUNTS. Prove the row's statement (the work); the ties are given (YthimfpkkdhpceaaGreatDoorTie.lean); close each card by the builder's one call (the guide's Derived/Test/ToyasCard.lean, 'card_holds'). Laid BY PROGRAM, IN A SANDBOX (cutbox-door.mjs). By AI agents, Wed Nov 11 2026. No macro, syntax, notation, axiom, sorry.
-/
import Derived.Test.YthimfpkkdhpceaaGreatDoorRows
import GoSem.ClaimSeven
namespace Go.Proofs.YthimfpkkdhpceaaGreatDoor
namespace Rows

/-- THE TIED CARD OF 'platelayerlaw15.SlotWrites'. -/
def slotWritesCard : Claim7 := { stood := { row := slotWritesRow, standIns := [], harness := (true, "d4997626a49eec5aa4838076b5f420348fb57bb264dd9b78f1a1bc9450aef8a1"), looks := true }, kinds := [], alts := [], laidByText := true, laidKinds := [.handle], laidTests := true, laidLooks := .later }
def SlotWritesCardSaid : Prop := Claim7.holds Tryz.pinned (.plain (OpenSpec.ofChange slotWritesSpec)) slotWritesCard

/-- THE TIED CARD OF 'platelayerlaw15.SlotTurns'. -/
def slotTurnsCard : Claim7 := { stood := { row := slotTurnsRow, standIns := [], harness := (true, "d4997626a49eec5aa4838076b5f420348fb57bb264dd9b78f1a1bc9450aef8a1"), looks := true }, kinds := [], alts := [], laidByText := true, laidKinds := [.handle], laidTests := true, laidLooks := .later }
def SlotTurnsCardSaid : Prop := Claim7.holds Tryz.pinned (.plain (OpenSpec.ofChange slotTurnsSpec)) slotTurnsCard

/-- THE TIED CARD OF 'platelayerlaw15.SlotReads'. -/
def slotReadsCard : Claim7 := { stood := { row := slotReadsRow, standIns := [], harness := (true, "d4997626a49eec5aa4838076b5f420348fb57bb264dd9b78f1a1bc9450aef8a1"), looks := true }, kinds := [], alts := [], laidByText := true, laidKinds := [.handle], laidTests := true, laidLooks := .later }
def SlotReadsCardSaid : Prop := Claim7.holds Tryz.pinned (.plain (OpenSpec.ofChange slotReadsSpec)) slotReadsCard

/-- THE SECOND FORM's CARD OF 'platelayerlaw15.SlotWrites'. -/
def slotWritesUptoCard : Claim7 := { stood := { row := slotWritesUptoRow, standIns := [], harness := (true, "d4997626a49eec5aa4838076b5f420348fb57bb264dd9b78f1a1bc9450aef8a1"), looks := true }, kinds := [], alts := [], laidByText := true, laidKinds := [.handle], laidTests := true, laidLooks := .later }
def SlotWritesUptoCardSaid : Prop := Claim7.holds Tryz.pinned (.plain (OpenSpec.upto slotWritesSpec)) slotWritesUptoCard

/-- THE SECOND FORM's CARD OF 'platelayerlaw15.SlotTurns'. -/
def slotTurnsUptoCard : Claim7 := { stood := { row := slotTurnsUptoRow, standIns := [], harness := (true, "d4997626a49eec5aa4838076b5f420348fb57bb264dd9b78f1a1bc9450aef8a1"), looks := true }, kinds := [], alts := [], laidByText := true, laidKinds := [.handle], laidTests := true, laidLooks := .later }
def SlotTurnsUptoCardSaid : Prop := Claim7.holds Tryz.pinned (.plain (OpenSpec.upto slotTurnsSpec)) slotTurnsUptoCard

/-- THE SECOND FORM's CARD OF 'platelayerlaw15.SlotReads'. -/
def slotReadsUptoCard : Claim7 := { stood := { row := slotReadsUptoRow, standIns := [], harness := (true, "d4997626a49eec5aa4838076b5f420348fb57bb264dd9b78f1a1bc9450aef8a1"), looks := true }, kinds := [], alts := [], laidByText := true, laidKinds := [.handle], laidTests := true, laidLooks := .later }
def SlotReadsUptoCardSaid : Prop := Claim7.holds Tryz.pinned (.plain (OpenSpec.upto slotReadsSpec)) slotReadsUptoCard
end Rows
end Go.Proofs.YthimfpkkdhpceaaGreatDoor
