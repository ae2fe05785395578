/-
  DERIVED. GIVEN WITH THE SEED: THE CARDS: each row of YtfanjfbenhocnaaDoorRows.lean that lists a variable, with what it lists TIED to the program's text (the seventh form; the later family's looks); each row that meets fmt, with fmt's text TOLD by the authors' own Lean function (tested against real Go, not proved from fmt's source: count such statements apart). THE CARD IS WHAT COUNTS. Prove the row's statement (the work); the ties are given (YtfanjfbenhocnaaDoorTie.lean); close each card by the builder's one call (the guide's Derived/Test/ToyasCard.lean, 'card_holds'). Laid BY PROGRAM, IN A SANDBOX (cutbox-door.mjs). By AI agents, Wed Nov 11 2026. No macro, syntax, notation, axiom, sorry.
-/
import Derived.Test.YtfanjfbenhocnaaDoorRows
import GoSem.ClaimSeven
namespace Go.Proofs.YtfanjfbenhocnaaDoor
namespace Rows

/-- THE TIED CARD OF 'platelayerlaw08.LruDoes'. -/
def lruDoesCard : Claim7 := { stood := { row := lruDoesRow, standIns := [], harness := (true, "bd3b0218675c19a87f71cfe8ce1f36da30fd573697da566a401e77685ec844cb"), looks := true }, kinds := [], alts := [], laidByText := true, laidKinds := [.handle], laidTests := true, laidLooks := .later }
def LruDoesCardSaid : Prop := Claim7.holds Tryd.pinned (.plain (OpenSpec.ofChange lruDoesSpec)) lruDoesCard

/-- THE TIED CARD OF 'platelayerlaw09.IndexDoes'. -/
def indexDoesCard : Claim7 := { stood := { row := indexDoesRow, standIns := [], harness := (true, "bd3b0218675c19a87f71cfe8ce1f36da30fd573697da566a401e77685ec844cb"), looks := true }, kinds := [], alts := [], laidByText := true, laidKinds := [.handle], laidTests := true, laidLooks := .later }
def IndexDoesCardSaid : Prop := Claim7.holds Tryd.pinned (.plain (OpenSpec.ofChange indexDoesSpec)) indexDoesCard

/-- THE SECOND FORM's CARD OF 'platelayerlaw08.LruDoes'. -/
def lruDoesUptoCard : Claim7 := { stood := { row := lruDoesUptoRow, standIns := [], harness := (true, "bd3b0218675c19a87f71cfe8ce1f36da30fd573697da566a401e77685ec844cb"), looks := true }, kinds := [], alts := [], laidByText := true, laidKinds := [.handle], laidTests := true, laidLooks := .later }
def LruDoesUptoCardSaid : Prop := Claim7.holds Tryd.pinned (.plain (OpenSpec.upto lruDoesSpec)) lruDoesUptoCard

/-- THE SECOND FORM's CARD OF 'platelayerlaw09.IndexDoes'. -/
def indexDoesUptoCard : Claim7 := { stood := { row := indexDoesUptoRow, standIns := [], harness := (true, "bd3b0218675c19a87f71cfe8ce1f36da30fd573697da566a401e77685ec844cb"), looks := true }, kinds := [], alts := [], laidByText := true, laidKinds := [.handle], laidTests := true, laidLooks := .later }
def IndexDoesUptoCardSaid : Prop := Claim7.holds Tryd.pinned (.plain (OpenSpec.upto indexDoesSpec)) indexDoesUptoCard
end Rows
end Go.Proofs.YtfanjfbenhocnaaDoor
