/-
  DERIVED. GIVEN WITH THE SEED: THE CARDS: each row of YthimfpkkdhpceaaDoorRows.lean that lists a variable, with what it lists TIED to the program's text (the seventh form; the later family's looks); each row that meets fmt, with fmt's text TOLD by the authors' own Lean function (tested against real Go, not proved from fmt's source: count such statements apart). THE CARD IS WHAT COUNTS. Prove the row's statement (the work); the ties are given (YthimfpkkdhpceaaDoorTie.lean); close each card by the builder's one call (the guide's Derived/Test/ToyasCard.lean, 'card_holds'). Laid BY PROGRAM, IN A SANDBOX (cutbox-door.mjs). By AI agents, Wed Nov 11 2026. No macro, syntax, notation, axiom, sorry.
-/
import Derived.Test.YthimfpkkdhpceaaDoorRows
import GoSem.ClaimSeven
namespace Go.Proofs.YthimfpkkdhpceaaDoor
namespace Rows

/-- THE TIED CARD OF 'platelayerlaw06.CkptTells'. -/
def ckptTellsCard : Claim7 := { stood := { row := ckptTellsRow, standIns := [], harness := (true, "723119262655b077968224ee1a79ab6e8b4e880cad0cf4140fb46913613e2d7c"), looks := true }, kinds := [], alts := [], laidByText := true, laidKinds := [.handle], laidTests := true, laidLooks := .later }
def CkptTellsCardSaid : Prop := Claim7.holds Tryd.pinned (.plain (OpenSpec.ofChange ckptTellsSpec)) ckptTellsCard

/-- THE TIED CARD OF 'platelayerlaw06.CkptBack'. -/
def ckptBackCard : Claim7 := { stood := { row := ckptBackRow, standIns := [], harness := (true, "723119262655b077968224ee1a79ab6e8b4e880cad0cf4140fb46913613e2d7c"), looks := true }, kinds := [], alts := [], laidByText := true, laidKinds := [.handle], laidTests := true, laidLooks := .later }
def CkptBackCardSaid : Prop := Claim7.holds Tryd.pinned (.plain (OpenSpec.ofChange ckptBackSpec)) ckptBackCard

/-- THE TIED CARD OF 'platelayerlaw06.CkptChanged'. -/
def ckptChangedCard : Claim7 := { stood := { row := ckptChangedRow, standIns := [], harness := (true, "723119262655b077968224ee1a79ab6e8b4e880cad0cf4140fb46913613e2d7c"), looks := true }, kinds := [], alts := [], laidByText := true, laidKinds := [.handle], laidTests := true, laidLooks := .later }
def CkptChangedCardSaid : Prop := Claim7.holds Tryd.pinned (.plain (OpenSpec.ofChange ckptChangedSpec)) ckptChangedCard

/-- THE TIED CARD OF 'platelayerlaw06.CkptAlike'. -/
def ckptAlikeCard : Claim7 := { stood := { row := ckptAlikeRow, standIns := [], harness := (true, "723119262655b077968224ee1a79ab6e8b4e880cad0cf4140fb46913613e2d7c"), looks := true }, kinds := [], alts := [], laidByText := true, laidKinds := [.handle], laidTests := true, laidLooks := .later }
def CkptAlikeCardSaid : Prop := Claim7.holds Tryd.pinned (.plain (OpenSpec.ofChange ckptAlikeSpec)) ckptAlikeCard

/-- THE TIED CARD OF 'platelayerlaw17.DirBack'. -/
def dirBackCard : Claim7 := { stood := { row := dirBackRow, standIns := [], harness := (true, "723119262655b077968224ee1a79ab6e8b4e880cad0cf4140fb46913613e2d7c"), looks := true }, kinds := [], alts := [], laidByText := true, laidKinds := [.handle], laidTests := true, laidLooks := .later }
def DirBackCardSaid : Prop := Claim7.holds Tryd.pinned (.plain (OpenSpec.ofChange dirBackSpec)) dirBackCard

/-- THE TIED CARD OF 'platelayerlaw15.SlotOther'. -/
def slotOtherCard : Claim7 := { stood := { row := slotOtherRow, standIns := [], harness := (true, "723119262655b077968224ee1a79ab6e8b4e880cad0cf4140fb46913613e2d7c"), looks := true }, kinds := [], alts := [], laidByText := true, laidKinds := [.handle], laidTests := true, laidLooks := .later }
def SlotOtherCardSaid : Prop := Claim7.holds Tryd.pinned (.plain (OpenSpec.ofChange slotOtherSpec)) slotOtherCard

/-- THE SECOND FORM's CARD OF 'platelayerlaw06.CkptTells'. -/
def ckptTellsUptoCard : Claim7 := { stood := { row := ckptTellsUptoRow, standIns := [], harness := (true, "723119262655b077968224ee1a79ab6e8b4e880cad0cf4140fb46913613e2d7c"), looks := true }, kinds := [], alts := [], laidByText := true, laidKinds := [.handle], laidTests := true, laidLooks := .later }
def CkptTellsUptoCardSaid : Prop := Claim7.holds Tryd.pinned (.plain (OpenSpec.upto ckptTellsSpec)) ckptTellsUptoCard

/-- THE SECOND FORM's CARD OF 'platelayerlaw06.CkptBack'. -/
def ckptBackUptoCard : Claim7 := { stood := { row := ckptBackUptoRow, standIns := [], harness := (true, "723119262655b077968224ee1a79ab6e8b4e880cad0cf4140fb46913613e2d7c"), looks := true }, kinds := [], alts := [], laidByText := true, laidKinds := [.handle], laidTests := true, laidLooks := .later }
def CkptBackUptoCardSaid : Prop := Claim7.holds Tryd.pinned (.plain (OpenSpec.upto ckptBackSpec)) ckptBackUptoCard

/-- THE SECOND FORM's CARD OF 'platelayerlaw06.CkptChanged'. -/
def ckptChangedUptoCard : Claim7 := { stood := { row := ckptChangedUptoRow, standIns := [], harness := (true, "723119262655b077968224ee1a79ab6e8b4e880cad0cf4140fb46913613e2d7c"), looks := true }, kinds := [], alts := [], laidByText := true, laidKinds := [.handle], laidTests := true, laidLooks := .later }
def CkptChangedUptoCardSaid : Prop := Claim7.holds Tryd.pinned (.plain (OpenSpec.upto ckptChangedSpec)) ckptChangedUptoCard

/-- THE SECOND FORM's CARD OF 'platelayerlaw06.CkptAlike'. -/
def ckptAlikeUptoCard : Claim7 := { stood := { row := ckptAlikeUptoRow, standIns := [], harness := (true, "723119262655b077968224ee1a79ab6e8b4e880cad0cf4140fb46913613e2d7c"), looks := true }, kinds := [], alts := [], laidByText := true, laidKinds := [.handle], laidTests := true, laidLooks := .later }
def CkptAlikeUptoCardSaid : Prop := Claim7.holds Tryd.pinned (.plain (OpenSpec.upto ckptAlikeSpec)) ckptAlikeUptoCard

/-- THE SECOND FORM's CARD OF 'platelayerlaw17.DirBack'. -/
def dirBackUptoCard : Claim7 := { stood := { row := dirBackUptoRow, standIns := [], harness := (true, "723119262655b077968224ee1a79ab6e8b4e880cad0cf4140fb46913613e2d7c"), looks := true }, kinds := [], alts := [], laidByText := true, laidKinds := [.handle], laidTests := true, laidLooks := .later }
def DirBackUptoCardSaid : Prop := Claim7.holds Tryd.pinned (.plain (OpenSpec.upto dirBackSpec)) dirBackUptoCard

/-- THE SECOND FORM's CARD OF 'platelayerlaw15.SlotOther'. -/
def slotOtherUptoCard : Claim7 := { stood := { row := slotOtherUptoRow, standIns := [], harness := (true, "723119262655b077968224ee1a79ab6e8b4e880cad0cf4140fb46913613e2d7c"), looks := true }, kinds := [], alts := [], laidByText := true, laidKinds := [.handle], laidTests := true, laidLooks := .later }
def SlotOtherUptoCardSaid : Prop := Claim7.holds Tryd.pinned (.plain (OpenSpec.upto slotOtherSpec)) slotOtherUptoCard
end Rows
end Go.Proofs.YthimfpkkdhpceaaDoor
