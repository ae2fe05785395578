/-
  DERIVED. GIVEN WITH THE SEED: THE CARDS: each row of YtogeildomhahjaaDoorRows.lean that lists a variable, with what it lists TIED to the program's text (the seventh form; the later family's looks); each row that meets fmt, with fmt's text TOLD by the authors' own Lean function (tested against real Go, not proved from fmt's source: count such statements apart). THE CARD IS WHAT COUNTS. Prove the row's statement (the work); the ties are given (YtogeildomhahjaaDoorTie.lean); close each card by the builder's one call (the guide's Derived/Test/ToyasCard.lean, 'card_holds'). Laid BY PROGRAM, IN A SANDBOX (cutbox-door.mjs). By AI agents, Wed Nov 11 2026. No macro, syntax, notation, axiom, sorry.
-/
import Derived.Test.YtogeildomhahjaaDoorRows
import GoSem.ClaimSeven
namespace Go.Proofs.YtogeildomhahjaaDoor
namespace Rows

/-- THE TIED CARD OF 'platelayerlaw05.BodyTells'. -/
def bodyTellsCard : Claim7 := { stood := { row := bodyTellsRow, standIns := [], harness := (true, "7df79e0aa7c502aa7d0def0ea7bdcba9dba4aec582797e9e004304761648d330"), looks := true }, kinds := [], alts := [], laidByText := true, laidKinds := [.handle], laidTests := true, laidLooks := .later }
def BodyTellsCardSaid : Prop := Claim7.holds Tryd.pinned (.plain (OpenSpec.ofChange bodyTellsSpec)) bodyTellsCard

/-- THE TIED CARD OF 'platelayerlaw05.BodyBack'. -/
def bodyBackCard : Claim7 := { stood := { row := bodyBackRow, standIns := [], harness := (true, "7df79e0aa7c502aa7d0def0ea7bdcba9dba4aec582797e9e004304761648d330"), looks := true }, kinds := [], alts := [], laidByText := true, laidKinds := [.handle], laidTests := true, laidLooks := .later }
def BodyBackCardSaid : Prop := Claim7.holds Tryd.pinned (.plain (OpenSpec.ofChange bodyBackSpec)) bodyBackCard

/-- THE TIED CARD OF 'platelayerlaw18.FlatDoes'. -/
def flatDoesCard : Claim7 := { stood := { row := flatDoesRow, standIns := [], harness := (true, "7df79e0aa7c502aa7d0def0ea7bdcba9dba4aec582797e9e004304761648d330"), looks := true }, kinds := [], alts := [], laidByText := true, laidKinds := [.handle], laidTests := true, laidLooks := .later }
def FlatDoesCardSaid : Prop := Claim7.holds Tryd.pinned (.plain (OpenSpec.ofChange flatDoesSpec)) flatDoesCard

/-- THE TIED CARD OF 'platelayerlaw18.FlatSteps'. -/
def flatStepsCard : Claim7 := { stood := { row := flatStepsRow, standIns := [], harness := (true, "7df79e0aa7c502aa7d0def0ea7bdcba9dba4aec582797e9e004304761648d330"), looks := true }, kinds := [], alts := [], laidByText := true, laidKinds := [.handle], laidTests := true, laidLooks := .later }
def FlatStepsCardSaid : Prop := Claim7.holds Tryd.pinned (.plain (OpenSpec.ofChange flatStepsSpec)) flatStepsCard

/-- THE TIED CARD OF 'platelayerlaw18.FlatApart'. -/
def flatApartCard : Claim7 := { stood := { row := flatApartRow, standIns := [], harness := (true, "7df79e0aa7c502aa7d0def0ea7bdcba9dba4aec582797e9e004304761648d330"), looks := true }, kinds := [], alts := [], laidByText := true, laidKinds := [.handle], laidTests := true, laidLooks := .later }
def FlatApartCardSaid : Prop := Claim7.holds Tryd.pinned (.plain (OpenSpec.ofChange flatApartSpec)) flatApartCard

/-- THE TIED CARD OF 'platelayerlaw01.FaultTells'. -/
def faultTellsCard : Claim7 := { stood := { row := faultTellsRow, standIns := [], harness := (true, "7df79e0aa7c502aa7d0def0ea7bdcba9dba4aec582797e9e004304761648d330"), looks := true }, kinds := [], alts := [], laidByText := true, laidKinds := [.handle], laidTests := true, laidLooks := .later }
def FaultTellsCardSaid : Prop := Claim7.holds Tryd.pinned (.plain (OpenSpec.ofChange faultTellsSpec)) faultTellsCard

/-- THE TIED CARD OF 'platelayerlaw01.FaultWraps'. -/
def faultWrapsCard : Claim7 := { stood := { row := faultWrapsRow, standIns := [], harness := (true, "7df79e0aa7c502aa7d0def0ea7bdcba9dba4aec582797e9e004304761648d330"), looks := true }, kinds := [], alts := [], laidByText := true, laidKinds := [.handle], laidTests := true, laidLooks := .later }
def FaultWrapsCardSaid : Prop := Claim7.holds Tryd.pinned (.plain (OpenSpec.ofChange faultWrapsSpec)) faultWrapsCard

/-- THE TIED CARD OF 'platelayerlaw01.FaultOnce'. -/
def faultOnceCard : Claim7 := { stood := { row := faultOnceRow, standIns := [], harness := (true, "7df79e0aa7c502aa7d0def0ea7bdcba9dba4aec582797e9e004304761648d330"), looks := true }, kinds := [], alts := [], laidByText := true, laidKinds := [.handle], laidTests := true, laidLooks := .later }
def FaultOnceCardSaid : Prop := Claim7.holds Tryd.pinned (.plain (OpenSpec.ofChange faultOnceSpec)) faultOnceCard

/-- THE TIED CARD OF 'platelayerlaw01.FaultWords'. -/
def faultWordsCard : Claim7 := { stood := { row := faultWordsRow, standIns := [], harness := (true, "7df79e0aa7c502aa7d0def0ea7bdcba9dba4aec582797e9e004304761648d330"), looks := true }, kinds := [], alts := [], laidByText := true, laidKinds := [.data, .data, .data, .handle], laidTests := true, laidLooks := .later }
def FaultWordsCardSaid : Prop := Claim7.holds Tryd.pinned (.plain (OpenSpec.ofChange faultWordsSpec)) faultWordsCard

/-- THE SECOND FORM's CARD OF 'platelayerlaw05.BodyTells'. -/
def bodyTellsUptoCard : Claim7 := { stood := { row := bodyTellsUptoRow, standIns := [], harness := (true, "7df79e0aa7c502aa7d0def0ea7bdcba9dba4aec582797e9e004304761648d330"), looks := true }, kinds := [], alts := [], laidByText := true, laidKinds := [.handle], laidTests := true, laidLooks := .later }
def BodyTellsUptoCardSaid : Prop := Claim7.holds Tryd.pinned (.plain (OpenSpec.upto bodyTellsSpec)) bodyTellsUptoCard

/-- THE SECOND FORM's CARD OF 'platelayerlaw05.BodyBack'. -/
def bodyBackUptoCard : Claim7 := { stood := { row := bodyBackUptoRow, standIns := [], harness := (true, "7df79e0aa7c502aa7d0def0ea7bdcba9dba4aec582797e9e004304761648d330"), looks := true }, kinds := [], alts := [], laidByText := true, laidKinds := [.handle], laidTests := true, laidLooks := .later }
def BodyBackUptoCardSaid : Prop := Claim7.holds Tryd.pinned (.plain (OpenSpec.upto bodyBackSpec)) bodyBackUptoCard

/-- THE SECOND FORM's CARD OF 'platelayerlaw18.FlatDoes'. -/
def flatDoesUptoCard : Claim7 := { stood := { row := flatDoesUptoRow, standIns := [], harness := (true, "7df79e0aa7c502aa7d0def0ea7bdcba9dba4aec582797e9e004304761648d330"), looks := true }, kinds := [], alts := [], laidByText := true, laidKinds := [.handle], laidTests := true, laidLooks := .later }
def FlatDoesUptoCardSaid : Prop := Claim7.holds Tryd.pinned (.plain (OpenSpec.upto flatDoesSpec)) flatDoesUptoCard

/-- THE SECOND FORM's CARD OF 'platelayerlaw18.FlatSteps'. -/
def flatStepsUptoCard : Claim7 := { stood := { row := flatStepsUptoRow, standIns := [], harness := (true, "7df79e0aa7c502aa7d0def0ea7bdcba9dba4aec582797e9e004304761648d330"), looks := true }, kinds := [], alts := [], laidByText := true, laidKinds := [.handle], laidTests := true, laidLooks := .later }
def FlatStepsUptoCardSaid : Prop := Claim7.holds Tryd.pinned (.plain (OpenSpec.upto flatStepsSpec)) flatStepsUptoCard

/-- THE SECOND FORM's CARD OF 'platelayerlaw18.FlatApart'. -/
def flatApartUptoCard : Claim7 := { stood := { row := flatApartUptoRow, standIns := [], harness := (true, "7df79e0aa7c502aa7d0def0ea7bdcba9dba4aec582797e9e004304761648d330"), looks := true }, kinds := [], alts := [], laidByText := true, laidKinds := [.handle], laidTests := true, laidLooks := .later }
def FlatApartUptoCardSaid : Prop := Claim7.holds Tryd.pinned (.plain (OpenSpec.upto flatApartSpec)) flatApartUptoCard

/-- THE SECOND FORM's CARD OF 'platelayerlaw01.FaultTells'. -/
def faultTellsUptoCard : Claim7 := { stood := { row := faultTellsUptoRow, standIns := [], harness := (true, "7df79e0aa7c502aa7d0def0ea7bdcba9dba4aec582797e9e004304761648d330"), looks := true }, kinds := [], alts := [], laidByText := true, laidKinds := [.handle], laidTests := true, laidLooks := .later }
def FaultTellsUptoCardSaid : Prop := Claim7.holds Tryd.pinned (.plain (OpenSpec.upto faultTellsSpec)) faultTellsUptoCard

/-- THE SECOND FORM's CARD OF 'platelayerlaw01.FaultWraps'. -/
def faultWrapsUptoCard : Claim7 := { stood := { row := faultWrapsUptoRow, standIns := [], harness := (true, "7df79e0aa7c502aa7d0def0ea7bdcba9dba4aec582797e9e004304761648d330"), looks := true }, kinds := [], alts := [], laidByText := true, laidKinds := [.handle], laidTests := true, laidLooks := .later }
def FaultWrapsUptoCardSaid : Prop := Claim7.holds Tryd.pinned (.plain (OpenSpec.upto faultWrapsSpec)) faultWrapsUptoCard

/-- THE SECOND FORM's CARD OF 'platelayerlaw01.FaultOnce'. -/
def faultOnceUptoCard : Claim7 := { stood := { row := faultOnceUptoRow, standIns := [], harness := (true, "7df79e0aa7c502aa7d0def0ea7bdcba9dba4aec582797e9e004304761648d330"), looks := true }, kinds := [], alts := [], laidByText := true, laidKinds := [.handle], laidTests := true, laidLooks := .later }
def FaultOnceUptoCardSaid : Prop := Claim7.holds Tryd.pinned (.plain (OpenSpec.upto faultOnceSpec)) faultOnceUptoCard

/-- THE SECOND FORM's CARD OF 'platelayerlaw01.FaultWords'. -/
def faultWordsUptoCard : Claim7 := { stood := { row := faultWordsUptoRow, standIns := [], harness := (true, "7df79e0aa7c502aa7d0def0ea7bdcba9dba4aec582797e9e004304761648d330"), looks := true }, kinds := [], alts := [], laidByText := true, laidKinds := [.data, .data, .data, .handle], laidTests := true, laidLooks := .later }
def FaultWordsUptoCardSaid : Prop := Claim7.holds Tryd.pinned (.plain (OpenSpec.upto faultWordsSpec)) faultWordsUptoCard
end Rows
end Go.Proofs.YtogeildomhahjaaDoor
