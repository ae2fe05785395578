/-
  DERIVED. GIVEN WITH THE SEED: THE CARDS: each row of YtgohecjnjadnpaaDoorRows.lean that lists a variable, with what it lists TIED to the program's text (the seventh form; the later family's looks); each row that meets fmt, with fmt's text TOLD by the authors' own Lean function (tested against real Go, not proved from fmt's source: count such statements apart). THE CARD IS WHAT COUNTS. Prove the row's statement (the work); the ties are given (YtgohecjnjadnpaaDoorTie.lean); close each card by the builder's one call (the guide's Derived/Test/ToyasCard.lean, 'card_holds'). Laid BY PROGRAM, IN A SANDBOX (cutbox-door.mjs). By AI agents, Wed Nov 11 2026. No macro, syntax, notation, axiom, sorry.
-/
import Derived.Test.YtgohecjnjadnpaaDoorRows
import GoSem.ClaimSeven
namespace Go.Proofs.YtgohecjnjadnpaaDoor
namespace Rows

/-- THE TIED CARD OF 'platelayerlaw04.HeadTells'. -/
def headTellsCard : Claim7 := { stood := { row := headTellsRow, standIns := [], harness := (true, "28d8460b117973e10a62f3a23f056905d89ffd93eb94d562f69f976579d8b8ea"), looks := true }, kinds := [], alts := [], laidByText := true, laidKinds := [.handle], laidTests := true, laidLooks := .later }
def HeadTellsCardSaid : Prop := Claim7.holds Tryd.pinned (.plain (OpenSpec.ofChange headTellsSpec)) headTellsCard

/-- THE TIED CARD OF 'platelayerlaw04.HeadBack'. -/
def headBackCard : Claim7 := { stood := { row := headBackRow, standIns := [], harness := (true, "28d8460b117973e10a62f3a23f056905d89ffd93eb94d562f69f976579d8b8ea"), looks := true }, kinds := [], alts := [], laidByText := true, laidKinds := [.handle], laidTests := true, laidLooks := .later }
def HeadBackCardSaid : Prop := Claim7.holds Tryd.pinned (.plain (OpenSpec.ofChange headBackSpec)) headBackCard

/-- THE TIED CARD OF 'platelayerlaw04.HeadChanged'. -/
def headChangedCard : Claim7 := { stood := { row := headChangedRow, standIns := [], harness := (true, "28d8460b117973e10a62f3a23f056905d89ffd93eb94d562f69f976579d8b8ea"), looks := true }, kinds := [], alts := [], laidByText := true, laidKinds := [.handle], laidTests := true, laidLooks := .later }
def HeadChangedCardSaid : Prop := Claim7.holds Tryd.pinned (.plain (OpenSpec.ofChange headChangedSpec)) headChangedCard

/-- THE TIED CARD OF 'platelayerlaw07.ZnsDoes'. -/
def znsDoesCard : Claim7 := { stood := { row := znsDoesRow, standIns := [], harness := (true, "28d8460b117973e10a62f3a23f056905d89ffd93eb94d562f69f976579d8b8ea"), looks := true }, kinds := [], alts := [], laidByText := true, laidKinds := [.handle], laidTests := true, laidLooks := .later }
def ZnsDoesCardSaid : Prop := Claim7.holds Tryd.pinned (.plain (OpenSpec.ofChange znsDoesSpec)) znsDoesCard

/-- THE TIED CARD OF 'platelayerlaw07.ZnsSure'. -/
def znsSureCard : Claim7 := { stood := { row := znsSureRow, standIns := [], harness := (true, "28d8460b117973e10a62f3a23f056905d89ffd93eb94d562f69f976579d8b8ea"), looks := true }, kinds := [], alts := [], laidByText := true, laidKinds := [.handle], laidTests := true, laidLooks := .later }
def ZnsSureCardSaid : Prop := Claim7.holds Tryd.pinned (.plain (OpenSpec.ofChange znsSureSpec)) znsSureCard

/-- THE TIED CARD OF 'platelayerlaw07.ZnsFuse'. -/
def znsFuseCard : Claim7 := { stood := { row := znsFuseRow, standIns := [], harness := (true, "28d8460b117973e10a62f3a23f056905d89ffd93eb94d562f69f976579d8b8ea"), looks := true }, kinds := [], alts := [], laidByText := true, laidKinds := [.handle], laidTests := true, laidLooks := .later }
def ZnsFuseCardSaid : Prop := Claim7.holds Tryd.pinned (.plain (OpenSpec.ofChange znsFuseSpec)) znsFuseCard

/-- THE TIED CARD OF 'platelayerlaw07.ZnsAgain'. -/
def znsAgainCard : Claim7 := { stood := { row := znsAgainRow, standIns := [], harness := (true, "28d8460b117973e10a62f3a23f056905d89ffd93eb94d562f69f976579d8b8ea"), looks := true }, kinds := [], alts := [], laidByText := true, laidKinds := [.handle], laidTests := true, laidLooks := .later }
def ZnsAgainCardSaid : Prop := Claim7.holds Tryd.pinned (.plain (OpenSpec.ofChange znsAgainSpec)) znsAgainCard

/-- THE TIED CARD OF 'platelayerlaw07.ZnsApart'. -/
def znsApartCard : Claim7 := { stood := { row := znsApartRow, standIns := [], harness := (true, "28d8460b117973e10a62f3a23f056905d89ffd93eb94d562f69f976579d8b8ea"), looks := true }, kinds := [], alts := [], laidByText := true, laidKinds := [.handle], laidTests := true, laidLooks := .later }
def ZnsApartCardSaid : Prop := Claim7.holds Tryd.pinned (.plain (OpenSpec.ofChange znsApartSpec)) znsApartCard

/-- THE TIED CARD OF 'platelayerlaw07.ZnsLoads'. -/
def znsLoadsCard : Claim7 := { stood := { row := znsLoadsRow, standIns := [], harness := (true, "28d8460b117973e10a62f3a23f056905d89ffd93eb94d562f69f976579d8b8ea"), looks := true }, kinds := [], alts := [], laidByText := true, laidKinds := [.handle], laidTests := true, laidLooks := .later }
def ZnsLoadsCardSaid : Prop := Claim7.holds Tryd.pinned (.plain (OpenSpec.ofChange znsLoadsSpec)) znsLoadsCard

/-- THE TIED CARD OF 'platelayerlaw16.MediaApart'. -/
def mediaApartCard : Claim7 := { stood := { row := mediaApartRow, standIns := [], harness := (true, "28d8460b117973e10a62f3a23f056905d89ffd93eb94d562f69f976579d8b8ea"), looks := true }, kinds := [], alts := [], laidByText := true, laidKinds := [.handle], laidTests := true, laidLooks := .later }
def MediaApartCardSaid : Prop := Claim7.holds Tryd.pinned (.plain (OpenSpec.ofChange mediaApartSpec)) mediaApartCard

/-- THE TIED CARD OF 'platelayerlaw16.MediaKeeps'. -/
def mediaKeepsCard : Claim7 := { stood := { row := mediaKeepsRow, standIns := [], harness := (true, "28d8460b117973e10a62f3a23f056905d89ffd93eb94d562f69f976579d8b8ea"), looks := true }, kinds := [], alts := [], laidByText := true, laidKinds := [.handle], laidTests := true, laidLooks := .later }
def MediaKeepsCardSaid : Prop := Claim7.holds Tryd.pinned (.plain (OpenSpec.ofChange mediaKeepsSpec)) mediaKeepsCard

/-- THE SECOND FORM's CARD OF 'platelayerlaw04.HeadTells'. -/
def headTellsUptoCard : Claim7 := { stood := { row := headTellsUptoRow, standIns := [], harness := (true, "28d8460b117973e10a62f3a23f056905d89ffd93eb94d562f69f976579d8b8ea"), looks := true }, kinds := [], alts := [], laidByText := true, laidKinds := [.handle], laidTests := true, laidLooks := .later }
def HeadTellsUptoCardSaid : Prop := Claim7.holds Tryd.pinned (.plain (OpenSpec.upto headTellsSpec)) headTellsUptoCard

/-- THE SECOND FORM's CARD OF 'platelayerlaw04.HeadBack'. -/
def headBackUptoCard : Claim7 := { stood := { row := headBackUptoRow, standIns := [], harness := (true, "28d8460b117973e10a62f3a23f056905d89ffd93eb94d562f69f976579d8b8ea"), looks := true }, kinds := [], alts := [], laidByText := true, laidKinds := [.handle], laidTests := true, laidLooks := .later }
def HeadBackUptoCardSaid : Prop := Claim7.holds Tryd.pinned (.plain (OpenSpec.upto headBackSpec)) headBackUptoCard

/-- THE SECOND FORM's CARD OF 'platelayerlaw04.HeadChanged'. -/
def headChangedUptoCard : Claim7 := { stood := { row := headChangedUptoRow, standIns := [], harness := (true, "28d8460b117973e10a62f3a23f056905d89ffd93eb94d562f69f976579d8b8ea"), looks := true }, kinds := [], alts := [], laidByText := true, laidKinds := [.handle], laidTests := true, laidLooks := .later }
def HeadChangedUptoCardSaid : Prop := Claim7.holds Tryd.pinned (.plain (OpenSpec.upto headChangedSpec)) headChangedUptoCard

/-- THE SECOND FORM's CARD OF 'platelayerlaw07.ZnsDoes'. -/
def znsDoesUptoCard : Claim7 := { stood := { row := znsDoesUptoRow, standIns := [], harness := (true, "28d8460b117973e10a62f3a23f056905d89ffd93eb94d562f69f976579d8b8ea"), looks := true }, kinds := [], alts := [], laidByText := true, laidKinds := [.handle], laidTests := true, laidLooks := .later }
def ZnsDoesUptoCardSaid : Prop := Claim7.holds Tryd.pinned (.plain (OpenSpec.upto znsDoesSpec)) znsDoesUptoCard

/-- THE SECOND FORM's CARD OF 'platelayerlaw07.ZnsSure'. -/
def znsSureUptoCard : Claim7 := { stood := { row := znsSureUptoRow, standIns := [], harness := (true, "28d8460b117973e10a62f3a23f056905d89ffd93eb94d562f69f976579d8b8ea"), looks := true }, kinds := [], alts := [], laidByText := true, laidKinds := [.handle], laidTests := true, laidLooks := .later }
def ZnsSureUptoCardSaid : Prop := Claim7.holds Tryd.pinned (.plain (OpenSpec.upto znsSureSpec)) znsSureUptoCard

/-- THE SECOND FORM's CARD OF 'platelayerlaw07.ZnsFuse'. -/
def znsFuseUptoCard : Claim7 := { stood := { row := znsFuseUptoRow, standIns := [], harness := (true, "28d8460b117973e10a62f3a23f056905d89ffd93eb94d562f69f976579d8b8ea"), looks := true }, kinds := [], alts := [], laidByText := true, laidKinds := [.handle], laidTests := true, laidLooks := .later }
def ZnsFuseUptoCardSaid : Prop := Claim7.holds Tryd.pinned (.plain (OpenSpec.upto znsFuseSpec)) znsFuseUptoCard

/-- THE SECOND FORM's CARD OF 'platelayerlaw07.ZnsAgain'. -/
def znsAgainUptoCard : Claim7 := { stood := { row := znsAgainUptoRow, standIns := [], harness := (true, "28d8460b117973e10a62f3a23f056905d89ffd93eb94d562f69f976579d8b8ea"), looks := true }, kinds := [], alts := [], laidByText := true, laidKinds := [.handle], laidTests := true, laidLooks := .later }
def ZnsAgainUptoCardSaid : Prop := Claim7.holds Tryd.pinned (.plain (OpenSpec.upto znsAgainSpec)) znsAgainUptoCard

/-- THE SECOND FORM's CARD OF 'platelayerlaw07.ZnsApart'. -/
def znsApartUptoCard : Claim7 := { stood := { row := znsApartUptoRow, standIns := [], harness := (true, "28d8460b117973e10a62f3a23f056905d89ffd93eb94d562f69f976579d8b8ea"), looks := true }, kinds := [], alts := [], laidByText := true, laidKinds := [.handle], laidTests := true, laidLooks := .later }
def ZnsApartUptoCardSaid : Prop := Claim7.holds Tryd.pinned (.plain (OpenSpec.upto znsApartSpec)) znsApartUptoCard

/-- THE SECOND FORM's CARD OF 'platelayerlaw07.ZnsLoads'. -/
def znsLoadsUptoCard : Claim7 := { stood := { row := znsLoadsUptoRow, standIns := [], harness := (true, "28d8460b117973e10a62f3a23f056905d89ffd93eb94d562f69f976579d8b8ea"), looks := true }, kinds := [], alts := [], laidByText := true, laidKinds := [.handle], laidTests := true, laidLooks := .later }
def ZnsLoadsUptoCardSaid : Prop := Claim7.holds Tryd.pinned (.plain (OpenSpec.upto znsLoadsSpec)) znsLoadsUptoCard

/-- THE SECOND FORM's CARD OF 'platelayerlaw16.MediaApart'. -/
def mediaApartUptoCard : Claim7 := { stood := { row := mediaApartUptoRow, standIns := [], harness := (true, "28d8460b117973e10a62f3a23f056905d89ffd93eb94d562f69f976579d8b8ea"), looks := true }, kinds := [], alts := [], laidByText := true, laidKinds := [.handle], laidTests := true, laidLooks := .later }
def MediaApartUptoCardSaid : Prop := Claim7.holds Tryd.pinned (.plain (OpenSpec.upto mediaApartSpec)) mediaApartUptoCard

/-- THE SECOND FORM's CARD OF 'platelayerlaw16.MediaKeeps'. -/
def mediaKeepsUptoCard : Claim7 := { stood := { row := mediaKeepsUptoRow, standIns := [], harness := (true, "28d8460b117973e10a62f3a23f056905d89ffd93eb94d562f69f976579d8b8ea"), looks := true }, kinds := [], alts := [], laidByText := true, laidKinds := [.handle], laidTests := true, laidLooks := .later }
def MediaKeepsUptoCardSaid : Prop := Claim7.holds Tryd.pinned (.plain (OpenSpec.upto mediaKeepsSpec)) mediaKeepsUptoCard
end Rows
end Go.Proofs.YtgohecjnjadnpaaDoor
