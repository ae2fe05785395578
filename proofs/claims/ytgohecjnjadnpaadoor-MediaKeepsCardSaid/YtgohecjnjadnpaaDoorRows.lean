/-
  NARROWER THAN 'FOR EVERY INPUT', by the rows' own cells (each row's printed sentence says how): HeadTells: laid · HeadBack: laid · HeadChanged: laid · ZnsDoes: laid · ZnsSure: laid · ZnsFuse: laid · ZnsAgain: laid · ZnsApart: laid · ZnsLoads: laid · MediaApart: laid · MediaKeeps: laid.
  DERIVED. THE GIVEN ROWS OF THIS SEAT. 11 by the template 'for every input the law returns true; each argument reads behind the call as it read before'; 0 by the template 'total and deterministic' (their statements: YtgohecjnjadnpaaDoorTotals.lean).
  GIVEN WITH THE SEED: the statements are not yours to turn. If you find one false, say at which input.
  Laid BY PROGRAM, IN A SANDBOX (cutbox-rows.mjs): the forced cells as the released guide's own fill.sh prints them over the translation bafc994fb0a01f47… (all of the seat's roots in one cut). By AI agents, Wed Nov 11 2026. No macro, syntax, notation, axiom, sorry.
-/
import Derived.Test.YtgohecjnjadnpaaDoorChecked
import GoSem.Claim
import GoSem.ClaimJoined
import GoSem.ClaimMapViews
import Derived.JoinedTies
import Derived.KernelRfl
namespace Go.Proofs.YtgohecjnjadnpaaDoor
/- THE CELL 'sum', in the pinned program and in every row, IS THE sha256 OF THE DUMP (.gsa) THAT YtgohecjnjadnpaaDoorProg.lean LOADS. Nothing in Lean hashes anything: it is a label: what it is worth is what the hold of that sum in a sandbox is worth. -/
noncomputable def Tryd.pinned : Pinned := { name := "ytgohecjnjadnpaadoor", sum := "bafc994fb0a01f47fb154f06379fa867c2ac0d62e3fba70ff6c7a2ea0159a9f8", checked := Tryd.checked }
namespace Rows
def none {H : Type} : Left H := { results := [], args := [] }

/- WHAT THE LISTED PACKAGE-LEVEL VARIABLES READ AS WHEN THE CALL BEGINS. Each datum BY PROGRAM (the guide's laid-datum.mjs) off the statement by which the dump's own 'gosem.cut.vars' lays the variable. In a bare row this is a premise. The card (YtgohecjnjadnpaaDoorCards.lean) ties it to the program's text. -/
def laid_errors_errorType {H : Type} : DataW H := .iface "internal/reflectlite.rtype" (.agg [.ptr (.lit (.string [101, 114, 114, 111, 114]))])

/-- 'platelayerlaw04.HeadTells': WHATEVER THE INPUT: true; the input reads as it did. -/
def headTellsSpec : ChangeSpec := { name := "headTells", fn := fun _ => fun
  | [d1, d2, d3] => { results := [.lit (.bool true)], args := [d1, d2, d3] }
  | _ => none }
def headTellsRow : OpenClaim := { program := "ytgohecjnjadnpaadoor", sum := "bafc994fb0a01f47fb154f06379fa867c2ac0d62e3fba70ff6c7a2ea0159a9f8", func := "platelayer/platelayerlaw04.HeadTells", spec := "headTells", inPlace := ["internal/reflectlite.ValueOf", "(internal/reflectlite.Value).Type", "(internal/reflectlite.Value).IsNil", "internal/reflectlite.TypeOf", "(internal/reflectlite.Value).Elem", "(internal/reflectlite.Value).Set"], unfollowed := true, recurses := true, named := ["errors.errorType"], apart := false, laid := [("errors.errorType", laid_errors_errorType)] }
def HeadTellsSaid : Prop := headTellsRow.holds Tryd.pinned (OpenSpec.ofChange headTellsSpec)

/-- ITS FALSE NEIGHBOUR: 'it returns false'. Refute it at one input. -/
def headTellsWrong : ChangeSpec := { name := "headTells", fn := fun _ => fun
  | [d1, d2, d3] => { results := [.lit (.bool false)], args := [d1, d2, d3] }
  | _ => none }
def HeadTellsWrongFalsely : Prop := headTellsRow.holds Tryd.pinned (OpenSpec.ofChange headTellsWrong)

/-- 'platelayerlaw04.HeadBack': WHATEVER THE INPUT: true; the input reads as it did. -/
def headBackSpec : ChangeSpec := { name := "headBack", fn := fun _ => fun
  | [d1, d2, d3] => { results := [.lit (.bool true)], args := [d1, d2, d3] }
  | _ => none }
def headBackRow : OpenClaim := { program := "ytgohecjnjadnpaadoor", sum := "bafc994fb0a01f47fb154f06379fa867c2ac0d62e3fba70ff6c7a2ea0159a9f8", func := "platelayer/platelayerlaw04.HeadBack", spec := "headBack", inPlace := ["internal/reflectlite.ValueOf", "(internal/reflectlite.Value).Type", "(internal/reflectlite.Value).IsNil", "internal/reflectlite.TypeOf", "(internal/reflectlite.Value).Elem", "(internal/reflectlite.Value).Set"], unfollowed := true, recurses := true, named := ["errors.errorType"], apart := false, laid := [("errors.errorType", laid_errors_errorType)] }
def HeadBackSaid : Prop := headBackRow.holds Tryd.pinned (OpenSpec.ofChange headBackSpec)

/-- ITS FALSE NEIGHBOUR: 'it returns false'. Refute it at one input. -/
def headBackWrong : ChangeSpec := { name := "headBack", fn := fun _ => fun
  | [d1, d2, d3] => { results := [.lit (.bool false)], args := [d1, d2, d3] }
  | _ => none }
def HeadBackWrongFalsely : Prop := headBackRow.holds Tryd.pinned (OpenSpec.ofChange headBackWrong)

/-- 'platelayerlaw04.HeadChanged': WHATEVER THE INPUT: true; the input reads as it did. -/
def headChangedSpec : ChangeSpec := { name := "headChanged", fn := fun _ => fun
  | [d1, d2, d3, d4] => { results := [.lit (.bool true)], args := [d1, d2, d3, d4] }
  | _ => none }
def headChangedRow : OpenClaim := { program := "ytgohecjnjadnpaadoor", sum := "bafc994fb0a01f47fb154f06379fa867c2ac0d62e3fba70ff6c7a2ea0159a9f8", func := "platelayer/platelayerlaw04.HeadChanged", spec := "headChanged", inPlace := ["internal/reflectlite.ValueOf", "(internal/reflectlite.Value).Type", "(internal/reflectlite.Value).IsNil", "internal/reflectlite.TypeOf", "(internal/reflectlite.Value).Elem", "(internal/reflectlite.Value).Set"], unfollowed := true, recurses := true, named := ["errors.errorType"], apart := false, laid := [("errors.errorType", laid_errors_errorType)] }
def HeadChangedSaid : Prop := headChangedRow.holds Tryd.pinned (OpenSpec.ofChange headChangedSpec)

/-- ITS FALSE NEIGHBOUR: 'it returns false'. Refute it at one input. -/
def headChangedWrong : ChangeSpec := { name := "headChanged", fn := fun _ => fun
  | [d1, d2, d3, d4] => { results := [.lit (.bool false)], args := [d1, d2, d3, d4] }
  | _ => none }
def HeadChangedWrongFalsely : Prop := headChangedRow.holds Tryd.pinned (OpenSpec.ofChange headChangedWrong)

/-- 'platelayerlaw07.ZnsDoes': WHATEVER THE INPUT: true; the input reads as it did. -/
def znsDoesSpec : ChangeSpec := { name := "znsDoes", fn := fun _ => fun
  | [d1, d2, d3] => { results := [.lit (.bool true)], args := [d1, d2, d3] }
  | _ => none }
def znsDoesRow : OpenClaim := { program := "ytgohecjnjadnpaadoor", sum := "bafc994fb0a01f47fb154f06379fa867c2ac0d62e3fba70ff6c7a2ea0159a9f8", func := "platelayer/platelayerlaw07.ZnsDoes", spec := "znsDoes", inPlace := ["internal/reflectlite.ValueOf", "(internal/reflectlite.Value).Type", "(internal/reflectlite.Value).IsNil", "internal/reflectlite.TypeOf", "(internal/reflectlite.Value).Elem", "(internal/reflectlite.Value).Set"], unfollowed := true, recurses := true, named := ["errors.errorType"], apart := false, laid := [("errors.errorType", laid_errors_errorType)] }
def ZnsDoesSaid : Prop := znsDoesRow.holds Tryd.pinned (OpenSpec.ofChange znsDoesSpec)

/-- ITS FALSE NEIGHBOUR: 'it returns false'. Refute it at one input. -/
def znsDoesWrong : ChangeSpec := { name := "znsDoes", fn := fun _ => fun
  | [d1, d2, d3] => { results := [.lit (.bool false)], args := [d1, d2, d3] }
  | _ => none }
def ZnsDoesWrongFalsely : Prop := znsDoesRow.holds Tryd.pinned (OpenSpec.ofChange znsDoesWrong)

/-- 'platelayerlaw07.ZnsSure': WHATEVER THE INPUT: true; the input reads as it did. -/
def znsSureSpec : ChangeSpec := { name := "znsSure", fn := fun _ => fun
  | [d1, d2, d3, d4, d5] => { results := [.lit (.bool true)], args := [d1, d2, d3, d4, d5] }
  | _ => none }
def znsSureRow : OpenClaim := { program := "ytgohecjnjadnpaadoor", sum := "bafc994fb0a01f47fb154f06379fa867c2ac0d62e3fba70ff6c7a2ea0159a9f8", func := "platelayer/platelayerlaw07.ZnsSure", spec := "znsSure", inPlace := ["internal/reflectlite.ValueOf", "(internal/reflectlite.Value).Type", "(internal/reflectlite.Value).IsNil", "internal/reflectlite.TypeOf", "(internal/reflectlite.Value).Elem", "(internal/reflectlite.Value).Set"], unfollowed := true, recurses := true, named := ["errors.errorType"], apart := false, laid := [("errors.errorType", laid_errors_errorType)] }
def ZnsSureSaid : Prop := znsSureRow.holds Tryd.pinned (OpenSpec.ofChange znsSureSpec)

/-- ITS FALSE NEIGHBOUR: 'it returns false'. Refute it at one input. -/
def znsSureWrong : ChangeSpec := { name := "znsSure", fn := fun _ => fun
  | [d1, d2, d3, d4, d5] => { results := [.lit (.bool false)], args := [d1, d2, d3, d4, d5] }
  | _ => none }
def ZnsSureWrongFalsely : Prop := znsSureRow.holds Tryd.pinned (OpenSpec.ofChange znsSureWrong)

/-- 'platelayerlaw07.ZnsFuse': WHATEVER THE INPUT: true; the input reads as it did. -/
def znsFuseSpec : ChangeSpec := { name := "znsFuse", fn := fun _ => fun
  | [d1, d2, d3, d4] => { results := [.lit (.bool true)], args := [d1, d2, d3, d4] }
  | _ => none }
def znsFuseRow : OpenClaim := { program := "ytgohecjnjadnpaadoor", sum := "bafc994fb0a01f47fb154f06379fa867c2ac0d62e3fba70ff6c7a2ea0159a9f8", func := "platelayer/platelayerlaw07.ZnsFuse", spec := "znsFuse", inPlace := ["internal/reflectlite.ValueOf", "(internal/reflectlite.Value).Type", "(internal/reflectlite.Value).IsNil", "internal/reflectlite.TypeOf", "(internal/reflectlite.Value).Elem", "(internal/reflectlite.Value).Set"], unfollowed := true, recurses := true, named := ["errors.errorType"], apart := false, laid := [("errors.errorType", laid_errors_errorType)] }
def ZnsFuseSaid : Prop := znsFuseRow.holds Tryd.pinned (OpenSpec.ofChange znsFuseSpec)

/-- ITS FALSE NEIGHBOUR: 'it returns false'. Refute it at one input. -/
def znsFuseWrong : ChangeSpec := { name := "znsFuse", fn := fun _ => fun
  | [d1, d2, d3, d4] => { results := [.lit (.bool false)], args := [d1, d2, d3, d4] }
  | _ => none }
def ZnsFuseWrongFalsely : Prop := znsFuseRow.holds Tryd.pinned (OpenSpec.ofChange znsFuseWrong)

/-- 'platelayerlaw07.ZnsAgain': WHATEVER THE INPUT: true; the input reads as it did. -/
def znsAgainSpec : ChangeSpec := { name := "znsAgain", fn := fun _ => fun
  | [d1, d2, d3, d4, d5] => { results := [.lit (.bool true)], args := [d1, d2, d3, d4, d5] }
  | _ => none }
def znsAgainRow : OpenClaim := { program := "ytgohecjnjadnpaadoor", sum := "bafc994fb0a01f47fb154f06379fa867c2ac0d62e3fba70ff6c7a2ea0159a9f8", func := "platelayer/platelayerlaw07.ZnsAgain", spec := "znsAgain", inPlace := ["internal/reflectlite.ValueOf", "(internal/reflectlite.Value).Type", "(internal/reflectlite.Value).IsNil", "internal/reflectlite.TypeOf", "(internal/reflectlite.Value).Elem", "(internal/reflectlite.Value).Set"], unfollowed := true, recurses := true, named := ["errors.errorType"], apart := false, laid := [("errors.errorType", laid_errors_errorType)] }
def ZnsAgainSaid : Prop := znsAgainRow.holds Tryd.pinned (OpenSpec.ofChange znsAgainSpec)

/-- ITS FALSE NEIGHBOUR: 'it returns false'. Refute it at one input. -/
def znsAgainWrong : ChangeSpec := { name := "znsAgain", fn := fun _ => fun
  | [d1, d2, d3, d4, d5] => { results := [.lit (.bool false)], args := [d1, d2, d3, d4, d5] }
  | _ => none }
def ZnsAgainWrongFalsely : Prop := znsAgainRow.holds Tryd.pinned (OpenSpec.ofChange znsAgainWrong)

/-- 'platelayerlaw07.ZnsApart': WHATEVER THE INPUT: true; the input reads as it did. -/
def znsApartSpec : ChangeSpec := { name := "znsApart", fn := fun _ => fun
  | [d1, d2, d3, d4] => { results := [.lit (.bool true)], args := [d1, d2, d3, d4] }
  | _ => none }
def znsApartRow : OpenClaim := { program := "ytgohecjnjadnpaadoor", sum := "bafc994fb0a01f47fb154f06379fa867c2ac0d62e3fba70ff6c7a2ea0159a9f8", func := "platelayer/platelayerlaw07.ZnsApart", spec := "znsApart", inPlace := ["internal/reflectlite.ValueOf", "(internal/reflectlite.Value).Type", "(internal/reflectlite.Value).IsNil", "internal/reflectlite.TypeOf", "(internal/reflectlite.Value).Elem", "(internal/reflectlite.Value).Set"], unfollowed := true, recurses := true, named := ["errors.errorType"], apart := false, laid := [("errors.errorType", laid_errors_errorType)] }
def ZnsApartSaid : Prop := znsApartRow.holds Tryd.pinned (OpenSpec.ofChange znsApartSpec)

/-- ITS FALSE NEIGHBOUR: 'it returns false'. Refute it at one input. -/
def znsApartWrong : ChangeSpec := { name := "znsApart", fn := fun _ => fun
  | [d1, d2, d3, d4] => { results := [.lit (.bool false)], args := [d1, d2, d3, d4] }
  | _ => none }
def ZnsApartWrongFalsely : Prop := znsApartRow.holds Tryd.pinned (OpenSpec.ofChange znsApartWrong)

/-- 'platelayerlaw07.ZnsLoads': WHATEVER THE INPUT: true; the input reads as it did. -/
def znsLoadsSpec : ChangeSpec := { name := "znsLoads", fn := fun _ => fun
  | [d1, d2, d3] => { results := [.lit (.bool true)], args := [d1, d2, d3] }
  | _ => none }
def znsLoadsRow : OpenClaim := { program := "ytgohecjnjadnpaadoor", sum := "bafc994fb0a01f47fb154f06379fa867c2ac0d62e3fba70ff6c7a2ea0159a9f8", func := "platelayer/platelayerlaw07.ZnsLoads", spec := "znsLoads", inPlace := ["internal/reflectlite.ValueOf", "(internal/reflectlite.Value).Type", "(internal/reflectlite.Value).IsNil", "internal/reflectlite.TypeOf", "(internal/reflectlite.Value).Elem", "(internal/reflectlite.Value).Set"], unfollowed := true, recurses := true, named := ["errors.errorType"], apart := false, laid := [("errors.errorType", laid_errors_errorType)] }
def ZnsLoadsSaid : Prop := znsLoadsRow.holds Tryd.pinned (OpenSpec.ofChange znsLoadsSpec)

/-- ITS FALSE NEIGHBOUR: 'it returns false'. Refute it at one input. -/
def znsLoadsWrong : ChangeSpec := { name := "znsLoads", fn := fun _ => fun
  | [d1, d2, d3] => { results := [.lit (.bool false)], args := [d1, d2, d3] }
  | _ => none }
def ZnsLoadsWrongFalsely : Prop := znsLoadsRow.holds Tryd.pinned (OpenSpec.ofChange znsLoadsWrong)

/-- 'platelayerlaw16.MediaApart': WHATEVER THE INPUT: true; the input reads as it did. -/
def mediaApartSpec : ChangeSpec := { name := "mediaApart", fn := fun _ => fun
  | [d1, d2, d3] => { results := [.lit (.bool true)], args := [d1, d2, d3] }
  | _ => none }
def mediaApartRow : OpenClaim := { program := "ytgohecjnjadnpaadoor", sum := "bafc994fb0a01f47fb154f06379fa867c2ac0d62e3fba70ff6c7a2ea0159a9f8", func := "platelayer/platelayerlaw16.MediaApart", spec := "mediaApart", inPlace := ["internal/reflectlite.ValueOf", "(internal/reflectlite.Value).Type", "(internal/reflectlite.Value).IsNil", "internal/reflectlite.TypeOf", "(internal/reflectlite.Value).Elem", "(internal/reflectlite.Value).Set"], unfollowed := true, recurses := true, named := ["errors.errorType"], apart := false, laid := [("errors.errorType", laid_errors_errorType)] }
def MediaApartSaid : Prop := mediaApartRow.holds Tryd.pinned (OpenSpec.ofChange mediaApartSpec)

/-- ITS FALSE NEIGHBOUR: 'it returns false'. Refute it at one input. -/
def mediaApartWrong : ChangeSpec := { name := "mediaApart", fn := fun _ => fun
  | [d1, d2, d3] => { results := [.lit (.bool false)], args := [d1, d2, d3] }
  | _ => none }
def MediaApartWrongFalsely : Prop := mediaApartRow.holds Tryd.pinned (OpenSpec.ofChange mediaApartWrong)

/-- 'platelayerlaw16.MediaKeeps': WHATEVER THE INPUT: true; the input reads as it did. -/
def mediaKeepsSpec : ChangeSpec := { name := "mediaKeeps", fn := fun _ => fun
  | [d1, d2] => { results := [.lit (.bool true)], args := [d1, d2] }
  | _ => none }
def mediaKeepsRow : OpenClaim := { program := "ytgohecjnjadnpaadoor", sum := "bafc994fb0a01f47fb154f06379fa867c2ac0d62e3fba70ff6c7a2ea0159a9f8", func := "platelayer/platelayerlaw16.MediaKeeps", spec := "mediaKeeps", inPlace := ["internal/reflectlite.ValueOf", "(internal/reflectlite.Value).Type", "(internal/reflectlite.Value).IsNil", "internal/reflectlite.TypeOf", "(internal/reflectlite.Value).Elem", "(internal/reflectlite.Value).Set"], unfollowed := true, recurses := true, named := ["errors.errorType"], apart := false, laid := [("errors.errorType", laid_errors_errorType)] }
def MediaKeepsSaid : Prop := mediaKeepsRow.holds Tryd.pinned (OpenSpec.ofChange mediaKeepsSpec)

/-- ITS FALSE NEIGHBOUR: 'it returns false'. Refute it at one input. -/
def mediaKeepsWrong : ChangeSpec := { name := "mediaKeeps", fn := fun _ => fun
  | [d1, d2] => { results := [.lit (.bool false)], args := [d1, d2] }
  | _ => none }
def MediaKeepsWrongFalsely : Prop := mediaKeepsRow.holds Tryd.pinned (OpenSpec.ofChange mediaKeepsWrong)

/- THE SECOND FORM. 'bulk': how many values and letters a reading holds, each counted each time it is reached (what is shared counts as often as it is met; a slice's spare places count too). A statement '..UptoSaid' is the law's where the arguments, and the package variables that the reading takes, are together of bulk at most 1048576: NARROWER than '..Said'. Prove '..Said' where nothing that the law and all that it calls make is longer than what came in: it says more and counts as full. Else prove '..UptoSaid'. A law counts once. -/
mutual
def uptoBulk {H : Type} : DataW H → Nat
  | .lit (.string bytes) => bytes.length + 1
  | .lit _ => 1
  | .nil => 1
  | .ptr d => uptoBulk d + 1
  | .slice elems spare => uptoBulkAll elems + uptoBulkAll spare + 1
  | .agg parts => uptoBulkAll parts + 1
  | .iface _ d => uptoBulk d + 1
  | .map entries => uptoBulkEntries entries + 1
  | .held _ => 1
def uptoBulkAll {H : Type} : List (DataW H) → Nat
  | [] => 0
  | d :: r => uptoBulk d + uptoBulkAll r
def uptoBulkEntries {H : Type} : List (Lit × DataW H) → Nat
  | [] => 0
  | x :: r => uptoBulkEntry x + uptoBulkEntries r
def uptoBulkEntry {H : Type} : Lit × DataW H → Nat
  | (.string bytes, d) => bytes.length + uptoBulk d + 1
  | (_, d) => uptoBulk d + 1
 end
def uptoSmall : (H : Type) → List (DataW H) → Bool := fun _ ds => decide (uptoBulkAll ds ≤ 1048576)
def OpenSpec.upto (s : _root_.Go.ChangeSpec) : _root_.Go.OpenSpec := { _root_.Go.OpenSpec.ofChange s with cond := some uptoSmall }

/-- 'platelayerlaw04.HeadTells', WHERE WHAT IT READS IS OF BULK AT MOST 1048576: true; the input reads as it did. -/
def headTellsUptoRow : OpenClaim := { program := "ytgohecjnjadnpaadoor", sum := "bafc994fb0a01f47fb154f06379fa867c2ac0d62e3fba70ff6c7a2ea0159a9f8", func := "platelayer/platelayerlaw04.HeadTells", spec := "headTells", inPlace := ["internal/reflectlite.ValueOf", "(internal/reflectlite.Value).Type", "(internal/reflectlite.Value).IsNil", "internal/reflectlite.TypeOf", "(internal/reflectlite.Value).Elem", "(internal/reflectlite.Value).Set"], unfollowed := true, recurses := true, named := ["errors.errorType"], apart := false, laid := [("errors.errorType", laid_errors_errorType)], narrowed := true }
def HeadTellsUptoSaid : Prop := headTellsUptoRow.holds Tryd.pinned (OpenSpec.upto headTellsSpec)

/-- 'platelayerlaw04.HeadBack', WHERE WHAT IT READS IS OF BULK AT MOST 1048576: true; the input reads as it did. -/
def headBackUptoRow : OpenClaim := { program := "ytgohecjnjadnpaadoor", sum := "bafc994fb0a01f47fb154f06379fa867c2ac0d62e3fba70ff6c7a2ea0159a9f8", func := "platelayer/platelayerlaw04.HeadBack", spec := "headBack", inPlace := ["internal/reflectlite.ValueOf", "(internal/reflectlite.Value).Type", "(internal/reflectlite.Value).IsNil", "internal/reflectlite.TypeOf", "(internal/reflectlite.Value).Elem", "(internal/reflectlite.Value).Set"], unfollowed := true, recurses := true, named := ["errors.errorType"], apart := false, laid := [("errors.errorType", laid_errors_errorType)], narrowed := true }
def HeadBackUptoSaid : Prop := headBackUptoRow.holds Tryd.pinned (OpenSpec.upto headBackSpec)

/-- 'platelayerlaw04.HeadChanged', WHERE WHAT IT READS IS OF BULK AT MOST 1048576: true; the input reads as it did. -/
def headChangedUptoRow : OpenClaim := { program := "ytgohecjnjadnpaadoor", sum := "bafc994fb0a01f47fb154f06379fa867c2ac0d62e3fba70ff6c7a2ea0159a9f8", func := "platelayer/platelayerlaw04.HeadChanged", spec := "headChanged", inPlace := ["internal/reflectlite.ValueOf", "(internal/reflectlite.Value).Type", "(internal/reflectlite.Value).IsNil", "internal/reflectlite.TypeOf", "(internal/reflectlite.Value).Elem", "(internal/reflectlite.Value).Set"], unfollowed := true, recurses := true, named := ["errors.errorType"], apart := false, laid := [("errors.errorType", laid_errors_errorType)], narrowed := true }
def HeadChangedUptoSaid : Prop := headChangedUptoRow.holds Tryd.pinned (OpenSpec.upto headChangedSpec)

/-- 'platelayerlaw07.ZnsDoes', WHERE WHAT IT READS IS OF BULK AT MOST 1048576: true; the input reads as it did. -/
def znsDoesUptoRow : OpenClaim := { program := "ytgohecjnjadnpaadoor", sum := "bafc994fb0a01f47fb154f06379fa867c2ac0d62e3fba70ff6c7a2ea0159a9f8", func := "platelayer/platelayerlaw07.ZnsDoes", spec := "znsDoes", inPlace := ["internal/reflectlite.ValueOf", "(internal/reflectlite.Value).Type", "(internal/reflectlite.Value).IsNil", "internal/reflectlite.TypeOf", "(internal/reflectlite.Value).Elem", "(internal/reflectlite.Value).Set"], unfollowed := true, recurses := true, named := ["errors.errorType"], apart := false, laid := [("errors.errorType", laid_errors_errorType)], narrowed := true }
def ZnsDoesUptoSaid : Prop := znsDoesUptoRow.holds Tryd.pinned (OpenSpec.upto znsDoesSpec)

/-- 'platelayerlaw07.ZnsSure', WHERE WHAT IT READS IS OF BULK AT MOST 1048576: true; the input reads as it did. -/
def znsSureUptoRow : OpenClaim := { program := "ytgohecjnjadnpaadoor", sum := "bafc994fb0a01f47fb154f06379fa867c2ac0d62e3fba70ff6c7a2ea0159a9f8", func := "platelayer/platelayerlaw07.ZnsSure", spec := "znsSure", inPlace := ["internal/reflectlite.ValueOf", "(internal/reflectlite.Value).Type", "(internal/reflectlite.Value).IsNil", "internal/reflectlite.TypeOf", "(internal/reflectlite.Value).Elem", "(internal/reflectlite.Value).Set"], unfollowed := true, recurses := true, named := ["errors.errorType"], apart := false, laid := [("errors.errorType", laid_errors_errorType)], narrowed := true }
def ZnsSureUptoSaid : Prop := znsSureUptoRow.holds Tryd.pinned (OpenSpec.upto znsSureSpec)

/-- 'platelayerlaw07.ZnsFuse', WHERE WHAT IT READS IS OF BULK AT MOST 1048576: true; the input reads as it did. -/
def znsFuseUptoRow : OpenClaim := { program := "ytgohecjnjadnpaadoor", sum := "bafc994fb0a01f47fb154f06379fa867c2ac0d62e3fba70ff6c7a2ea0159a9f8", func := "platelayer/platelayerlaw07.ZnsFuse", spec := "znsFuse", inPlace := ["internal/reflectlite.ValueOf", "(internal/reflectlite.Value).Type", "(internal/reflectlite.Value).IsNil", "internal/reflectlite.TypeOf", "(internal/reflectlite.Value).Elem", "(internal/reflectlite.Value).Set"], unfollowed := true, recurses := true, named := ["errors.errorType"], apart := false, laid := [("errors.errorType", laid_errors_errorType)], narrowed := true }
def ZnsFuseUptoSaid : Prop := znsFuseUptoRow.holds Tryd.pinned (OpenSpec.upto znsFuseSpec)

/-- 'platelayerlaw07.ZnsAgain', WHERE WHAT IT READS IS OF BULK AT MOST 1048576: true; the input reads as it did. -/
def znsAgainUptoRow : OpenClaim := { program := "ytgohecjnjadnpaadoor", sum := "bafc994fb0a01f47fb154f06379fa867c2ac0d62e3fba70ff6c7a2ea0159a9f8", func := "platelayer/platelayerlaw07.ZnsAgain", spec := "znsAgain", inPlace := ["internal/reflectlite.ValueOf", "(internal/reflectlite.Value).Type", "(internal/reflectlite.Value).IsNil", "internal/reflectlite.TypeOf", "(internal/reflectlite.Value).Elem", "(internal/reflectlite.Value).Set"], unfollowed := true, recurses := true, named := ["errors.errorType"], apart := false, laid := [("errors.errorType", laid_errors_errorType)], narrowed := true }
def ZnsAgainUptoSaid : Prop := znsAgainUptoRow.holds Tryd.pinned (OpenSpec.upto znsAgainSpec)

/-- 'platelayerlaw07.ZnsApart', WHERE WHAT IT READS IS OF BULK AT MOST 1048576: true; the input reads as it did. -/
def znsApartUptoRow : OpenClaim := { program := "ytgohecjnjadnpaadoor", sum := "bafc994fb0a01f47fb154f06379fa867c2ac0d62e3fba70ff6c7a2ea0159a9f8", func := "platelayer/platelayerlaw07.ZnsApart", spec := "znsApart", inPlace := ["internal/reflectlite.ValueOf", "(internal/reflectlite.Value).Type", "(internal/reflectlite.Value).IsNil", "internal/reflectlite.TypeOf", "(internal/reflectlite.Value).Elem", "(internal/reflectlite.Value).Set"], unfollowed := true, recurses := true, named := ["errors.errorType"], apart := false, laid := [("errors.errorType", laid_errors_errorType)], narrowed := true }
def ZnsApartUptoSaid : Prop := znsApartUptoRow.holds Tryd.pinned (OpenSpec.upto znsApartSpec)

/-- 'platelayerlaw07.ZnsLoads', WHERE WHAT IT READS IS OF BULK AT MOST 1048576: true; the input reads as it did. -/
def znsLoadsUptoRow : OpenClaim := { program := "ytgohecjnjadnpaadoor", sum := "bafc994fb0a01f47fb154f06379fa867c2ac0d62e3fba70ff6c7a2ea0159a9f8", func := "platelayer/platelayerlaw07.ZnsLoads", spec := "znsLoads", inPlace := ["internal/reflectlite.ValueOf", "(internal/reflectlite.Value).Type", "(internal/reflectlite.Value).IsNil", "internal/reflectlite.TypeOf", "(internal/reflectlite.Value).Elem", "(internal/reflectlite.Value).Set"], unfollowed := true, recurses := true, named := ["errors.errorType"], apart := false, laid := [("errors.errorType", laid_errors_errorType)], narrowed := true }
def ZnsLoadsUptoSaid : Prop := znsLoadsUptoRow.holds Tryd.pinned (OpenSpec.upto znsLoadsSpec)

/-- 'platelayerlaw16.MediaApart', WHERE WHAT IT READS IS OF BULK AT MOST 1048576: true; the input reads as it did. -/
def mediaApartUptoRow : OpenClaim := { program := "ytgohecjnjadnpaadoor", sum := "bafc994fb0a01f47fb154f06379fa867c2ac0d62e3fba70ff6c7a2ea0159a9f8", func := "platelayer/platelayerlaw16.MediaApart", spec := "mediaApart", inPlace := ["internal/reflectlite.ValueOf", "(internal/reflectlite.Value).Type", "(internal/reflectlite.Value).IsNil", "internal/reflectlite.TypeOf", "(internal/reflectlite.Value).Elem", "(internal/reflectlite.Value).Set"], unfollowed := true, recurses := true, named := ["errors.errorType"], apart := false, laid := [("errors.errorType", laid_errors_errorType)], narrowed := true }
def MediaApartUptoSaid : Prop := mediaApartUptoRow.holds Tryd.pinned (OpenSpec.upto mediaApartSpec)

/-- 'platelayerlaw16.MediaKeeps', WHERE WHAT IT READS IS OF BULK AT MOST 1048576: true; the input reads as it did. -/
def mediaKeepsUptoRow : OpenClaim := { program := "ytgohecjnjadnpaadoor", sum := "bafc994fb0a01f47fb154f06379fa867c2ac0d62e3fba70ff6c7a2ea0159a9f8", func := "platelayer/platelayerlaw16.MediaKeeps", spec := "mediaKeeps", inPlace := ["internal/reflectlite.ValueOf", "(internal/reflectlite.Value).Type", "(internal/reflectlite.Value).IsNil", "internal/reflectlite.TypeOf", "(internal/reflectlite.Value).Elem", "(internal/reflectlite.Value).Set"], unfollowed := true, recurses := true, named := ["errors.errorType"], apart := false, laid := [("errors.errorType", laid_errors_errorType)], narrowed := true }
def MediaKeepsUptoSaid : Prop := mediaKeepsUptoRow.holds Tryd.pinned (OpenSpec.upto mediaKeepsSpec)

end Rows
end Go.Proofs.YtgohecjnjadnpaaDoor
