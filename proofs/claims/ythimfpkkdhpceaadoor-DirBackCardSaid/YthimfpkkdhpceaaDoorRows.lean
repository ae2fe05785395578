/-
  NARROWER THAN 'FOR EVERY INPUT', by the rows' own cells (each row's printed sentence says how): CkptTells: laid · CkptBack: laid · CkptChanged: laid · CkptAlike: laid · DirBack: laid · SlotOther: laid.
  DERIVED. THE GIVEN ROWS OF THIS SEAT. 6 by the template 'for every input the law returns true; each argument reads behind the call as it read before'; 0 by the template 'total and deterministic' (their statements: YthimfpkkdhpceaaDoorTotals.lean).
  GIVEN WITH THE SEED: the statements are not yours to turn. If you find one false, say at which input.
  Laid BY PROGRAM, IN A SANDBOX (cutbox-rows.mjs): the forced cells as the released guide's own fill.sh prints them over the translation b194eed3d8b52789… (all of the seat's roots in one cut). By AI agents, Wed Nov 11 2026. No macro, syntax, notation, axiom, sorry.
-/
import Derived.Test.YthimfpkkdhpceaaDoorChecked
import GoSem.Claim
import GoSem.ClaimJoined
import GoSem.ClaimMapViews
import Derived.JoinedTies
import Derived.KernelRfl
namespace Go.Proofs.YthimfpkkdhpceaaDoor
/- THE CELL 'sum', in the pinned program and in every row, IS THE sha256 OF THE DUMP (.gsa) THAT YthimfpkkdhpceaaDoorProg.lean LOADS. Nothing in Lean hashes anything: it is a label: what it is worth is what the hold of that sum in a sandbox is worth. -/
noncomputable def Tryd.pinned : Pinned := { name := "ythimfpkkdhpceaadoor", sum := "b194eed3d8b527893761ed81bd01b317c53c230f590e8257439c2165fe675535", checked := Tryd.checked }
namespace Rows
def none {H : Type} : Left H := { results := [], args := [] }

/- WHAT THE LISTED PACKAGE-LEVEL VARIABLES READ AS WHEN THE CALL BEGINS. Each datum BY PROGRAM (the guide's laid-datum.mjs) off the statement by which the dump's own 'gosem.cut.vars' lays the variable. In a bare row this is a premise. The card (YthimfpkkdhpceaaDoorCards.lean) ties it to the program's text. -/
def laid_errors_errorType {H : Type} : DataW H := .iface "internal/reflectlite.rtype" (.agg [.ptr (.lit (.string [101, 114, 114, 111, 114]))])

/-- 'platelayerlaw06.CkptTells': WHATEVER THE INPUT: true; the input reads as it did. -/
def ckptTellsSpec : ChangeSpec := { name := "ckptTells", fn := fun _ => fun
  | [d1, d2, d3] => { results := [.lit (.bool true)], args := [d1, d2, d3] }
  | _ => none }
def ckptTellsRow : OpenClaim := { program := "ythimfpkkdhpceaadoor", sum := "b194eed3d8b527893761ed81bd01b317c53c230f590e8257439c2165fe675535", func := "platelayer/platelayerlaw06.CkptTells", spec := "ckptTells", inPlace := ["internal/reflectlite.ValueOf", "(internal/reflectlite.Value).Type", "(internal/reflectlite.Value).IsNil", "internal/reflectlite.TypeOf", "(internal/reflectlite.Value).Elem", "(internal/reflectlite.Value).Set"], unfollowed := true, recurses := true, named := ["errors.errorType"], apart := false, laid := [("errors.errorType", laid_errors_errorType)] }
def CkptTellsSaid : Prop := ckptTellsRow.holds Tryd.pinned (OpenSpec.ofChange ckptTellsSpec)

/-- ITS FALSE NEIGHBOUR: 'it returns false'. Refute it at one input. -/
def ckptTellsWrong : ChangeSpec := { name := "ckptTells", fn := fun _ => fun
  | [d1, d2, d3] => { results := [.lit (.bool false)], args := [d1, d2, d3] }
  | _ => none }
def CkptTellsWrongFalsely : Prop := ckptTellsRow.holds Tryd.pinned (OpenSpec.ofChange ckptTellsWrong)

/-- 'platelayerlaw06.CkptBack': WHATEVER THE INPUT: true; the input reads as it did. -/
def ckptBackSpec : ChangeSpec := { name := "ckptBack", fn := fun _ => fun
  | [d1, d2] => { results := [.lit (.bool true)], args := [d1, d2] }
  | _ => none }
def ckptBackRow : OpenClaim := { program := "ythimfpkkdhpceaadoor", sum := "b194eed3d8b527893761ed81bd01b317c53c230f590e8257439c2165fe675535", func := "platelayer/platelayerlaw06.CkptBack", spec := "ckptBack", inPlace := ["internal/reflectlite.ValueOf", "(internal/reflectlite.Value).Type", "(internal/reflectlite.Value).IsNil", "internal/reflectlite.TypeOf", "(internal/reflectlite.Value).Elem", "(internal/reflectlite.Value).Set"], unfollowed := true, recurses := true, named := ["errors.errorType"], apart := false, laid := [("errors.errorType", laid_errors_errorType)] }
def CkptBackSaid : Prop := ckptBackRow.holds Tryd.pinned (OpenSpec.ofChange ckptBackSpec)

/-- ITS FALSE NEIGHBOUR: 'it returns false'. Refute it at one input. -/
def ckptBackWrong : ChangeSpec := { name := "ckptBack", fn := fun _ => fun
  | [d1, d2] => { results := [.lit (.bool false)], args := [d1, d2] }
  | _ => none }
def CkptBackWrongFalsely : Prop := ckptBackRow.holds Tryd.pinned (OpenSpec.ofChange ckptBackWrong)

/-- 'platelayerlaw06.CkptChanged': WHATEVER THE INPUT: true; the input reads as it did. -/
def ckptChangedSpec : ChangeSpec := { name := "ckptChanged", fn := fun _ => fun
  | [d1, d2, d3, d4] => { results := [.lit (.bool true)], args := [d1, d2, d3, d4] }
  | _ => none }
def ckptChangedRow : OpenClaim := { program := "ythimfpkkdhpceaadoor", sum := "b194eed3d8b527893761ed81bd01b317c53c230f590e8257439c2165fe675535", func := "platelayer/platelayerlaw06.CkptChanged", spec := "ckptChanged", inPlace := ["internal/reflectlite.ValueOf", "(internal/reflectlite.Value).Type", "(internal/reflectlite.Value).IsNil", "internal/reflectlite.TypeOf", "(internal/reflectlite.Value).Elem", "(internal/reflectlite.Value).Set"], unfollowed := true, recurses := true, named := ["errors.errorType"], apart := false, laid := [("errors.errorType", laid_errors_errorType)] }
def CkptChangedSaid : Prop := ckptChangedRow.holds Tryd.pinned (OpenSpec.ofChange ckptChangedSpec)

/-- ITS FALSE NEIGHBOUR: 'it returns false'. Refute it at one input. -/
def ckptChangedWrong : ChangeSpec := { name := "ckptChanged", fn := fun _ => fun
  | [d1, d2, d3, d4] => { results := [.lit (.bool false)], args := [d1, d2, d3, d4] }
  | _ => none }
def CkptChangedWrongFalsely : Prop := ckptChangedRow.holds Tryd.pinned (OpenSpec.ofChange ckptChangedWrong)

/-- 'platelayerlaw06.CkptAlike': WHATEVER THE INPUT: true; the input reads as it did. -/
def ckptAlikeSpec : ChangeSpec := { name := "ckptAlike", fn := fun _ => fun
  | [d1, d2] => { results := [.lit (.bool true)], args := [d1, d2] }
  | _ => none }
def ckptAlikeRow : OpenClaim := { program := "ythimfpkkdhpceaadoor", sum := "b194eed3d8b527893761ed81bd01b317c53c230f590e8257439c2165fe675535", func := "platelayer/platelayerlaw06.CkptAlike", spec := "ckptAlike", inPlace := ["internal/reflectlite.ValueOf", "(internal/reflectlite.Value).Type", "(internal/reflectlite.Value).IsNil", "internal/reflectlite.TypeOf", "(internal/reflectlite.Value).Elem", "(internal/reflectlite.Value).Set"], unfollowed := true, recurses := true, named := ["errors.errorType"], apart := false, laid := [("errors.errorType", laid_errors_errorType)] }
def CkptAlikeSaid : Prop := ckptAlikeRow.holds Tryd.pinned (OpenSpec.ofChange ckptAlikeSpec)

/-- ITS FALSE NEIGHBOUR: 'it returns false'. Refute it at one input. -/
def ckptAlikeWrong : ChangeSpec := { name := "ckptAlike", fn := fun _ => fun
  | [d1, d2] => { results := [.lit (.bool false)], args := [d1, d2] }
  | _ => none }
def CkptAlikeWrongFalsely : Prop := ckptAlikeRow.holds Tryd.pinned (OpenSpec.ofChange ckptAlikeWrong)

/-- 'platelayerlaw17.DirBack': WHATEVER THE INPUT: true; the input reads as it did. -/
def dirBackSpec : ChangeSpec := { name := "dirBack", fn := fun _ => fun
  | [d1, d2, d3, d4] => { results := [.lit (.bool true)], args := [d1, d2, d3, d4] }
  | _ => none }
def dirBackRow : OpenClaim := { program := "ythimfpkkdhpceaadoor", sum := "b194eed3d8b527893761ed81bd01b317c53c230f590e8257439c2165fe675535", func := "platelayer/platelayerlaw17.DirBack", spec := "dirBack", inPlace := ["internal/reflectlite.TypeOf", "internal/reflectlite.ValueOf", "(internal/reflectlite.Value).Type", "(internal/reflectlite.Value).IsNil", "(internal/reflectlite.Value).Elem", "(internal/reflectlite.Value).Set"], unfollowed := true, recurses := true, named := ["errors.errorType"], apart := false, laid := [("errors.errorType", laid_errors_errorType)] }
def DirBackSaid : Prop := dirBackRow.holds Tryd.pinned (OpenSpec.ofChange dirBackSpec)

/-- ITS FALSE NEIGHBOUR: 'it returns false'. Refute it at one input. -/
def dirBackWrong : ChangeSpec := { name := "dirBack", fn := fun _ => fun
  | [d1, d2, d3, d4] => { results := [.lit (.bool false)], args := [d1, d2, d3, d4] }
  | _ => none }
def DirBackWrongFalsely : Prop := dirBackRow.holds Tryd.pinned (OpenSpec.ofChange dirBackWrong)

/-- 'platelayerlaw15.SlotOther': WHATEVER THE INPUT: true; the input reads as it did. -/
def slotOtherSpec : ChangeSpec := { name := "slotOther", fn := fun _ => fun
  | [d1, d2] => { results := [.lit (.bool true)], args := [d1, d2] }
  | _ => none }
def slotOtherRow : OpenClaim := { program := "ythimfpkkdhpceaadoor", sum := "b194eed3d8b527893761ed81bd01b317c53c230f590e8257439c2165fe675535", func := "platelayer/platelayerlaw15.SlotOther", spec := "slotOther", inPlace := ["internal/reflectlite.TypeOf", "internal/reflectlite.ValueOf", "(internal/reflectlite.Value).Type", "(internal/reflectlite.Value).IsNil", "(internal/reflectlite.Value).Elem", "(internal/reflectlite.Value).Set"], unfollowed := true, recurses := true, named := ["errors.errorType"], apart := false, laid := [("errors.errorType", laid_errors_errorType)] }
def SlotOtherSaid : Prop := slotOtherRow.holds Tryd.pinned (OpenSpec.ofChange slotOtherSpec)

/-- ITS FALSE NEIGHBOUR: 'it returns false'. Refute it at one input. -/
def slotOtherWrong : ChangeSpec := { name := "slotOther", fn := fun _ => fun
  | [d1, d2] => { results := [.lit (.bool false)], args := [d1, d2] }
  | _ => none }
def SlotOtherWrongFalsely : Prop := slotOtherRow.holds Tryd.pinned (OpenSpec.ofChange slotOtherWrong)

/- THE SECOND FORM. 'bulk': how many values and letters a reading holds, each counted each time it is reached (what is shared counts as often as it is met; a slice's spare places count too). A statement '..UptoSaid' is the law's where the arguments, and the package variables that the reading takes, are together of bulk at most 1048576: NARROWER than '..Said'. Prove '..Said' where nothing that the law and all that it calls make is longer than what came in: it says more and counts as full. Else prove '..UptoSaid'. A law counts once. -/
mutual
def uptoBulk {H : Type} : DataW H → Nat
  | .lit (.string bytes) => bytes.length + 1
  | .lit _ => 1
  | .nil => 1
  | .ptr d => uptoBulk d + 1
  | .slice elems spare => uptoBulkAll elems + uptoBulkAll spare + 1
  | .agg parts => uptoBulkAll parts + 1
  | .iface _ d => uptoBulk d + 1
  | .map entries => uptoBulkEntries entries + 1
  | .held _ => 1
def uptoBulkAll {H : Type} : List (DataW H) → Nat
  | [] => 0
  | d :: r => uptoBulk d + uptoBulkAll r
def uptoBulkEntries {H : Type} : List (Lit × DataW H) → Nat
  | [] => 0
  | x :: r => uptoBulkEntry x + uptoBulkEntries r
def uptoBulkEntry {H : Type} : Lit × DataW H → Nat
  | (.string bytes, d) => bytes.length + uptoBulk d + 1
  | (_, d) => uptoBulk d + 1
 end
def uptoSmall : (H : Type) → List (DataW H) → Bool := fun _ ds => decide (uptoBulkAll ds ≤ 1048576)
def OpenSpec.upto (s : _root_.Go.ChangeSpec) : _root_.Go.OpenSpec := { _root_.Go.OpenSpec.ofChange s with cond := some uptoSmall }

/-- 'platelayerlaw06.CkptTells', WHERE WHAT IT READS IS OF BULK AT MOST 1048576: true; the input reads as it did. -/
def ckptTellsUptoRow : OpenClaim := { program := "ythimfpkkdhpceaadoor", sum := "b194eed3d8b527893761ed81bd01b317c53c230f590e8257439c2165fe675535", func := "platelayer/platelayerlaw06.CkptTells", spec := "ckptTells", inPlace := ["internal/reflectlite.ValueOf", "(internal/reflectlite.Value).Type", "(internal/reflectlite.Value).IsNil", "internal/reflectlite.TypeOf", "(internal/reflectlite.Value).Elem", "(internal/reflectlite.Value).Set"], unfollowed := true, recurses := true, named := ["errors.errorType"], apart := false, laid := [("errors.errorType", laid_errors_errorType)], narrowed := true }
def CkptTellsUptoSaid : Prop := ckptTellsUptoRow.holds Tryd.pinned (OpenSpec.upto ckptTellsSpec)

/-- 'platelayerlaw06.CkptBack', WHERE WHAT IT READS IS OF BULK AT MOST 1048576: true; the input reads as it did. -/
def ckptBackUptoRow : OpenClaim := { program := "ythimfpkkdhpceaadoor", sum := "b194eed3d8b527893761ed81bd01b317c53c230f590e8257439c2165fe675535", func := "platelayer/platelayerlaw06.CkptBack", spec := "ckptBack", inPlace := ["internal/reflectlite.ValueOf", "(internal/reflectlite.Value).Type", "(internal/reflectlite.Value).IsNil", "internal/reflectlite.TypeOf", "(internal/reflectlite.Value).Elem", "(internal/reflectlite.Value).Set"], unfollowed := true, recurses := true, named := ["errors.errorType"], apart := false, laid := [("errors.errorType", laid_errors_errorType)], narrowed := true }
def CkptBackUptoSaid : Prop := ckptBackUptoRow.holds Tryd.pinned (OpenSpec.upto ckptBackSpec)

/-- 'platelayerlaw06.CkptChanged', WHERE WHAT IT READS IS OF BULK AT MOST 1048576: true; the input reads as it did. -/
def ckptChangedUptoRow : OpenClaim := { program := "ythimfpkkdhpceaadoor", sum := "b194eed3d8b527893761ed81bd01b317c53c230f590e8257439c2165fe675535", func := "platelayer/platelayerlaw06.CkptChanged", spec := "ckptChanged", inPlace := ["internal/reflectlite.ValueOf", "(internal/reflectlite.Value).Type", "(internal/reflectlite.Value).IsNil", "internal/reflectlite.TypeOf", "(internal/reflectlite.Value).Elem", "(internal/reflectlite.Value).Set"], unfollowed := true, recurses := true, named := ["errors.errorType"], apart := false, laid := [("errors.errorType", laid_errors_errorType)], narrowed := true }
def CkptChangedUptoSaid : Prop := ckptChangedUptoRow.holds Tryd.pinned (OpenSpec.upto ckptChangedSpec)

/-- 'platelayerlaw06.CkptAlike', WHERE WHAT IT READS IS OF BULK AT MOST 1048576: true; the input reads as it did. -/
def ckptAlikeUptoRow : OpenClaim := { program := "ythimfpkkdhpceaadoor", sum := "b194eed3d8b527893761ed81bd01b317c53c230f590e8257439c2165fe675535", func := "platelayer/platelayerlaw06.CkptAlike", spec := "ckptAlike", inPlace := ["internal/reflectlite.ValueOf", "(internal/reflectlite.Value).Type", "(internal/reflectlite.Value).IsNil", "internal/reflectlite.TypeOf", "(internal/reflectlite.Value).Elem", "(internal/reflectlite.Value).Set"], unfollowed := true, recurses := true, named := ["errors.errorType"], apart := false, laid := [("errors.errorType", laid_errors_errorType)], narrowed := true }
def CkptAlikeUptoSaid : Prop := ckptAlikeUptoRow.holds Tryd.pinned (OpenSpec.upto ckptAlikeSpec)

/-- 'platelayerlaw17.DirBack', WHERE WHAT IT READS IS OF BULK AT MOST 1048576: true; the input reads as it did. -/
def dirBackUptoRow : OpenClaim := { program := "ythimfpkkdhpceaadoor", sum := "b194eed3d8b527893761ed81bd01b317c53c230f590e8257439c2165fe675535", func := "platelayer/platelayerlaw17.DirBack", spec := "dirBack", inPlace := ["internal/reflectlite.TypeOf", "internal/reflectlite.ValueOf", "(internal/reflectlite.Value).Type", "(internal/reflectlite.Value).IsNil", "(internal/reflectlite.Value).Elem", "(internal/reflectlite.Value).Set"], unfollowed := true, recurses := true, named := ["errors.errorType"], apart := false, laid := [("errors.errorType", laid_errors_errorType)], narrowed := true }
def DirBackUptoSaid : Prop := dirBackUptoRow.holds Tryd.pinned (OpenSpec.upto dirBackSpec)

/-- 'platelayerlaw15.SlotOther', WHERE WHAT IT READS IS OF BULK AT MOST 1048576: true; the input reads as it did. -/
def slotOtherUptoRow : OpenClaim := { program := "ythimfpkkdhpceaadoor", sum := "b194eed3d8b527893761ed81bd01b317c53c230f590e8257439c2165fe675535", func := "platelayer/platelayerlaw15.SlotOther", spec := "slotOther", inPlace := ["internal/reflectlite.TypeOf", "internal/reflectlite.ValueOf", "(internal/reflectlite.Value).Type", "(internal/reflectlite.Value).IsNil", "(internal/reflectlite.Value).Elem", "(internal/reflectlite.Value).Set"], unfollowed := true, recurses := true, named := ["errors.errorType"], apart := false, laid := [("errors.errorType", laid_errors_errorType)], narrowed := true }
def SlotOtherUptoSaid : Prop := slotOtherUptoRow.holds Tryd.pinned (OpenSpec.upto slotOtherSpec)

end Rows
end Go.Proofs.YthimfpkkdhpceaaDoor
