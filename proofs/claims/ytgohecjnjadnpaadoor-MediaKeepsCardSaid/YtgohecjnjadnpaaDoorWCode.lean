/-
  The formula of fault.Code. Each formula checked by the kernel. Printed by a program of this repo.
-/
import Derived.Test.YtgohecjnjadnpaaDoorProg
import Derived.Test.YtgohecjnjadnpaaDoorPl
namespace Go.Proofs.YtgohecjnjadnpaaDoor.W
open Go.Pl

-- function 20
set_option maxRecDepth 100000 in
def F20 (err_0 : Value) (K : Value → Heap → Prop) (h0 : Heap) : Prop := (
  newW (.cells (zeroC Tryd.prog 31) 31) (fun a1 h2 =>
  callT Tryd.prog 62 [err_0, .iface 120 (.pointer (some a1))] [.sc .bool] (fun (r3 : Bool) h4 =>
  br r3
  (ldW (.int .i64) a1 (fun (x5 : Int) =>
  K (.int .i64 x5) h4) h4)
  (K (.int .i64 0) h4)) h2) h0)
set_option maxRecDepth 100000 in
theorem F20_eq (err_0 : Value) (K : Value → Heap → Prop) (h0 : Heap) : funWE Tryd.prog 20 (.seq (.leaf) (.seq (.leaf) (.seq (.seq (.leaf) (.cond (.seq (.leaf) (.leaf)) (.leaf))) (.seq (.leaf) (.leaf))))) [err_0] K h0 = F20 err_0 K h0 := by kernel_rfl

end Go.Proofs.YtgohecjnjadnpaaDoor.W
