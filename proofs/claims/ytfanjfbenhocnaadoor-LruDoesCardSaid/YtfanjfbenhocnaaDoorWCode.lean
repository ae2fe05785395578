/-
  The formula of fault.Code. Each formula checked by the kernel. Printed by a program of this repo.
-/
import Derived.Test.YtfanjfbenhocnaaDoorProg
import Derived.Test.YtfanjfbenhocnaaDoorPl
namespace Go.Proofs.YtfanjfbenhocnaaDoor.W
open Go.Pl

-- function 8
set_option maxRecDepth 100000 in
def F8 (err_0 : Value) (K : Value → Heap → Prop) (h0 : Heap) : Prop := (
  newW (.cells (zeroC Tryd.prog 30) 30) (fun a1 h2 =>
  callT Tryd.prog 32 [err_0, .iface 73 (.pointer (some a1))] [.sc .bool] (fun (r3 : Bool) h4 =>
  br r3
  (ldW (.int .i64) a1 (fun (x5 : Int) =>
  K (.int .i64 x5) h4) h4)
  (K (.int .i64 0) h4)) h2) h0)
set_option maxRecDepth 100000 in
theorem F8_eq (err_0 : Value) (K : Value → Heap → Prop) (h0 : Heap) : funWE Tryd.prog 8 (.seq (.leaf) (.seq (.leaf) (.seq (.seq (.leaf) (.cond (.seq (.leaf) (.leaf)) (.leaf))) (.seq (.leaf) (.leaf))))) [err_0] K h0 = F8 err_0 K h0 := by kernel_rfl

end Go.Proofs.YtfanjfbenhocnaaDoor.W
