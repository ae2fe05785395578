/-
  The formulas of package fault: Wrap and Unwrap. Each formula checked by the kernel. Printed by a program of this repo.
-/
import Derived.Test.YtgohecjnjadnpaaDoorProg
import Derived.Test.YtgohecjnjadnpaaDoorPl
namespace Go.Proofs.YtgohecjnjadnpaaDoor.W
open Go.Pl

-- function 86
set_option maxRecDepth 100000 in
def F86 (op_0 : ByteArray) (at_1 : Int) (err_2 : Value) (K : Value → Heap → Prop) (h0 : Heap) : Prop := (
  cutT [] (fun (K1 : Unit → Heap → Prop) h7 =>
  ifW err_2 (br (isNilV err_2)
  (K (.nilIface) h7)
  (cutT [.sc .bool, .sc (.int .i64)] (fun (K2 : (Bool × Int) → Heap → Prop) h4 =>
  asW (.sc (.int .i64)) err_2 31 (fun (x3 : Int) =>
  K2 (true, x3) h4) (K2 (false, (0 : Int)) h4)) (fun (s5 : Bool × Int) _ h6 =>
  br s5.1
  (br (s5.2 == (0 : Int))
  (K (.nilIface) h6)
  (K1 () h6))
  (K1 () h6)) h7))) (fun (_s8 : Unit) _ h9 =>
  buildA Tryd.prog 177 [.str, .int .i64, .any] [(0, .string op_0), (1, .int .i64 at_1), (2, err_2)] (fun (x10 : ByteArray × Int × Value) =>
  newW (.cells #[.string x10.1, .int .i64 x10.2.1, x10.2.2] 177) (fun a11 h12 =>
  K (.iface 175 (.pointer (some a11))) h12) h9)) h0)
set_option maxRecDepth 100000 in
theorem F86_eq (op_0 : ByteArray) (at_1 : Int) (err_2 : Value) (K : Value → Heap → Prop) (h0 : Heap) : funWE Tryd.prog 86 (.seq (.leaf) (.cut [] (.seq (.leaf) (.block (.seq (.leaf) (.cond (.seq (.leaf) (.seq (.leaf) (.leaf))) (.cut [(12, .sc .bool), (13, .sc (.int .i64))] (.leaf) (.cond (.seq (.leaf) (.seq (.leaf) (.cond (.seq (.leaf) (.leaf)) (.leaf)))) (.leaf))))))) (.seq (.leaf) (.leaf)))) [.string op_0, .int .i64 at_1, err_2] K h0 = F86 op_0 at_1 err_2 K h0 := by kernel_rfl

-- function 133
set_option maxRecDepth 100000 in
def F133 (f_0 : Addr) (K : Value → Heap → Prop) (h0 : Heap) : Prop := (
  ldW .any (Addr.add f_0 2) (fun (x1 : Value) =>
  K (x1) h0) h0)
set_option maxRecDepth 100000 in
theorem F133_eq (f_0 : Addr) (K : Value → Heap → Prop) (h0 : Heap) : funWE Tryd.prog 133 (.seq (.leaf) (.seq (.leaf) (.leaf))) [.pointer (some f_0)] K h0 = F133 f_0 K h0 := by kernel_rfl

end Go.Proofs.YtgohecjnjadnpaaDoor.W
