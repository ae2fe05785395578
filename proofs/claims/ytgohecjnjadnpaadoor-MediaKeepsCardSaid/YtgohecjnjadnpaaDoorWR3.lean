/-
  The formula of the comparison of two rows of bytes. Each formula checked by the kernel. Printed by a program of this repo.
-/
import Derived.Test.YtgohecjnjadnpaaDoorProg
import Derived.Test.YtgohecjnjadnpaaDoorPl
namespace Go.Proofs.YtgohecjnjadnpaaDoor.W
open Go.Pl

-- function 19
set_option maxRecDepth 100000 in
def F19 (a_0 : Option Addr) (a_0l _a_0c : Nat) (b_1 : Option Addr) (b_1l _b_1c : Nat) (K : Value → Heap → Prop) (h0 : Heap) : Prop := (
  br ((((a_0l : Nat) : Int)) != (((b_1l : Nat) : Int)))
  (K (.bool false) h0)
  (loopT [.sc (.int .i64)] (fun (s2 : Int) _ (K1 : Int → Heap → Prop) h3 =>
  br (decide (s2 < (((a_0l : Nat) : Int))))
  (ptrW a_0 (fun a4 =>
  idxW s2 a_0l true (ldW (.int .u8) (Addr.add a4 (Int.toNat s2 * 1)) (fun (x5 : Int) =>
  ptrW b_1 (fun a6 =>
  idxW s2 b_1l true (ldW (.int .u8) (Addr.add a6 (Int.toNat s2 * 1)) (fun (x7 : Int) =>
  br (x5 != x7)
  (K (.bool false) h3)
  (K1 (IntKind.wrap .i64 (s2 + (1 : Int))) h3)) h3))) h3)))
  (K (.bool true) h3)) (0 : Int) h0))
set_option maxRecDepth 100000 in
theorem F19_eq (a_0 : Option Addr) (a_0l a_0c : Nat) (b_1 : Option Addr) (b_1l b_1c : Nat) (K : Value → Heap → Prop) (h0 : Heap) : funWE Tryd.prog 19 (.seq (.leaf) (.seq (.seq (.leaf) (.cond (.seq (.leaf) (.leaf)) (.leaf))) (.seq (.seq (.leaf) (.block (.loop [(5, .sc (.int .i64))] (.seq (.seq (.leaf) (.cond (.leaf) (.leaf))) (.seq (.block (.seq (.draw (odp [0, 1, 2, 3, 4, 5, 6, 7, 8] .nil) []) (.cond (.seq (.leaf) (.leaf)) (.leaf)))) (.leaf)))))) (.seq (.leaf) (.leaf))))) [.slice a_0 a_0l a_0c, .slice b_1 b_1l b_1c] K h0 = F19 a_0 a_0l a_0c b_1 b_1l b_1c K h0 := by kernel_rfl

end Go.Proofs.YtgohecjnjadnpaaDoor.W
