/-
  The formulas of the reference of fault. Each formula checked by the kernel. Printed by a program of this repo.
-/
import Derived.Test.YtogeildomhahjaaDoorProg
import Derived.Test.YtogeildomhahjaaDoorPl
namespace Go.Proofs.YtogeildomhahjaaDoor.W
open Go.Pl

-- function 49
set_option maxRecDepth 100000 in
def F49 (op_0 : ByteArray) (at_1 : Int) (f_2_0 : Option Addr) (f_2_0l f_2_0c : Nat) (f_2_1 : Int) (K : Value → Heap → Prop) (h0 : Heap) : Prop := (
  newW (.cells #[.slice f_2_0 f_2_0l f_2_0c, .int .i64 f_2_1] 74) (fun a1 h2 =>
  newW (.cells (zeroC Tryd.prog 74) 74) (fun a3 h4 =>
  ldW (.int .i64) (Addr.add a1 1) (fun (x5 : Int) =>
  br (x5 == (0 : Int))
  (stLW a3 [.slice none 0 0, .int .i64 0] (fun h6 =>
  ldAggW [.slice, .int .i64] a3 (fun (x7 : (Option Addr × Nat × Nat) × Int) =>
  K (.agg #[.slice x7.1.1 x7.1.2.1 x7.1.2.2, .int .i64 x7.2]) h6) h6) h4)
  (ldW .slice (Addr.add a1 0) (fun (x8 : Option Addr × Nat × Nat) =>
  ldW (.int .i64) (Addr.add a1 1) (fun (x9 : Int) =>
  newW (.cells #[.string op_0, .int .i64 at_1] 107) (fun a10 h11 =>
  apW Tryd.prog #[72, 72] #[.slice (some a10) 1 1, .slice x8.1 x8.2.1 x8.2.2] (fun b12 n13 c14 h15 =>
  (cellH h15 (Addr.add a1 1) = some (.int .i64 x9) ∧ stLW a3 [.slice b12 n13 c14, .int .i64 x9] (fun h16 =>
  (cellH h16 (Addr.add a1 1) = some (.int .i64 x9) ∧ ldAggW [.slice, .int .i64] a3 (fun (x17 : (Option Addr × Nat × Nat) × Int) =>
  K (.agg #[.slice x17.1.1 x17.1.2.1 x17.1.2.2, .int .i64 x17.2]) h16) h16)) h15)) h11) h4) h4) h4)) h4) h2) h0)
set_option maxRecDepth 100000 in
theorem F49_eq (op_0 : ByteArray) (at_1 : Int) (f_2_0 : Option Addr) (f_2_0l f_2_0c : Nat) (f_2_1 : Int) (K : Value → Heap → Prop) (h0 : Heap) : funWE Tryd.prog 49 (.seq (.leaf) (.seq (.seq (.leaf) (.cond (.seq (.leaf) (.leaf)) (.leaf))) (.seq (.draw [0, 1, 2, 4, 5, 7, 8, 3, 6, 9, 10] [200008]) (.leaf)))) [.string op_0, .int .i64 at_1, .agg #[.slice f_2_0 f_2_0l f_2_0c, .int .i64 f_2_1]] K h0 = F49 op_0 at_1 f_2_0 f_2_0l f_2_0c f_2_1 K h0 := by kernel_rfl

-- function 43
set_option maxRecDepth 100000 in
def F43 (f_0_0 : Option Addr) (f_0_0l f_0_0c : Nat) (f_0_1 : Int) (K : Value → Heap → Prop) (h0 : Heap) : Prop := (
  newW (.cells #[.slice f_0_0 f_0_0l f_0_0c, .int .i64 f_0_1] 74) (fun a1 h2 =>
  newW (.cells #[] 9) (fun a3 h4 =>
  loopT [.sc .slice, .sc (.int .i64)] (fun (s6 : (Option Addr × Nat × Nat) × Int) _ (K5 : ((Option Addr × Nat × Nat) × Int) → Heap → Prop) h7 =>
  ldW .slice (Addr.add a1 0) (fun (x8 : Option Addr × Nat × Nat) =>
  br (decide (s6.2 < (((x8.2.1 : Nat) : Int))))
  (ldW .slice (Addr.add a1 0) (fun (x9 : Option Addr × Nat × Nat) =>
  ptrW x9.1 (fun a10 =>
  idxW s6.2 x9.2.1 true (ldW .str (Addr.add (Addr.add a10 (Int.toNat s6.2 * 2)) 0) (fun (x11 : ByteArray) =>
  newW (.cells #[.string x11] 9) (fun a12 h13 =>
  apW Tryd.prog #[81, 81] #[.slice s6.1.1 s6.1.2.1 s6.1.2.2, .slice (some a12) 1 1] (fun b14 n15 c16 h17 =>
  K5 ((b14, n15, c16), (IntKind.wrap .i64 (s6.2 + (1 : Int)))) h17) h13) h7) h7))) h7)
  (K (.slice s6.1.1 s6.1.2.1 s6.1.2.2) h7)) h7) (((some a3), 0, 0), (0 : Int)) h4) h2) h0)
set_option maxRecDepth 100000 in
theorem F43_eq (f_0_0 : Option Addr) (f_0_0l f_0_0c : Nat) (f_0_1 : Int) (K : Value → Heap → Prop) (h0 : Heap) : funWE Tryd.prog 43 (.seq (.leaf) (.seq (.leaf) (.seq (.seq (.leaf) (.block (.loop [(3, .sc .slice), (4, .sc (.int .i64))] (.seq (.seq (.leaf) (.cond (.leaf) (.leaf))) (.seq (.block (.leaf)) (.leaf)))))) (.seq (.leaf) (.leaf))))) [.agg #[.slice f_0_0 f_0_0l f_0_0c, .int .i64 f_0_1]] K h0 = F43 f_0_0 f_0_0l f_0_0c f_0_1 K h0 := by kernel_rfl

-- function 40
set_option maxRecDepth 100000 in
def F40 (f_0_0 : Option Addr) (f_0_0l f_0_0c : Nat) (f_0_1 : Int) (op_1 : ByteArray) (K : Value → Heap → Prop) (h0 : Heap) : Prop := (
  newW (.cells #[.slice f_0_0 f_0_0l f_0_0c, .int .i64 f_0_1] 74) (fun a1 h2 =>
  loopT [.sc (.int .i64)] (fun (s4 : Int) _ (K3 : Int → Heap → Prop) h5 =>
  ldW .slice (Addr.add a1 0) (fun (x6 : Option Addr × Nat × Nat) =>
  br (decide (s4 < (((x6.2.1 : Nat) : Int))))
  (ldW .slice (Addr.add a1 0) (fun (x7 : Option Addr × Nat × Nat) =>
  ptrW x7.1 (fun a8 =>
  idxW s4 x7.2.1 true (ldW .str (Addr.add (Addr.add a8 (Int.toNat s4 * 2)) 0) (fun (x9 : ByteArray) =>
  br (x9.toList == op_1.toList)
  (ldW .slice (Addr.add a1 0) (fun (x10 : Option Addr × Nat × Nat) =>
  ptrW x10.1 (fun a11 =>
  idxW s4 x10.2.1 true (ldW (.int .i64) (Addr.add (Addr.add a11 (Int.toNat s4 * 2)) 1) (fun (x12 : Int) =>
  K (.tuple #[.int .i64 x12, .bool true]) h5) h5))) h5)
  (K3 (IntKind.wrap .i64 (s4 + (1 : Int))) h5)) h5))) h5)
  (K (.tuple #[.int .i64 0, .bool false]) h5)) h5) (0 : Int) h2) h0)
set_option maxRecDepth 100000 in
theorem F40_eq (f_0_0 : Option Addr) (f_0_0l f_0_0c : Nat) (f_0_1 : Int) (op_1 : ByteArray) (K : Value → Heap → Prop) (h0 : Heap) : funWE Tryd.prog 40 (.seq (.leaf) (.seq (.seq (.leaf) (.block (.loop [(6, .sc (.int .i64))] (.seq (.seq (.leaf) (.cond (.leaf) (.leaf))) (.seq (.block (.seq (.leaf) (.cond (.seq (.leaf) (.leaf)) (.leaf)))) (.leaf)))))) (.seq (.leaf) (.leaf)))) [.agg #[.slice f_0_0 f_0_0l f_0_0c, .int .i64 f_0_1], .string op_1] K h0 = F40 f_0_0 f_0_0l f_0_0c f_0_1 op_1 K h0 := by kernel_rfl

-- function 41
set_option maxRecDepth 100000 in
def F41 (a_0 : Option Addr) (a_0l _a_0c : Nat) (b_1 : Option Addr) (b_1l _b_1c : Nat) (K : Value → Heap → Prop) (h0 : Heap) : Prop := (
  br ((((a_0l : Nat) : Int)) != (((b_1l : Nat) : Int)))
  (K (.bool false) h0)
  (loopT [.sc (.int .i64)] (fun (s2 : Int) _ (K1 : Int → Heap → Prop) h3 =>
  br (decide (s2 < (((a_0l : Nat) : Int))))
  (ptrW a_0 (fun a4 =>
  idxW s2 a_0l true (ldW .str (Addr.add a4 (Int.toNat s2 * 1)) (fun (x5 : ByteArray) =>
  ptrW b_1 (fun a6 =>
  idxW s2 b_1l true (ldW .str (Addr.add a6 (Int.toNat s2 * 1)) (fun (x7 : ByteArray) =>
  br (!(x5.toList == x7.toList))
  (K (.bool false) h3)
  (K1 (IntKind.wrap .i64 (s2 + (1 : Int))) h3)) h3))) h3)))
  (K (.bool true) h3)) (0 : Int) h0))
set_option maxRecDepth 100000 in
theorem F41_eq (a_0 : Option Addr) (a_0l a_0c : Nat) (b_1 : Option Addr) (b_1l b_1c : Nat) (K : Value → Heap → Prop) (h0 : Heap) : funWE Tryd.prog 41 (.seq (.leaf) (.seq (.seq (.leaf) (.cond (.seq (.leaf) (.leaf)) (.leaf))) (.seq (.seq (.leaf) (.block (.loop [(5, .sc (.int .i64))] (.seq (.seq (.leaf) (.cond (.leaf) (.leaf))) (.seq (.block (.seq (.draw [0, 1, 2, 3, 4, 5, 6, 7, 8] []) (.cond (.seq (.leaf) (.leaf)) (.leaf)))) (.leaf)))))) (.seq (.leaf) (.leaf))))) [.slice a_0 a_0l a_0c, .slice b_1 b_1l b_1c] K h0 = F41 a_0 a_0l a_0c b_1 b_1l b_1c K h0 := by kernel_rfl

end Go.Proofs.YtogeildomhahjaaDoor.W
