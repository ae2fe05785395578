/-
  The formulas of package body. Each formula checked by the kernel. Printed by a program of this repo.
-/
import Derived.Test.YtogeildomhahjaaDoorProg
import Derived.Test.YtogeildomhahjaaDoorPl
namespace Go.Proofs.YtogeildomhahjaaDoor.W
open Go.Pl

-- function 18
set_option maxRecDepth 100000 in
def F18 (l_0_0 : Int) (l_0_1 : Int) (l_0_2 : Int) (l_0_3 : Int) (K : Value → Heap → Prop) (h0 : Heap) : Prop := (
  newW (.cells #[.int .u32 l_0_0, .int .u32 l_0_1, .int .u32 l_0_2, .int .u32 l_0_3] 24) (fun a1 h2 =>
  mkW Tryd.prog 5 (16 : Int) (16 : Int) (fun b3 n4 c5 h6 =>
  loopT [.sc (.int .i64)] (fun (s8 : Int) _ (K7 : Int → Heap → Prop) h9 =>
  br (decide (s8 < (16 : Int)))
  (idxW (IntKind.wrap .i64 (Int.tdiv s8 (4 : Int))) 4 true (ldW (.int .u32) (Addr.add a1 (Int.toNat (IntKind.wrap .i64 (Int.tdiv s8 (4 : Int))) * 1)) (fun (x10 : Int) =>
  ckB (decide (0 ≤ (IntKind.wrap .i64 ((8 : Int) * (Int.tmod s8 (4 : Int)))))) (ptrW b3 (fun a11 =>
  idxW s8 n4 true (stW (Addr.add a11 (Int.toNat s8 * 1)) (.int .u8 (IntKind.wrap .u8 (Int.fdiv x10 (2 ^ (min ((IntKind.wrap .i64 ((8 : Int) * (Int.tmod s8 (4 : Int))))).toNat 32))))) (fun h12 =>
  K7 (IntKind.wrap .i64 (s8 + (1 : Int))) h12) h9)))) h9))
  (K (.slice b3 n4 c5) h9)) (0 : Int) h6) h2) h0)
set_option maxRecDepth 100000 in
theorem F18_eq (l_0_0 : Int) (l_0_1 : Int) (l_0_2 : Int) (l_0_3 : Int) (K : Value → Heap → Prop) (h0 : Heap) : funWE Tryd.prog 18 (.seq (.leaf) (.seq (.leaf) (.seq (.seq (.leaf) (.block (.loop [(6, .sc (.int .i64))] (.seq (.leaf) (.seq (.cond (.leaf) (.leaf)) (.seq (.block (.seq (.leaf) (.leaf))) (.leaf))))))) (.seq (.leaf) (.leaf))))) [.agg #[.int .u32 l_0_0, .int .u32 l_0_1, .int .u32 l_0_2, .int .u32 l_0_3]] K h0 = F18 l_0_0 l_0_1 l_0_2 l_0_3 K h0 := by kernel_rfl

-- function 13
set_option maxRecDepth 100000 in
def F13 (block_0 : Option Addr) (block_0l _block_0c : Nat) (K : Value → Heap → Prop) (h0 : Heap) : Prop := (
  newW (.cells (zeroC Tryd.prog 24) 24) (fun a1 h2 =>
  newW (.cells (zeroC Tryd.prog 24) 24) (fun a3 h4 =>
  br ((((block_0l : Nat) : Int)) != (16 : Int))
  (ldAggW [.int .u32, .int .u32, .int .u32, .int .u32] a3 (fun (x5 : Int × Int × Int × Int) =>
  stLW a1 [.int .u32 x5.1, .int .u32 x5.2.1, .int .u32 x5.2.2.1, .int .u32 x5.2.2.2] (fun h6 =>
  ldAggW [.int .u32, .int .u32, .int .u32, .int .u32] a1 (fun (x7 : Int × Int × Int × Int) =>
  K (.tuple #[.agg #[.int .u32 x7.1, .int .u32 x7.2.1, .int .u32 x7.2.2.1, .int .u32 x7.2.2.2], .iface 31 (.int .i64 3)]) h6) h6) h4) h4)
  (loopT [.sc (.int .i64)] (fun (s9 : Int) _ (K8 : Int → Heap → Prop) h10 =>
  br (decide (s9 < (16 : Int)))
  (idxW (IntKind.wrap .i64 (Int.tdiv s9 (4 : Int))) 4 true (ldW (.int .u32) (Addr.add a3 (Int.toNat (IntKind.wrap .i64 (Int.tdiv s9 (4 : Int))) * 1)) (fun (x11 : Int) =>
  ptrW block_0 (fun a12 =>
  idxW s9 block_0l true (ldW (.int .u8) (Addr.add a12 (Int.toNat s9 * 1)) (fun (x13 : Int) =>
  ckB (decide (0 ≤ (IntKind.wrap .i64 ((8 : Int) * (Int.tmod s9 (4 : Int)))))) (idxW (IntKind.wrap .i64 (Int.tdiv s9 (4 : Int))) 4 true (stW (Addr.add a3 (Int.toNat (IntKind.wrap .i64 (Int.tdiv s9 (4 : Int))) * 1)) (.int .u32 (IntKind.wrap .u32 (((BitVec.ofInt 32 x11 ||| BitVec.ofInt 32 (IntKind.wrap .u32 ((IntKind.wrap .u32 x13) * 2 ^ (min ((IntKind.wrap .i64 ((8 : Int) * (Int.tmod s9 (4 : Int))))).toNat 32)))).toNat : Int)))) (fun h14 =>
  K8 (IntKind.wrap .i64 (s9 + (1 : Int))) h14) h10))) h10))) h10))
  (ldAggW [.int .u32, .int .u32, .int .u32, .int .u32] a3 (fun (x15 : Int × Int × Int × Int) =>
  stLW a1 [.int .u32 x15.1, .int .u32 x15.2.1, .int .u32 x15.2.2.1, .int .u32 x15.2.2.2] (fun h16 =>
  ldAggW [.int .u32, .int .u32, .int .u32, .int .u32] a1 (fun (x17 : Int × Int × Int × Int) =>
  K (.tuple #[.agg #[.int .u32 x17.1, .int .u32 x17.2.1, .int .u32 x17.2.2.1, .int .u32 x17.2.2.2], .nilIface]) h16) h16) h10) h10)) (0 : Int) h4)) h2) h0)
set_option maxRecDepth 100000 in
theorem F13_eq (block_0 : Option Addr) (block_0l block_0c : Nat) (K : Value → Heap → Prop) (h0 : Heap) : funWE Tryd.prog 13 (.seq (.leaf) (.seq (.leaf) (.seq (.seq (.leaf) (.cond (.seq (.leaf) (.leaf)) (.leaf))) (.seq (.seq (.leaf) (.block (.loop [(11, .sc (.int .i64))] (.seq (.leaf) (.seq (.cond (.leaf) (.leaf)) (.seq (.block (.seq (.leaf) (.draw [0, 1, 2, 3, 4, 5, 6, 7, 8, 9, 10, 11, 12, 13, 14, 15] []))) (.leaf))))))) (.seq (.leaf) (.leaf)))))) [.slice block_0 block_0l block_0c] K h0 = F13 block_0 block_0l block_0c K h0 := by kernel_rfl

-- function 20
set_option maxRecDepth 100000 in
def F20 (many_0 : Int) (K : Value → Heap → Prop) (h0 : Heap) : Prop := (
  callT Tryd.prog 18 [.agg #[.int .u32 many_0, .int .u32 0, .int .u32 0, .int .u32 0]] [.sc .slice] (fun (r1 : (Option Addr × Nat × Nat)) h2 =>
  K (.slice r1.1 r1.2.1 r1.2.2) h2) h0)
set_option maxRecDepth 100000 in
theorem F20_eq (many_0 : Int) (K : Value → Heap → Prop) (h0 : Heap) : funWE Tryd.prog 20 (.seq (.leaf) (.seq (.leaf) (.leaf))) [.int .u32 many_0] K h0 = F20 many_0 K h0 := by kernel_rfl

-- function 15
set_option maxRecDepth 100000 in
def F15 (block_0 : Option Addr) (block_0l block_0c : Nat) (K : Value → Heap → Prop) (h0 : Heap) : Prop := (
  callT Tryd.prog 13 [.slice block_0 block_0l block_0c] [.agg [.int .u32, .int .u32, .int .u32, .int .u32], .sc .any] (fun (r1 : (Int × Int × Int × Int) × Value) h2 =>
  newW (.cells (zeroC Tryd.prog 24) 24) (fun a3 h4 =>
  stLW a3 [.int .u32 r1.1.1, .int .u32 r1.1.2.1, .int .u32 r1.1.2.2.1, .int .u32 r1.1.2.2.2] (fun h5 =>
  ifW r1.2 (br (!(isNilV r1.2))
  (K (.tuple #[.int .u32 0, r1.2]) h5)
  (cutT [.sc .bool] (fun (K6 : Bool → Heap → Prop) h11 =>
  idxW (0 : Int) 4 true (ldW (.int .u32) (Addr.add a3 (Int.toNat (0 : Int) * 1)) (fun (x7 : Int) =>
  br (x7 == (0 : Int))
  (K6 true h11)
  (ldAggW [.int .u32, .int .u32, .int .u32, .int .u32] a3 (fun (x8 : Int × Int × Int × Int) =>
  idxW (0 : Int) 4 true (ldW (.int .u32) (Addr.add a3 (Int.toNat (0 : Int) * 1)) (fun (x9 : Int) =>
  eqGen Tryd.prog 24 (.agg #[.int .u32 x8.1, .int .u32 x8.2.1, .int .u32 x8.2.2.1, .int .u32 x8.2.2.2]) (.agg #[.int .u32 x9, .int .u32 0, .int .u32 0, .int .u32 0]) (fun b10 =>
  K6 (!b10) h11)) h11)) h11)) h11)) (fun (s12 : Bool) _ h13 =>
  br s12
  (K (.tuple #[.int .u32 0, .iface 31 (.int .i64 2)]) h13)
  (idxW (0 : Int) 4 true (ldW (.int .u32) (Addr.add a3 (Int.toNat (0 : Int) * 1)) (fun (x14 : Int) =>
  K (.tuple #[.int .u32 x14, .nilIface]) h13) h13))) h5))) h4) h2) h0)
set_option maxRecDepth 100000 in
theorem F15_eq (block_0 : Option Addr) (block_0l block_0c : Nat) (K : Value → Heap → Prop) (h0 : Heap) : funWE Tryd.prog 15 (.seq (.leaf) (.seq (.leaf) (.seq (.block (.seq (.leaf) (.cond (.seq (.leaf) (.leaf)) (.cut [(15, .sc .bool)] (.leaf) (.cond (.seq (.leaf) (.leaf)) (.leaf)))))) (.seq (.leaf) (.leaf))))) [.slice block_0 block_0l block_0c] K h0 = F15 block_0 block_0l block_0c K h0 := by kernel_rfl

end Go.Proofs.YtogeildomhahjaaDoor.W
