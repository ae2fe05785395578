/-
  The formulas of package sum. Each formula checked by the kernel. Printed by a program of this repo.
-/
import Derived.Test.YtgohecjnjadnpaaDoorProg
import Derived.Test.YtgohecjnjadnpaaDoorPl
namespace Go.Proofs.YtgohecjnjadnpaaDoor.W
open Go.Pl

-- function 90
set_option maxRecDepth 100000 in
def F90 (n_0 : Int) (K : Value → Heap → Prop) (h0 : Heap) : Prop := (
  K (.tuple #[.int .u32 (IntKind.wrap .u32 (((BitVec.ofInt 32 n_0 &&& BitVec.ofInt 32 (65535 : Int)).toNat : Int))), .int .u32 (Int.fdiv n_0 65536)]) h0)
set_option maxRecDepth 100000 in
theorem F90_eq (n_0 : Int) (K : Value → Heap → Prop) (h0 : Heap) : funWE Tryd.prog 90 (.seq (.leaf) (.seq (.leaf) (.leaf))) [.int .u32 n_0] K h0 = F90 n_0 K h0 := by kernel_rfl

-- function 92
set_option maxRecDepth 100000 in
def F92 (low_0 : Int) (high_1 : Int) (K : Value → Heap → Prop) (h0 : Heap) : Prop := (
  K (.int .u32 (IntKind.wrap .u32 (((BitVec.ofInt 32 (IntKind.wrap .u32 (high_1 * 65536)) ||| BitVec.ofInt 32 low_0).toNat : Int)))) h0)
set_option maxRecDepth 100000 in
theorem F92_eq (low_0 : Int) (high_1 : Int) (K : Value → Heap → Prop) (h0 : Heap) : funWE Tryd.prog 92 (.seq (.leaf) (.seq (.leaf) (.leaf))) [.int .u32 low_0, .int .u32 high_1] K h0 = F92 low_0 high_1 K h0 := by kernel_rfl

-- function 91
set_option maxRecDepth 100000 in
def F91 (l_0 : Option Addr) (l_0l _l_0c : Nat) (cap_0 : Addr) (cap_1 : Addr) (K : Value → Heap → Prop) (h0 : Heap) : Prop := (
  loopT [.sc (.int .i64)] (fun (s2 : Int) _ (K1 : Int → Heap → Prop) h3 =>
  br (decide (s2 < (((l_0l : Nat) : Int))))
  (ptrW l_0 (fun a4 =>
  idxW s2 l_0l true (ldW (.int .u8) (Addr.add a4 (Int.toNat s2 * 1)) (fun (x5 : Int) =>
  ldW (.int .u32) cap_0 (fun (x6 : Int) =>
  stW cap_0 (.int .u32 (IntKind.wrap .u32 (x6 + (IntKind.wrap .u32 x5)))) (fun h7 =>
  ldW (.int .u32) cap_1 (fun (x8 : Int) =>
  ldW (.int .u32) cap_0 (fun (x9 : Int) =>
  stW cap_1 (.int .u32 (IntKind.wrap .u32 (x8 + x9))) (fun h10 =>
  K1 (IntKind.wrap .i64 (s2 + (1 : Int))) h10) h7) h7) h7) h3) h3) h3)))
  (ldW (.int .u32) cap_0 (fun (x11 : Int) =>
  ldW (.int .u32) cap_1 (fun (x12 : Int) =>
  stW cap_0 (.int .u32 (Int.tmod x11 (65521 : Int))) (fun h13 =>
  (cellH h13 cap_1 = some (.int .u32 x12) ∧ stW cap_1 (.int .u32 (Int.tmod x12 (65521 : Int))) (fun h14 =>
  K (.tuple #[]) h14) h13)) h3) h3) h3)) (0 : Int) h0)
set_option maxRecDepth 100000 in
theorem F91_eq (l_0 : Option Addr) (l_0l l_0c : Nat) (cap_0 : Addr) (cap_1 : Addr) (K : Value → Heap → Prop) (h0 : Heap) : funWE Tryd.prog 91 (.seq (.seq (.leaf) (.block (.loop [(8, .sc (.int .i64))] (.seq (.leaf) (.seq (.cond (.leaf) (.leaf)) (.seq (.block (.seq (.leaf) (.seq (.leaf) (.leaf)))) (.leaf))))))) (.draw (odp [0, 1, 2, 3, 4, 5] .nil) [200002])) [.slice l_0 l_0l l_0c, .pointer (some cap_0), .pointer (some cap_1)] K h0 = F91 l_0 l_0l l_0c cap_0 cap_1 K h0 := by kernel_rfl

-- function 55
set_option maxRecDepth 100000 in
def F55 (n_0 : Int) (b_1 : Option Addr) (b_1l b_1c : Nat) (K : Value → Heap → Prop) (h0 : Heap) : Prop := (
  callT Tryd.prog 90 [.int .u32 n_0] [.sc (.int .u32), .sc (.int .u32)] (fun (r1 : Int × Int) h2 =>
  newW (.cells (zeroC Tryd.prog 22) 22) (fun a3 h4 =>
  newW (.cells (zeroC Tryd.prog 22) 22) (fun a5 h6 =>
  stW a3 (.int .u32 r1.1) (fun h7 =>
  stW a5 (.int .u32 r1.2) (fun h8 =>
  loopT [.sc .slice] (fun (s10 : (Option Addr × Nat × Nat)) _ (K9 : ((Option Addr × Nat × Nat)) → Heap → Prop) h11 =>
  br (decide ((((s10.2.1 : Nat) : Int)) > (0 : Int)))
  (slW s10.1 s10.2.2 1 (0 : Int) (mm2 false (5000 : Int) (((s10.2.1 : Nat) : Int))) (mm2 false (5000 : Int) (((s10.2.1 : Nat) : Int))) (fun b12 n13 c14 =>
  callW Tryd.prog (.sc .any) (.func (.func 91) #[] #[.pointer (some a3), .pointer (some a5)]) [.slice b12 n13 c14] (fun (_x15 : Value) h16 =>
  slW s10.1 s10.2.2 1 (mm2 false (5000 : Int) (((s10.2.1 : Nat) : Int))) (((s10.2.1 : Nat) : Int)) (((s10.2.2 : Nat) : Int)) (fun b17 n18 c19 =>
  K9 (b17, n18, c19) h16)) h11))
  (ldW (.int .u32) a3 (fun (x20 : Int) =>
  ldW (.int .u32) a5 (fun (x21 : Int) =>
  callT Tryd.prog 92 [.int .u32 x20, .int .u32 x21] [.sc (.int .u32)] (fun (r22 : Int) h23 =>
  K (.int .u32 r22) h23) h11) h11) h11)) (b_1, b_1l, b_1c) h8) h7) h6) h4) h2) h0)
set_option maxRecDepth 100000 in
theorem F55_eq (n_0 : Int) (b_1 : Option Addr) (b_1l b_1c : Nat) (K : Value → Heap → Prop) (h0 : Heap) : funWE Tryd.prog 55 (.seq (.leaf) (.seq (.leaf) (.seq (.leaf) (.seq (.block (.loop [(1, .sc .slice)] (.seq (.seq (.leaf) (.cond (.leaf) (.leaf))) (.block (.seq (.leaf) (.seq (.leaf) (.leaf))))))) (.seq (.leaf) (.leaf)))))) [.int .u32 n_0, .slice b_1 b_1l b_1c] K h0 = F55 n_0 b_1 b_1l b_1c K h0 := by kernel_rfl

-- function 56
set_option maxRecDepth 100000 in
def F56 (b_0 : Option Addr) (b_0l b_0c : Nat) (K : Value → Heap → Prop) (h0 : Heap) : Prop := (
  callT Tryd.prog 55 [.int .u32 1, .slice b_0 b_0l b_0c] [.sc (.int .u32)] (fun (r1 : Int) h2 =>
  K (.int .u32 r1) h2) h0)
set_option maxRecDepth 100000 in
theorem F56_eq (b_0 : Option Addr) (b_0l b_0c : Nat) (K : Value → Heap → Prop) (h0 : Heap) : funWE Tryd.prog 56 (.seq (.leaf) (.seq (.leaf) (.leaf))) [.slice b_0 b_0l b_0c] K h0 = F56 b_0 b_0l b_0c K h0 := by kernel_rfl

end Go.Proofs.YtgohecjnjadnpaaDoor.W
