/-
  The formulas of the references of geo and valid. Each formula checked by the kernel. Printed by a program of this repo.
-/
import Derived.Test.YticppjmldlhbiaaDoorProg
import Derived.Test.YticppjmldlhbiaaDoorPl
namespace Go.Proofs.YticppjmldlhbiaaDoor.W
open Go.Pl

-- function 67
set_option maxRecDepth 100000 in
def F67 (blocks_0 : Int) (K : Value → Heap → Prop) (h0 : Heap) : Prop := (
  br (decide ((Int.tmod blocks_0 (4 : Int)) > (0 : Int)))
  (K (.int .i64 (IntKind.wrap .i64 ((IntKind.wrap .i64 (Int.tdiv blocks_0 (4 : Int))) + (1 : Int)))) h0)
  (K (.int .i64 (IntKind.wrap .i64 (Int.tdiv blocks_0 (4 : Int)))) h0))
set_option maxRecDepth 100000 in
theorem F67_eq (blocks_0 : Int) (K : Value → Heap → Prop) (h0 : Heap) : funWE Tryd.prog 67 (.seq (.leaf) (.seq (.leaf) (.seq (.seq (.leaf) (.cond (.leaf) (.leaf))) (.seq (.leaf) (.leaf))))) [.int .i64 blocks_0] K h0 = F67 blocks_0 K h0 := by kernel_rfl

-- function 56
set_option maxRecDepth 100000 in
def F56 (zones_0 : Int) (pages_1 : Int) (K : Value → Heap → Prop) (h0 : Heap) : Prop := (
  cutT [] (fun (K1 : Unit → Heap → Prop) h2 =>
  br (decide (zones_0 < (11 : Int)))
  (K (.int .i64 0) h2)
  (br (decide (zones_0 > (24 : Int)))
  (K (.int .i64 0) h2)
  (br (decide (pages_1 < (4 : Int)))
  (K (.int .i64 0) h2)
  (br (decide (pages_1 > (16 : Int)))
  (K (.int .i64 0) h2)
  (K1 () h2))))) (fun (_s3 : Unit) _ h4 =>
  loopT [.sc (.int .i64), .sc (.int .i64)] (fun (s6 : Int × Int) _ (K5 : (Int × Int) → Heap → Prop) h7 =>
  br (decide (s6.2 ≤ (64 : Int)))
  (callT Tryd.prog 67 [.int .i64 s6.2] [.sc (.int .i64)] (fun (r8 : Int) h9 =>
  br (decide (r8 ≤ pages_1))
  (callT Tryd.prog 67 [.int .i64 s6.2] [.sc (.int .i64)] (fun (r10 : Int) h11 =>
  br (decide ((IntKind.wrap .i64 ((2 : Int) * (IntKind.wrap .i64 (s6.2 + r10)))) ≤ (IntKind.wrap .i64 ((IntKind.wrap .i64 (zones_0 - (7 : Int))) * pages_1))))
  (K5 (s6.2, (IntKind.wrap .i64 (s6.2 + (1 : Int)))) h11)
  (K5 (s6.1, (IntKind.wrap .i64 (s6.2 + (1 : Int)))) h11)) h9)
  (K5 (s6.1, (IntKind.wrap .i64 (s6.2 + (1 : Int)))) h9)) h7)
  (K (.int .i64 s6.1) h7)) ((0 : Int), (1 : Int)) h4) h0)
set_option maxRecDepth 100000 in
theorem F56_eq (zones_0 : Int) (pages_1 : Int) (K : Value → Heap → Prop) (h0 : Heap) : funWE Tryd.prog 56 (.seq (.leaf) (.seq (.leaf) (.cut [] (.seq (.leaf) (.cond (.seq (.leaf) (.leaf)) (.leaf))) (.seq (.seq (.leaf) (.block (.loop [(5, .sc (.int .i64)), (6, .sc (.int .i64))] (.seq (.seq (.leaf) (.cond (.leaf) (.leaf))) (.seq (.block (.seq (.leaf) (.cond (.leaf) (.leaf)))) (.leaf)))))) (.seq (.leaf) (.leaf)))))) [.int .i64 zones_0, .int .i64 pages_1] K h0 = F56 zones_0 pages_1 K h0 := by kernel_rfl

-- function 37
set_option maxRecDepth 100000 in
def F37 (g_0_0 : Int) (g_0_1 : Int) (g_0_2 : Int) (K : Value → Heap → Prop) (h0 : Heap) : Prop := (
  newW (.cells #[.int .i64 g_0_0, .int .i64 g_0_1, .int .i64 g_0_2] 36) (fun a1 h2 =>
  ldW (.int .i64) (Addr.add a1 2) (fun (x3 : Int) =>
  br (decide (x3 ≥ (1 : Int)))
  (ldW (.int .i64) (Addr.add a1 2) (fun (x4 : Int) =>
  ldW (.int .i64) (Addr.add a1 0) (fun (x5 : Int) =>
  ldW (.int .i64) (Addr.add a1 1) (fun (x6 : Int) =>
  callT Tryd.prog 56 [.int .i64 x5, .int .i64 x6] [.sc (.int .i64)] (fun (r7 : Int) h8 =>
  (cellH h8 (Addr.add a1 2) = some (.int .i64 x4) ∧ K (.bool (decide (x4 ≤ r7))) h8)) h2) h2) h2) h2)
  (K (.bool false) h2)) h2) h0)
set_option maxRecDepth 100000 in
theorem F37_eq (g_0_0 : Int) (g_0_1 : Int) (g_0_2 : Int) (K : Value → Heap → Prop) (h0 : Heap) : funWE Tryd.prog 37 (.seq (.leaf) (.seq (.draw (odp [0, 1, 2, 3, 4, 5, 6, 7, 8, 9, 10, 11, 12, 13] .nil) [200005]) (.leaf))) [.agg #[.int .i64 g_0_0, .int .i64 g_0_1, .int .i64 g_0_2]] K h0 = F37 g_0_0 g_0_1 g_0_2 K h0 := by kernel_rfl

-- function 42
set_option maxRecDepth 100000 in
def F42 (g_0_0 : Int) (g_0_1 : Int) (g_0_2 : Int) (zone_1 : Int) (page_2 : Int) (K : Value → Heap → Prop) (h0 : Heap) : Prop := (
  newW (.cells #[.int .i64 g_0_0, .int .i64 g_0_1, .int .i64 g_0_2] 36) (fun a1 h2 =>
  cutT [] (fun (K3 : Unit → Heap → Prop) h6 =>
  br (decide (zone_1 < (0 : Int)))
  (K (.int .u32 0) h6)
  (ldW (.int .i64) (Addr.add a1 0) (fun (x4 : Int) =>
  br (decide (zone_1 > (IntKind.wrap .i64 (x4 - (3 : Int)))))
  (K (.int .u32 0) h6)
  (br (decide (page_2 < (0 : Int)))
  (K (.int .u32 0) h6)
  (ldW (.int .i64) (Addr.add a1 1) (fun (x5 : Int) =>
  br (decide (page_2 > (IntKind.wrap .i64 (x5 - (1 : Int)))))
  (K (.int .u32 0) h6)
  (K3 () h6)) h6))) h6)) (fun (_s7 : Unit) _ h8 =>
  ldW (.int .i64) (Addr.add a1 1) (fun (x9 : Int) =>
  K (.int .u32 (IntKind.wrap .u32 (IntKind.wrap .i64 ((IntKind.wrap .i64 ((IntKind.wrap .i64 (zone_1 * x9)) + page_2)) + (1 : Int))))) h8) h8) h2) h0)
set_option maxRecDepth 100000 in
theorem F42_eq (g_0_0 : Int) (g_0_1 : Int) (g_0_2 : Int) (zone_1 : Int) (page_2 : Int) (K : Value → Heap → Prop) (h0 : Heap) : funWE Tryd.prog 42 (.seq (.leaf) (.cut [] (.seq (.leaf) (.cond (.seq (.leaf) (.leaf)) (.leaf))) (.seq (.leaf) (.leaf)))) [.agg #[.int .i64 g_0_0, .int .i64 g_0_1, .int .i64 g_0_2], .int .i64 zone_1, .int .i64 page_2] K h0 = F42 g_0_0 g_0_1 g_0_2 zone_1 page_2 K h0 := by kernel_rfl

-- function 40
set_option maxRecDepth 100000 in
def F40 (g_0_0 : Int) (g_0_1 : Int) (g_0_2 : Int) (a_1 : Int) (K : Value → Heap → Prop) (h0 : Heap) : Prop := (
  newW (.cells #[.int .i64 g_0_0, .int .i64 g_0_1, .int .i64 g_0_2] 36) (fun a1 h2 =>
  loopT [.sc (.int .i64)] (fun (s4 : Int) _ (K3 : Int → Heap → Prop) h5 =>
  ldW (.int .i64) (Addr.add a1 0) (fun (x6 : Int) =>
  br (decide (s4 < (IntKind.wrap .i64 (x6 - (2 : Int)))))
  (loopT [.sc (.int .i64)] (fun (s8 : Int) _ (K7 : Int → Heap → Prop) h9 =>
  ldW (.int .i64) (Addr.add a1 1) (fun (x10 : Int) =>
  br (decide (s8 < x10))
  (ldAggW [.int .i64, .int .i64, .int .i64] a1 (fun (x11 : Int × Int × Int) =>
  callT Tryd.prog 42 [.agg #[.int .i64 x11.1, .int .i64 x11.2.1, .int .i64 x11.2.2], .int .i64 s4, .int .i64 s8] [.sc (.int .u32)] (fun (r12 : Int) h13 =>
  br (r12 == a_1)
  (K (.tuple #[.int .i64 s4, .int .i64 s8, .bool true]) h13)
  (K7 (IntKind.wrap .i64 (s8 + (1 : Int))) h13)) h9) h9)
  (K3 (IntKind.wrap .i64 (s4 + (1 : Int))) h9)) h9) (0 : Int) h5)
  (K (.tuple #[.int .i64 0, .int .i64 0, .bool false]) h5)) h5) (0 : Int) h2) h0)
set_option maxRecDepth 100000 in
theorem F40_eq (g_0_0 : Int) (g_0_1 : Int) (g_0_2 : Int) (a_1 : Int) (K : Value → Heap → Prop) (h0 : Heap) : funWE Tryd.prog 40 (.seq (.leaf) (.seq (.seq (.leaf) (.block (.loop [(7, .sc (.int .i64))] (.seq (.seq (.leaf) (.cond (.leaf) (.leaf))) (.seq (.block (.seq (.leaf) (.block (.loop [(8, .sc (.int .i64))] (.seq (.seq (.leaf) (.cond (.leaf) (.leaf))) (.seq (.block (.seq (.leaf) (.cond (.seq (.leaf) (.leaf)) (.leaf)))) (.leaf))))))) (.leaf)))))) (.seq (.leaf) (.leaf)))) [.agg #[.int .i64 g_0_0, .int .i64 g_0_1, .int .i64 g_0_2], .int .u32 a_1] K h0 = F40 g_0_0 g_0_1 g_0_2 a_1 K h0 := by kernel_rfl

-- function 7
set_option maxRecDepth 100000 in
def F7 (g_0_0 : Int) (g_0_1 : Int) (g_0_2 : Int) (K : Value → Heap → Prop) (h0 : Heap) : Prop := (
  newW (.cells #[.int .i64 g_0_0, .int .i64 g_0_1, .int .i64 g_0_2] 36) (fun a1 h2 =>
  ldAggW [.int .i64, .int .i64, .int .i64] a1 (fun (x3 : Int × Int × Int) =>
  callT Tryd.prog 37 [.agg #[.int .i64 x3.1, .int .i64 x3.2.1, .int .i64 x3.2.2]] [.sc .bool] (fun (r4 : Bool) h5 =>
  br (!r4)
  (K (.tuple #[.pointer none, .int .i64 1]) h5)
  (ldAggW [.int .i64, .int .i64, .int .i64] a1 (fun (x6 : Int × Int × Int) =>
  newW (.cells #[.int .i64 x6.1, .int .i64 x6.2.1, .int .i64 x6.2.2, .slice none 0 0] 44) (fun a7 h8 =>
  K (.tuple #[.pointer (some a7), .int .i64 0]) h8) h5) h5)) h2) h2) h0)
set_option maxRecDepth 100000 in
theorem F7_eq (g_0_0 : Int) (g_0_1 : Int) (g_0_2 : Int) (K : Value → Heap → Prop) (h0 : Heap) : funWE Tryd.prog 7 (.seq (.leaf) (.seq (.seq (.leaf) (.cond (.seq (.leaf) (.leaf)) (.leaf))) (.seq (.leaf) (.leaf)))) [.agg #[.int .i64 g_0_0, .int .i64 g_0_1, .int .i64 g_0_2]] K h0 = F7 g_0_0 g_0_1 g_0_2 K h0 := by kernel_rfl

-- function 14
set_option maxRecDepth 100000 in
def F14 (s_0 : Addr) (a_1 : Int) (K : Value → Heap → Prop) (h0 : Heap) : Prop := (
  loopT [.sc (.int .i64)] (fun (s2 : Int) _ (K1 : Int → Heap → Prop) h3 =>
  ldW .slice (Addr.add s_0 3) (fun (x4 : Option Addr × Nat × Nat) =>
  br (decide (s2 < (((x4.2.1 : Nat) : Int))))
  (ldW .slice (Addr.add s_0 3) (fun (x5 : Option Addr × Nat × Nat) =>
  ptrW x5.1 (fun a6 =>
  idxW s2 x5.2.1 true (ldW (.int .u32) (Addr.add a6 (Int.toNat s2 * 1)) (fun (x7 : Int) =>
  br (x7 == a_1)
  (K (.bool true) h3)
  (K1 (IntKind.wrap .i64 (s2 + (1 : Int))) h3)) h3))) h3)
  (K (.bool false) h3)) h3) (0 : Int) h0)
set_option maxRecDepth 100000 in
theorem F14_eq (s_0 : Addr) (a_1 : Int) (K : Value → Heap → Prop) (h0 : Heap) : funWE Tryd.prog 14 (.seq (.leaf) (.seq (.seq (.leaf) (.block (.loop [(5, .sc (.int .i64))] (.seq (.seq (.leaf) (.cond (.leaf) (.leaf))) (.seq (.block (.seq (.leaf) (.cond (.seq (.leaf) (.leaf)) (.leaf)))) (.leaf)))))) (.seq (.leaf) (.leaf)))) [.pointer (some s_0), .int .u32 a_1] K h0 = F14 s_0 a_1 K h0 := by kernel_rfl

-- function 10
set_option maxRecDepth 100000 in
def F10 (s_0 : Addr) (a_1 : Int) (K : Value → Heap → Prop) (h0 : Heap) : Prop := (
  ldAggW [.int .i64, .int .i64, .int .i64] (Addr.add s_0 0) (fun (x1 : Int × Int × Int) =>
  callT Tryd.prog 40 [.agg #[.int .i64 x1.1, .int .i64 x1.2.1, .int .i64 x1.2.2], .int .u32 a_1] [.sc (.int .i64), .sc (.int .i64), .sc .bool] (fun (r2 : Int × Int × Bool) h3 =>
  cutT [] (fun (K4 : Unit → Heap → Prop) h7 =>
  br (!r2.2.2)
  (K (.bool false) h7)
  (callT Tryd.prog 14 [.pointer (some s_0), .int .u32 a_1] [.sc .bool] (fun (r5 : Bool) h6 =>
  br r5
  (K (.bool false) h6)
  (K4 () h6)) h7)) (fun (_s8 : Unit) _ h9 =>
  newW (.cells #[] 25) (fun a10 h11 =>
  ldW .slice (Addr.add s_0 3) (fun (x12 : Option Addr × Nat × Nat) =>
  apW Tryd.prog #[42, 42] #[.slice (some a10) 0 0, .slice x12.1 x12.2.1 x12.2.2] (fun b13 n14 c15 h16 =>
  newW (.cells #[.int .u32 a_1] 25) (fun a17 h18 =>
  apW Tryd.prog #[42, 42] #[.slice b13 n14 c15, .slice (some a17) 1 1] (fun b19 n20 c21 h22 =>
  stW (Addr.add s_0 3) (.slice b19 n20 c21) (fun h23 =>
  K (.bool true) h23) h22) h18) h16) h11) h11) h9) h3) h0) h0)
set_option maxRecDepth 100000 in
theorem F10_eq (s_0 : Addr) (a_1 : Int) (K : Value → Heap → Prop) (h0 : Heap) : funWE Tryd.prog 10 (.seq (.leaf) (.seq (.leaf) (.cut [] (.seq (.leaf) (.cond (.seq (.leaf) (.leaf)) (.leaf))) (.seq (.leaf) (.seq (.leaf) (.leaf)))))) [.pointer (some s_0), .int .u32 a_1] K h0 = F10 s_0 a_1 K h0 := by kernel_rfl

-- function 12
set_option maxRecDepth 100000 in
def F12 (s_0 : Addr) (a_1 : Int) (K : Value → Heap → Prop) (h0 : Heap) : Prop := (
  newW (.cells #[] 25) (fun a1 h2 =>
  loopT [.sc .slice, .sc (.int .i64)] (fun (s4 : (Option Addr × Nat × Nat) × Int) _ (K3 : ((Option Addr × Nat × Nat) × Int) → Heap → Prop) h5 =>
  ldW .slice (Addr.add s_0 3) (fun (x6 : Option Addr × Nat × Nat) =>
  br (decide (s4.2 < (((x6.2.1 : Nat) : Int))))
  (ldW .slice (Addr.add s_0 3) (fun (x7 : Option Addr × Nat × Nat) =>
  ptrW x7.1 (fun a8 =>
  idxW s4.2 x7.2.1 true (ldW (.int .u32) (Addr.add a8 (Int.toNat s4.2 * 1)) (fun (x9 : Int) =>
  br (x9 != a_1)
  (ldW .slice (Addr.add s_0 3) (fun (x10 : Option Addr × Nat × Nat) =>
  ptrW x10.1 (fun a11 =>
  idxW s4.2 x10.2.1 true (ldW (.int .u32) (Addr.add a11 (Int.toNat s4.2 * 1)) (fun (x12 : Int) =>
  newW (.cells #[.int .u32 x12] 25) (fun a13 h14 =>
  apW Tryd.prog #[42, 42] #[.slice s4.1.1 s4.1.2.1 s4.1.2.2, .slice (some a13) 1 1] (fun b15 n16 c17 h18 =>
  K3 ((b15, n16, c17), (IntKind.wrap .i64 (s4.2 + (1 : Int)))) h18) h14) h5) h5))) h5)
  (K3 ((s4.1.1, s4.1.2.1, s4.1.2.2), (IntKind.wrap .i64 (s4.2 + (1 : Int)))) h5)) h5))) h5)
  (ldW .slice (Addr.add s_0 3) (fun (x19 : Option Addr × Nat × Nat) =>
  stW (Addr.add s_0 3) (.slice s4.1.1 s4.1.2.1 s4.1.2.2) (fun h20 =>
  K (.bool (decide ((((s4.1.2.1 : Nat) : Int)) < (((x19.2.1 : Nat) : Int))))) h20) h5) h5)) h5) (((some a1), 0, 0), (0 : Int)) h2) h0)
set_option maxRecDepth 100000 in
theorem F12_eq (s_0 : Addr) (a_1 : Int) (K : Value → Heap → Prop) (h0 : Heap) : funWE Tryd.prog 12 (.seq (.leaf) (.seq (.leaf) (.seq (.seq (.leaf) (.block (.loop [(5, .sc .slice), (6, .sc (.int .i64))] (.seq (.seq (.leaf) (.cond (.leaf) (.leaf))) (.seq (.block (.seq (.leaf) (.cond (.leaf) (.leaf)))) (.leaf)))))) (.seq (.leaf) (.seq (.leaf) (.seq (.leaf) (.leaf))))))) [.pointer (some s_0), .int .u32 a_1] K h0 = F12 s_0 a_1 K h0 := by kernel_rfl

-- function 17
set_option maxRecDepth 100000 in
def F17 (s_0 : Addr) (zone_1 : Int) (K : Value → Heap → Prop) (h0 : Heap) : Prop := (
  newW (.cells #[] 25) (fun a1 h2 =>
  loopT [.sc .slice, .sc (.int .i64)] (fun (s4 : (Option Addr × Nat × Nat) × Int) _ (K3 : ((Option Addr × Nat × Nat) × Int) → Heap → Prop) h5 =>
  ldW (.int .i64) (Addr.add (Addr.add s_0 0) 1) (fun (x6 : Int) =>
  br (decide (s4.2 < x6))
  (ldAggW [.int .i64, .int .i64, .int .i64] (Addr.add s_0 0) (fun (x7 : Int × Int × Int) =>
  callT Tryd.prog 42 [.agg #[.int .i64 x7.1, .int .i64 x7.2.1, .int .i64 x7.2.2], .int .i64 zone_1, .int .i64 s4.2] [.sc (.int .u32)] (fun (r8 : Int) h9 =>
  cutT [.sc .bool] (fun (K10 : Bool → Heap → Prop) h13 =>
  br (r8 != (0 : Int))
  (callT Tryd.prog 14 [.pointer (some s_0), .int .u32 r8] [.sc .bool] (fun (r11 : Bool) h12 =>
  K10 r11 h12) h13)
  (K10 false h13)) (fun (s14 : Bool) _ h15 =>
  br s14
  (newW (.cells #[.int .u32 r8] 25) (fun a16 h17 =>
  apW Tryd.prog #[42, 42] #[.slice s4.1.1 s4.1.2.1 s4.1.2.2, .slice (some a16) 1 1] (fun b18 n19 c20 h21 =>
  K3 ((b18, n19, c20), (IntKind.wrap .i64 (s4.2 + (1 : Int)))) h21) h17) h15)
  (K3 ((s4.1.1, s4.1.2.1, s4.1.2.2), (IntKind.wrap .i64 (s4.2 + (1 : Int)))) h15)) h9) h5) h5)
  (K (.slice s4.1.1 s4.1.2.1 s4.1.2.2) h5)) h5) (((some a1), 0, 0), (0 : Int)) h2) h0)
set_option maxRecDepth 100000 in
theorem F17_eq (s_0 : Addr) (zone_1 : Int) (K : Value → Heap → Prop) (h0 : Heap) : funWE Tryd.prog 17 (.seq (.leaf) (.seq (.leaf) (.seq (.seq (.leaf) (.block (.loop [(5, .sc .slice), (6, .sc (.int .i64))] (.seq (.seq (.leaf) (.cond (.leaf) (.leaf))) (.seq (.block (.seq (.leaf) (.cut [(31, .sc .bool)] (.leaf) (.cond (.leaf) (.leaf))))) (.leaf)))))) (.seq (.leaf) (.leaf))))) [.pointer (some s_0), .int .i64 zone_1] K h0 = F17 s_0 zone_1 K h0 := by kernel_rfl

-- function 22
set_option maxRecDepth 100000 in
def F22 (s_0 : Addr) (K : Value → Heap → Prop) (h0 : Heap) : Prop := (
  newW (.cells #[] 3) (fun a1 h2 =>
  loopT [.sc .slice, .sc (.int .i64)] (fun (s4 : (Option Addr × Nat × Nat) × Int) _ (K3 : ((Option Addr × Nat × Nat) × Int) → Heap → Prop) h5 =>
  ldW (.int .i64) (Addr.add (Addr.add s_0 0) 0) (fun (x6 : Int) =>
  br (decide (s4.2 < (IntKind.wrap .i64 (x6 - (2 : Int)))))
  (callT Tryd.prog 17 [.pointer (some s_0), .int .i64 s4.2] [.sc .slice] (fun (r7 : (Option Addr × Nat × Nat)) h8 =>
  br ((((r7.2.1 : Nat) : Int)) == (0 : Int))
  (newW (.cells #[.int .i64 s4.2] 3) (fun a9 h10 =>
  apW Tryd.prog #[49, 49] #[.slice s4.1.1 s4.1.2.1 s4.1.2.2, .slice (some a9) 1 1] (fun b11 n12 c13 h14 =>
  K3 ((b11, n12, c13), (IntKind.wrap .i64 (s4.2 + (1 : Int)))) h14) h10) h8)
  (K3 ((s4.1.1, s4.1.2.1, s4.1.2.2), (IntKind.wrap .i64 (s4.2 + (1 : Int)))) h8)) h5)
  (K (.slice s4.1.1 s4.1.2.1 s4.1.2.2) h5)) h5) (((some a1), 0, 0), (0 : Int)) h2) h0)
set_option maxRecDepth 100000 in
theorem F22_eq (s_0 : Addr) (K : Value → Heap → Prop) (h0 : Heap) : funWE Tryd.prog 22 (.seq (.leaf) (.seq (.leaf) (.seq (.seq (.leaf) (.block (.loop [(3, .sc .slice), (4, .sc (.int .i64))] (.seq (.seq (.leaf) (.cond (.leaf) (.leaf))) (.seq (.block (.seq (.leaf) (.cond (.leaf) (.leaf)))) (.leaf)))))) (.seq (.leaf) (.leaf))))) [.pointer (some s_0)] K h0 = F22 s_0 K h0 := by kernel_rfl

end Go.Proofs.YticppjmldlhbiaaDoor.W
