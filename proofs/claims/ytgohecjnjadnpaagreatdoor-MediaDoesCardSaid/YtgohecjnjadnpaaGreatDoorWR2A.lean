/-
  The formulas of the reference of geo. Each formula checked by the kernel. Printed by a program of this repo.
-/
import Derived.Test.YtgohecjnjadnpaaGreatDoorProg
import Derived.Test.YtgohecjnjadnpaaGreatDoorPl
namespace Go.Proofs.YtgohecjnjadnpaaGreatDoor.W
open Go.Pl

-- function 22
set_option maxRecDepth 100000 in
def F22 (zones_0 : Int) (pages_1 : Int) (K : Value → Heap → Prop) (h0 : Heap) : Prop := (
  cutT [] (fun (K1 : Unit → Heap → Prop) h2 =>
  br (decide (zones_0 < (11 : Int)))
  (K (.int .i64 0) h2)
  (br (decide (zones_0 > (24 : Int)))
  (K (.int .i64 0) h2)
  (br (decide (pages_1 < (4 : Int)))
  (K (.int .i64 0) h2)
  (br (decide (pages_1 > (16 : Int)))
  (K (.int .i64 0) h2)
  (K1 () h2))))) (fun (_s3 : Unit) _ h4 =>
  loopT [.sc (.int .i64), .sc (.int .i64)] (fun (s6 : Int × Int) _ (K5 : (Int × Int) → Heap → Prop) h7 =>
  br (decide (s6.2 ≤ (64 : Int)))
  (callT Tryz.prog 45 [.int .i64 s6.2] [.sc (.int .i64)] (fun (r8 : Int) h9 =>
  br (decide (r8 ≤ pages_1))
  (callT Tryz.prog 45 [.int .i64 s6.2] [.sc (.int .i64)] (fun (r10 : Int) h11 =>
  br (decide ((IntKind.wrap .i64 ((2 : Int) * (IntKind.wrap .i64 (s6.2 + r10)))) ≤ (IntKind.wrap .i64 ((IntKind.wrap .i64 (zones_0 - (7 : Int))) * pages_1))))
  (K5 (s6.2, (IntKind.wrap .i64 (s6.2 + (1 : Int)))) h11)
  (K5 (s6.1, (IntKind.wrap .i64 (s6.2 + (1 : Int)))) h11)) h9)
  (K5 (s6.1, (IntKind.wrap .i64 (s6.2 + (1 : Int)))) h9)) h7)
  (K (.int .i64 s6.1) h7)) ((0 : Int), (1 : Int)) h4) h0)
set_option maxRecDepth 100000 in
theorem F22_eq (zones_0 : Int) (pages_1 : Int) (K : Value → Heap → Prop) (h0 : Heap) : funWE Tryz.prog 22 (.seq (.leaf) (.seq (.leaf) (.cut [] (.seq (.leaf) (.cond (.seq (.leaf) (.leaf)) (.leaf))) (.seq (.seq (.leaf) (.block (.loop [(5, .sc (.int .i64)), (6, .sc (.int .i64))] (.seq (.seq (.leaf) (.cond (.leaf) (.leaf))) (.seq (.block (.seq (.leaf) (.cond (.leaf) (.leaf)))) (.leaf)))))) (.seq (.leaf) (.leaf)))))) [.int .i64 zones_0, .int .i64 pages_1] K h0 = F22 zones_0 pages_1 K h0 := by kernel_rfl

-- function 5
set_option maxRecDepth 100000 in
def F5 (g_0_0 : Int) (g_0_1 : Int) (g_0_2 : Int) (K : Value → Heap → Prop) (h0 : Heap) : Prop := (
  newW (.cells #[.int .i64 g_0_0, .int .i64 g_0_1, .int .i64 g_0_2] 27) (fun a1 h2 =>
  ldW (.int .i64) (Addr.add a1 2) (fun (x3 : Int) =>
  br (decide (x3 ≥ (1 : Int)))
  (ldW (.int .i64) (Addr.add a1 2) (fun (x4 : Int) =>
  ldW (.int .i64) (Addr.add a1 0) (fun (x5 : Int) =>
  ldW (.int .i64) (Addr.add a1 1) (fun (x6 : Int) =>
  callT Tryz.prog 22 [.int .i64 x5, .int .i64 x6] [.sc (.int .i64)] (fun (r7 : Int) h8 =>
  (cellH h8 (Addr.add a1 2) = some (.int .i64 x4) ∧ K (.bool (decide (x4 ≤ r7))) h8)) h2) h2) h2) h2)
  (K (.bool false) h2)) h2) h0)
set_option maxRecDepth 100000 in
theorem F5_eq (g_0_0 : Int) (g_0_1 : Int) (g_0_2 : Int) (K : Value → Heap → Prop) (h0 : Heap) : funWE Tryz.prog 5 (.seq (.leaf) (.seq (.draw (odp [0, 1, 2, 3, 4, 5, 6, 7, 8, 9, 10, 11, 12, 13] .nil) [200005]) (.leaf))) [.agg #[.int .i64 g_0_0, .int .i64 g_0_1, .int .i64 g_0_2]] K h0 = F5 g_0_0 g_0_1 g_0_2 K h0 := by kernel_rfl

-- function 45
set_option maxRecDepth 100000 in
def F45 (blocks_0 : Int) (K : Value → Heap → Prop) (h0 : Heap) : Prop := (
  br (decide ((Int.tmod blocks_0 (4 : Int)) > (0 : Int)))
  (K (.int .i64 (IntKind.wrap .i64 ((IntKind.wrap .i64 (Int.tdiv blocks_0 (4 : Int))) + (1 : Int)))) h0)
  (K (.int .i64 (IntKind.wrap .i64 (Int.tdiv blocks_0 (4 : Int)))) h0))
set_option maxRecDepth 100000 in
theorem F45_eq (blocks_0 : Int) (K : Value → Heap → Prop) (h0 : Heap) : funWE Tryz.prog 45 (.seq (.leaf) (.seq (.leaf) (.seq (.seq (.leaf) (.cond (.leaf) (.leaf))) (.seq (.leaf) (.leaf))))) [.int .i64 blocks_0] K h0 = F45 blocks_0 K h0 := by kernel_rfl

-- function 53
set_option maxRecDepth 100000 in
def F53 (g_0_0 : Int) (g_0_1 : Int) (g_0_2 : Int) (zone_1 : Int) (page_2 : Int) (K : Value → Heap → Prop) (h0 : Heap) : Prop := (
  newW (.cells #[.int .i64 g_0_0, .int .i64 g_0_1, .int .i64 g_0_2] 27) (fun a1 h2 =>
  cutT [] (fun (K3 : Unit → Heap → Prop) h6 =>
  br (decide (zone_1 < (0 : Int)))
  (K (.int .u32 0) h6)
  (ldW (.int .i64) (Addr.add a1 0) (fun (x4 : Int) =>
  br (decide (zone_1 > (IntKind.wrap .i64 (x4 - (3 : Int)))))
  (K (.int .u32 0) h6)
  (br (decide (page_2 < (0 : Int)))
  (K (.int .u32 0) h6)
  (ldW (.int .i64) (Addr.add a1 1) (fun (x5 : Int) =>
  br (decide (page_2 > (IntKind.wrap .i64 (x5 - (1 : Int)))))
  (K (.int .u32 0) h6)
  (K3 () h6)) h6))) h6)) (fun (_s7 : Unit) _ h8 =>
  ldW (.int .i64) (Addr.add a1 1) (fun (x9 : Int) =>
  K (.int .u32 (IntKind.wrap .u32 (IntKind.wrap .i64 ((IntKind.wrap .i64 ((IntKind.wrap .i64 (zone_1 * x9)) + page_2)) + (1 : Int))))) h8) h8) h2) h0)
set_option maxRecDepth 100000 in
theorem F53_eq (g_0_0 : Int) (g_0_1 : Int) (g_0_2 : Int) (zone_1 : Int) (page_2 : Int) (K : Value → Heap → Prop) (h0 : Heap) : funWE Tryz.prog 53 (.seq (.leaf) (.cut [] (.seq (.leaf) (.cond (.seq (.leaf) (.leaf)) (.leaf))) (.seq (.leaf) (.leaf)))) [.agg #[.int .i64 g_0_0, .int .i64 g_0_1, .int .i64 g_0_2], .int .i64 zone_1, .int .i64 page_2] K h0 = F53 g_0_0 g_0_1 g_0_2 zone_1 page_2 K h0 := by kernel_rfl

-- function 54
set_option maxRecDepth 100000 in
def F54 (g_0_0 : Int) (g_0_1 : Int) (g_0_2 : Int) (a_1 : Int) (K : Value → Heap → Prop) (h0 : Heap) : Prop := (
  newW (.cells #[.int .i64 g_0_0, .int .i64 g_0_1, .int .i64 g_0_2] 27) (fun a1 h2 =>
  loopT [.sc (.int .i64)] (fun (s4 : Int) _ (K3 : Int → Heap → Prop) h5 =>
  ldW (.int .i64) (Addr.add a1 0) (fun (x6 : Int) =>
  br (decide (s4 < (IntKind.wrap .i64 (x6 - (2 : Int)))))
  (loopT [.sc (.int .i64)] (fun (s8 : Int) _ (K7 : Int → Heap → Prop) h9 =>
  ldW (.int .i64) (Addr.add a1 1) (fun (x10 : Int) =>
  br (decide (s8 < x10))
  (ldAggW [.int .i64, .int .i64, .int .i64] a1 (fun (x11 : Int × Int × Int) =>
  callT Tryz.prog 53 [.agg #[.int .i64 x11.1, .int .i64 x11.2.1, .int .i64 x11.2.2], .int .i64 s4, .int .i64 s8] [.sc (.int .u32)] (fun (r12 : Int) h13 =>
  br (r12 == a_1)
  (K (.tuple #[.int .i64 s4, .int .i64 s8, .bool true]) h13)
  (K7 (IntKind.wrap .i64 (s8 + (1 : Int))) h13)) h9) h9)
  (K3 (IntKind.wrap .i64 (s4 + (1 : Int))) h9)) h9) (0 : Int) h5)
  (K (.tuple #[.int .i64 0, .int .i64 0, .bool false]) h5)) h5) (0 : Int) h2) h0)
set_option maxRecDepth 100000 in
theorem F54_eq (g_0_0 : Int) (g_0_1 : Int) (g_0_2 : Int) (a_1 : Int) (K : Value → Heap → Prop) (h0 : Heap) : funWE Tryz.prog 54 (.seq (.leaf) (.seq (.seq (.leaf) (.block (.loop [(7, .sc (.int .i64))] (.seq (.seq (.leaf) (.cond (.leaf) (.leaf))) (.seq (.block (.seq (.leaf) (.block (.loop [(8, .sc (.int .i64))] (.seq (.seq (.leaf) (.cond (.leaf) (.leaf))) (.seq (.block (.seq (.leaf) (.cond (.seq (.leaf) (.leaf)) (.leaf)))) (.leaf))))))) (.leaf)))))) (.seq (.leaf) (.leaf)))) [.agg #[.int .i64 g_0_0, .int .i64 g_0_1, .int .i64 g_0_2], .int .u32 a_1] K h0 = F54 g_0_0 g_0_1 g_0_2 a_1 K h0 := by kernel_rfl

end Go.Proofs.YtgohecjnjadnpaaGreatDoor.W
