/-
  The formulas of the reference of geo. Each formula checked by the kernel. Printed by a program of this repo.
-/
import Derived.Test.YtgohecjnjadnpaaDoorProg
import Derived.Test.YtgohecjnjadnpaaDoorPl
namespace Go.Proofs.YtgohecjnjadnpaaDoor.W
open Go.Pl

-- function 84
set_option maxRecDepth 100000 in
def F84 (zones_0 : Int) (pages_1 : Int) (K : Value → Heap → Prop) (h0 : Heap) : Prop := (
  cutT [] (fun (K1 : Unit → Heap → Prop) h2 =>
  br (decide (zones_0 < (11 : Int)))
  (K (.int .i64 0) h2)
  (br (decide (zones_0 > (24 : Int)))
  (K (.int .i64 0) h2)
  (br (decide (pages_1 < (4 : Int)))
  (K (.int .i64 0) h2)
  (br (decide (pages_1 > (16 : Int)))
  (K (.int .i64 0) h2)
  (K1 () h2))))) (fun (_s3 : Unit) _ h4 =>
  loopT [.sc (.int .i64), .sc (.int .i64)] (fun (s6 : Int × Int) _ (K5 : (Int × Int) → Heap → Prop) h7 =>
  br (decide (s6.2 ≤ (64 : Int)))
  (callT Tryd.prog 103 [.int .i64 s6.2] [.sc (.int .i64)] (fun (r8 : Int) h9 =>
  br (decide (r8 ≤ pages_1))
  (callT Tryd.prog 103 [.int .i64 s6.2] [.sc (.int .i64)] (fun (r10 : Int) h11 =>
  br (decide ((IntKind.wrap .i64 ((2 : Int) * (IntKind.wrap .i64 (s6.2 + r10)))) ≤ (IntKind.wrap .i64 ((IntKind.wrap .i64 (zones_0 - (7 : Int))) * pages_1))))
  (K5 (s6.2, (IntKind.wrap .i64 (s6.2 + (1 : Int)))) h11)
  (K5 (s6.1, (IntKind.wrap .i64 (s6.2 + (1 : Int)))) h11)) h9)
  (K5 (s6.1, (IntKind.wrap .i64 (s6.2 + (1 : Int)))) h9)) h7)
  (K (.int .i64 s6.1) h7)) ((0 : Int), (1 : Int)) h4) h0)
set_option maxRecDepth 100000 in
theorem F84_eq (zones_0 : Int) (pages_1 : Int) (K : Value → Heap → Prop) (h0 : Heap) : funWE Tryd.prog 84 (.seq (.leaf) (.seq (.leaf) (.cut [] (.seq (.leaf) (.cond (.seq (.leaf) (.leaf)) (.leaf))) (.seq (.seq (.leaf) (.block (.loop [(5, .sc (.int .i64)), (6, .sc (.int .i64))] (.seq (.seq (.leaf) (.cond (.leaf) (.leaf))) (.seq (.block (.seq (.leaf) (.cond (.leaf) (.leaf)))) (.leaf)))))) (.seq (.leaf) (.leaf)))))) [.int .i64 zones_0, .int .i64 pages_1] K h0 = F84 zones_0 pages_1 K h0 := by kernel_rfl

-- function 43
set_option maxRecDepth 100000 in
def F43 (g_0_0 : Int) (g_0_1 : Int) (g_0_2 : Int) (K : Value → Heap → Prop) (h0 : Heap) : Prop := (
  newW (.cells #[.int .i64 g_0_0, .int .i64 g_0_1, .int .i64 g_0_2] 90) (fun a1 h2 =>
  ldW (.int .i64) (Addr.add a1 2) (fun (x3 : Int) =>
  br (decide (x3 ≥ (1 : Int)))
  (ldW (.int .i64) (Addr.add a1 2) (fun (x4 : Int) =>
  ldW (.int .i64) (Addr.add a1 0) (fun (x5 : Int) =>
  ldW (.int .i64) (Addr.add a1 1) (fun (x6 : Int) =>
  callT Tryd.prog 84 [.int .i64 x5, .int .i64 x6] [.sc (.int .i64)] (fun (r7 : Int) h8 =>
  (cellH h8 (Addr.add a1 2) = some (.int .i64 x4) ∧ K (.bool (decide (x4 ≤ r7))) h8)) h2) h2) h2) h2)
  (K (.bool false) h2)) h2) h0)
set_option maxRecDepth 100000 in
theorem F43_eq (g_0_0 : Int) (g_0_1 : Int) (g_0_2 : Int) (K : Value → Heap → Prop) (h0 : Heap) : funWE Tryd.prog 43 (.seq (.leaf) (.seq (.draw (odp [0, 1, 2, 3, 4, 5, 6, 7, 8, 9, 10, 11, 12, 13] .nil) [200005]) (.leaf))) [.agg #[.int .i64 g_0_0, .int .i64 g_0_1, .int .i64 g_0_2]] K h0 = F43 g_0_0 g_0_1 g_0_2 K h0 := by kernel_rfl

-- function 103
set_option maxRecDepth 100000 in
def F103 (blocks_0 : Int) (K : Value → Heap → Prop) (h0 : Heap) : Prop := (
  br (decide ((Int.tmod blocks_0 (4 : Int)) > (0 : Int)))
  (K (.int .i64 (IntKind.wrap .i64 ((IntKind.wrap .i64 (Int.tdiv blocks_0 (4 : Int))) + (1 : Int)))) h0)
  (K (.int .i64 (IntKind.wrap .i64 (Int.tdiv blocks_0 (4 : Int)))) h0))
set_option maxRecDepth 100000 in
theorem F103_eq (blocks_0 : Int) (K : Value → Heap → Prop) (h0 : Heap) : funWE Tryd.prog 103 (.seq (.leaf) (.seq (.leaf) (.seq (.seq (.leaf) (.cond (.leaf) (.leaf))) (.seq (.leaf) (.leaf))))) [.int .i64 blocks_0] K h0 = F103 blocks_0 K h0 := by kernel_rfl

end Go.Proofs.YtgohecjnjadnpaaDoor.W
