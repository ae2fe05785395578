/-
  The formulas of package geo. Each formula checked by the kernel. Printed by a program of this repo.
-/
import Derived.Test.YtgohecjnjadnpaaDoorProg
import Derived.Test.YtgohecjnjadnpaaDoorPl
namespace Go.Proofs.YtgohecjnjadnpaaDoor.W
open Go.Pl

-- function 110
set_option maxRecDepth 100000 in
def F110 (blocks_0 : Int) (K : Value → Heap → Prop) (h0 : Heap) : Prop := (
  K (.int .i64 (IntKind.wrap .i64 (Int.tdiv (IntKind.wrap .i64 ((IntKind.wrap .i64 (blocks_0 + (4 : Int))) - (1 : Int))) (4 : Int)))) h0)
set_option maxRecDepth 100000 in
theorem F110_eq (blocks_0 : Int) (K : Value → Heap → Prop) (h0 : Heap) : funWE Tryd.prog 110 (.seq (.leaf) (.seq (.leaf) (.leaf))) [.int .i64 blocks_0] K h0 = F110 blocks_0 K h0 := by kernel_rfl

-- function 87
set_option maxRecDepth 100000 in
def F87 (n_0 : Int) (least_1 : Int) (most_2 : Int) (K : Value → Heap → Prop) (h0 : Heap) : Prop := (
  br (decide (n_0 ≥ least_1))
  (K (.bool (decide (n_0 ≤ most_2))) h0)
  (K (.bool false) h0))
set_option maxRecDepth 100000 in
theorem F87_eq (n_0 : Int) (least_1 : Int) (most_2 : Int) (K : Value → Heap → Prop) (h0 : Heap) : funWE Tryd.prog 87 (.seq (.leaf) (.seq (.leaf) (.leaf))) [.int .i64 n_0, .int .i64 least_1, .int .i64 most_2] K h0 = F87 n_0 least_1 most_2 K h0 := by kernel_rfl

-- function 109
set_option maxRecDepth 100000 in
def F109 (zones_0 : Int) (pages_1 : Int) (K : Value → Heap → Prop) (h0 : Heap) : Prop := (
  cutT [] (fun (K1 : Unit → Heap → Prop) h6 =>
  callT Tryd.prog 87 [.int .i64 zones_0, .int .i64 11, .int .i64 24] [.sc .bool] (fun (r2 : Bool) h3 =>
  br (!r2)
  (K (.int .i64 0) h3)
  (callT Tryd.prog 87 [.int .i64 pages_1, .int .i64 4, .int .i64 16] [.sc .bool] (fun (r4 : Bool) h5 =>
  br (!r4)
  (K (.int .i64 0) h5)
  (K1 () h5)) h3)) h6) (fun (_s7 : Unit) _ h8 =>
  loopT [.sc (.int .i64)] (fun (s10 : Int) _ (K9 : Int → Heap → Prop) h11 =>
  br (decide (s10 < (64 : Int)))
  (callT Tryd.prog 110 [.int .i64 (IntKind.wrap .i64 ((64 : Int) - s10))] [.sc (.int .i64)] (fun (r12 : Int) h13 =>
  br (decide (r12 ≤ pages_1))
  (br (decide ((IntKind.wrap .i64 ((IntKind.wrap .i64 ((64 : Int) - s10)) + r12)) ≤ (IntKind.wrap .i64 (Int.tdiv (IntKind.wrap .i64 ((IntKind.wrap .i64 (zones_0 - (7 : Int))) * pages_1)) (2 : Int)))))
  (K (.int .i64 (IntKind.wrap .i64 ((64 : Int) - s10))) h13)
  (K9 (IntKind.wrap .i64 (s10 + (1 : Int))) h13))
  (K9 (IntKind.wrap .i64 (s10 + (1 : Int))) h13)) h11)
  (K (.int .i64 0) h11)) (0 : Int) h8) h0)
set_option maxRecDepth 100000 in
theorem F109_eq (zones_0 : Int) (pages_1 : Int) (K : Value → Heap → Prop) (h0 : Heap) : funWE Tryd.prog 109 (.seq (.leaf) (.cut [] (.seq (.leaf) (.cond (.seq (.leaf) (.leaf)) (.leaf))) (.seq (.leaf) (.seq (.seq (.leaf) (.block (.loop [(22, .sc (.int .i64))] (.seq (.leaf) (.seq (.cond (.leaf) (.leaf)) (.seq (.block (.seq (.leaf) (.seq (.leaf) (.seq (.leaf) (.seq (.leaf) (.cond (.seq (.leaf) (.leaf)) (.leaf))))))) (.leaf))))))) (.seq (.leaf) (.leaf)))))) [.int .i64 zones_0, .int .i64 pages_1] K h0 = F109 zones_0 pages_1 K h0 := by kernel_rfl

-- function 102
set_option maxRecDepth 100000 in
def F102 (g_0_0 : Int) (g_0_1 : Int) (g_0_2 : Int) (K : Value → Heap → Prop) (h0 : Heap) : Prop := (
  newW (.cells #[.int .i64 g_0_0, .int .i64 g_0_1, .int .i64 g_0_2] 85) (fun a1 h2 =>
  ldAggW [.int .i64, .int .i64, .int .i64] a1 (fun (x3 : Int × Int × Int) =>
  ldW (.int .i64) (Addr.add a1 0) (fun (x4 : Int) =>
  ldW (.int .i64) (Addr.add a1 1) (fun (x5 : Int) =>
  ldW (.int .i64) (Addr.add a1 2) (fun (x6 : Int) =>
  ldW (.int .i64) (Addr.add a1 0) (fun (x7 : Int) =>
  ldW (.int .i64) (Addr.add a1 1) (fun (x8 : Int) =>
  callQ Tryd.prog 109 [.int .i64 x7, .int .i64 x8] [.sc (.int .i64)] (fun (r9 : Int) =>
  eqGen Tryd.prog 85 (.agg #[.int .i64 x3.1, .int .i64 x3.2.1, .int .i64 x3.2.2]) (.agg #[.int .i64 x4, .int .i64 x5, .int .i64 (mm2 false x6 r9)]) (fun b10 =>
  br b10
  (ldW (.int .i64) (Addr.add a1 2) (fun (x11 : Int) =>
  K (.bool (decide (x11 ≥ (1 : Int)))) h2) h2)
  (K (.bool false) h2))) h2) h2) h2) h2) h2) h2) h2) h0)
set_option maxRecDepth 100000 in
theorem F102_eq (g_0_0 : Int) (g_0_1 : Int) (g_0_2 : Int) (K : Value → Heap → Prop) (h0 : Heap) : funWE Tryd.prog 102 (.seq (.leaf) (.seq (.draw (odp [0, 1, 2, 3, 4, 5, 6, 7, 8, 9, 10, 11, 12, 13, 14, 15, 16, 17, 18, 19, 20] .nil) [11]) (.leaf))) [.agg #[.int .i64 g_0_0, .int .i64 g_0_1, .int .i64 g_0_2]] K h0 = F102 g_0_0 g_0_1 g_0_2 K h0 := by kernel_rfl

-- function 50
set_option maxRecDepth 100000 in
def F50 (g_0_0 : Int) (g_0_1 : Int) (g_0_2 : Int) (K : Value → Heap → Prop) (h0 : Heap) : Prop := (
  newW (.cells #[.int .i64 g_0_0, .int .i64 g_0_1, .int .i64 g_0_2] 85) (fun a1 h2 =>
  ldW (.int .i64) (Addr.add a1 0) (fun (x3 : Int) =>
  K (.int .i64 (IntKind.wrap .i64 (x3 - (2 : Int)))) h2) h2) h0)
set_option maxRecDepth 100000 in
theorem F50_eq (g_0_0 : Int) (g_0_1 : Int) (g_0_2 : Int) (K : Value → Heap → Prop) (h0 : Heap) : funWE Tryd.prog 50 (.seq (.leaf) (.seq (.leaf) (.leaf))) [.agg #[.int .i64 g_0_0, .int .i64 g_0_1, .int .i64 g_0_2]] K h0 = F50 g_0_0 g_0_1 g_0_2 K h0 := by kernel_rfl

-- function 51
set_option maxRecDepth 100000 in
def F51 (g_0_0 : Int) (g_0_1 : Int) (g_0_2 : Int) (zone_1 : Int) (page_2 : Int) (K : Value → Heap → Prop) (h0 : Heap) : Prop := (
  newW (.cells #[.int .i64 g_0_0, .int .i64 g_0_1, .int .i64 g_0_2] 85) (fun a1 h2 =>
  cutT [] (fun (K3 : Unit → Heap → Prop) h12 =>
  ldAggW [.int .i64, .int .i64, .int .i64] a1 (fun (x4 : Int × Int × Int) =>
  callT Tryd.prog 50 [.agg #[.int .i64 x4.1, .int .i64 x4.2.1, .int .i64 x4.2.2]] [.sc (.int .i64)] (fun (r5 : Int) h6 =>
  callT Tryd.prog 87 [.int .i64 zone_1, .int .i64 0, .int .i64 (IntKind.wrap .i64 (r5 - (1 : Int)))] [.sc .bool] (fun (r7 : Bool) h8 =>
  br (!r7)
  (K (.int .u32 0) h8)
  (ldW (.int .i64) (Addr.add a1 1) (fun (x9 : Int) =>
  callT Tryd.prog 87 [.int .i64 page_2, .int .i64 0, .int .i64 (IntKind.wrap .i64 (x9 - (1 : Int)))] [.sc .bool] (fun (r10 : Bool) h11 =>
  br (!r10)
  (K (.int .u32 0) h11)
  (K3 () h11)) h8) h8)) h6) h12) h12) (fun (_s13 : Unit) _ h14 =>
  ldW (.int .i64) (Addr.add a1 1) (fun (x15 : Int) =>
  K (.int .u32 (IntKind.wrap .u32 (IntKind.wrap .i64 ((IntKind.wrap .i64 ((IntKind.wrap .i64 (zone_1 * x15)) + page_2)) + (1 : Int))))) h14) h14) h2) h0)
set_option maxRecDepth 100000 in
theorem F51_eq (g_0_0 : Int) (g_0_1 : Int) (g_0_2 : Int) (zone_1 : Int) (page_2 : Int) (K : Value → Heap → Prop) (h0 : Heap) : funWE Tryd.prog 51 (.seq (.leaf) (.cut [] (.seq (.leaf) (.cond (.seq (.leaf) (.leaf)) (.leaf))) (.seq (.leaf) (.leaf)))) [.agg #[.int .i64 g_0_0, .int .i64 g_0_1, .int .i64 g_0_2], .int .i64 zone_1, .int .i64 page_2] K h0 = F51 g_0_0 g_0_1 g_0_2 zone_1 page_2 K h0 := by kernel_rfl

-- function 88
set_option maxRecDepth 100000 in
def F88 (g_0_0 : Int) (g_0_1 : Int) (g_0_2 : Int) (a_1 : Int) (K : Value → Heap → Prop) (h0 : Heap) : Prop := (
  newW (.cells #[.int .i64 g_0_0, .int .i64 g_0_1, .int .i64 g_0_2] 85) (fun a1 h2 =>
  cutT [] (fun (K3 : Unit → Heap → Prop) h8 =>
  br (a_1 == (0 : Int))
  (K (.tuple #[.int .i64 0, .int .i64 0, .bool false]) h8)
  (ldAggW [.int .i64, .int .i64, .int .i64] a1 (fun (x4 : Int × Int × Int) =>
  ldW (.int .i64) (Addr.add a1 1) (fun (x5 : Int) =>
  callT Tryd.prog 50 [.agg #[.int .i64 x4.1, .int .i64 x4.2.1, .int .i64 x4.2.2]] [.sc (.int .i64)] (fun (r6 : Int) h7 =>
  (br (decide ((IntKind.wrap .u64 a_1) > (IntKind.wrap .u64 (IntKind.wrap .i64 (r6 * x5)))))
  (K (.tuple #[.int .i64 0, .int .i64 0, .bool false]) h7)
  (K3 () h7) ∧ Ext h8 h7)) h8) h8) h8)) (fun (_s9 : Unit) _ h10 =>
  ldW (.int .i64) (Addr.add a1 1) (fun (x11 : Int) =>
  ckB (!decide (x11 = 0)) (ldW (.int .i64) (Addr.add a1 1) (fun (x12 : Int) =>
  ckB (!decide (x12 = 0)) (K (.tuple #[.int .i64 (IntKind.wrap .i64 (Int.tdiv (IntKind.wrap .i64 (IntKind.wrap .u32 (a_1 - (1 : Int)))) x11)), .int .i64 (Int.tmod (IntKind.wrap .i64 (IntKind.wrap .u32 (a_1 - (1 : Int)))) x12), .bool true]) h10)) h10)) h10) h2) h0)
set_option maxRecDepth 100000 in
theorem F88_eq (g_0_0 : Int) (g_0_1 : Int) (g_0_2 : Int) (a_1 : Int) (K : Value → Heap → Prop) (h0 : Heap) : funWE Tryd.prog 88 (.seq (.leaf) (.cut [] (.seq (.draw (odp [0, 1, 2, 3, 4, 5, 7, 8, 6, 9, 10, 11, 12] .nil) [100006]) (.cond (.seq (.leaf) (.leaf)) (.leaf))) (.seq (.leaf) (.seq (.draw (odp [0, 1, 2, 3, 4, 5, 6, 7, 8, 9, 10] .nil) []) (.leaf))))) [.agg #[.int .i64 g_0_0, .int .i64 g_0_1, .int .i64 g_0_2], .int .u32 a_1] K h0 = F88 g_0_0 g_0_1 g_0_2 a_1 K h0 := by kernel_rfl

end Go.Proofs.YtgohecjnjadnpaaDoor.W
