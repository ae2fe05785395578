/-
  The formulas of package zns. Each formula checked by the kernel. Printed by a program of this repo.
-/
import Derived.Test.YtgohecjnjadnpaaGreatDoorProg
import Derived.Test.YtgohecjnjadnpaaGreatDoorPl
namespace Go.Proofs.YtgohecjnjadnpaaGreatDoor.W
open Go.Pl

-- function 7
set_option maxRecDepth 100000 in
def F7 (zones_0 : Int) (pages_1 : Int) (K : Value → Heap → Prop) (h0 : Heap) : Prop := (
  cutT [] (fun (K1 : Unit → Heap → Prop) h2 =>
  br (decide (zones_0 < (1 : Int)))
  (K (.tuple #[.pointer none, .iface 35 (.int .i64 1)]) h2)
  (br (decide (zones_0 > (24 : Int)))
  (K (.tuple #[.pointer none, .iface 35 (.int .i64 1)]) h2)
  (br (decide (pages_1 < (1 : Int)))
  (K (.tuple #[.pointer none, .iface 35 (.int .i64 1)]) h2)
  (br (decide (pages_1 > (16 : Int)))
  (K (.tuple #[.pointer none, .iface 35 (.int .i64 1)]) h2)
  (K1 () h2))))) (fun (_s3 : Unit) _ h4 =>
  mkW Tryz.prog 113 zones_0 zones_0 (fun b5 n6 c7 h8 =>
  newW (.cells #[.slice b5 n6 c7, .int .i64 pages_1, .int .i64 (-1), .int .i64 0, .bool false] 75) (fun a9 h10 =>
  K (.tuple #[.pointer (some a9), .nilIface]) h10) h8) h4) h0)
set_option maxRecDepth 100000 in
theorem F7_eq (zones_0 : Int) (pages_1 : Int) (K : Value → Heap → Prop) (h0 : Heap) : funWE Tryz.prog 7 (.seq (.leaf) (.cut [] (.seq (.leaf) (.cond (.seq (.leaf) (.leaf)) (.leaf))) (.seq (.leaf) (.leaf)))) [.int .i64 zones_0, .int .i64 pages_1] K h0 = F7 zones_0 pages_1 K h0 := by kernel_rfl

-- function 24
set_option maxRecDepth 100000 in
def F24 (d_0 : Addr) (K : Value → Heap → Prop) (h0 : Heap) : Prop := (
  ldW .slice (Addr.add d_0 0) (fun (x1 : Option Addr × Nat × Nat) =>
  K (.int .i64 (((x1.2.1 : Nat) : Int))) h0) h0)
set_option maxRecDepth 100000 in
theorem F24_eq (d_0 : Addr) (K : Value → Heap → Prop) (h0 : Heap) : funWE Tryz.prog 24 (.seq (.leaf) (.seq (.leaf) (.leaf))) [.pointer (some d_0)] K h0 = F24 d_0 K h0 := by kernel_rfl

-- function 25
set_option maxRecDepth 100000 in
def F25 (d_0 : Addr) (K : Value → Heap → Prop) (h0 : Heap) : Prop := (
  ldW (.int .i64) (Addr.add d_0 1) (fun (x1 : Int) =>
  K (.int .i64 x1) h0) h0)
set_option maxRecDepth 100000 in
theorem F25_eq (d_0 : Addr) (K : Value → Heap → Prop) (h0 : Heap) : funWE Tryz.prog 25 (.seq (.leaf) (.seq (.leaf) (.leaf))) [.pointer (some d_0)] K h0 = F25 d_0 K h0 := by kernel_rfl

-- function 47
set_option maxRecDepth 100000 in
def F47 (d_0 : Addr) (n_1 : Int) (K : Value → Heap → Prop) (h0 : Heap) : Prop := (
  br (decide (n_1 ≥ (0 : Int)))
  (ldW .slice (Addr.add d_0 0) (fun (x1 : Option Addr × Nat × Nat) =>
  K (.bool (decide (n_1 < (((x1.2.1 : Nat) : Int))))) h0) h0)
  (K (.bool false) h0))
set_option maxRecDepth 100000 in
theorem F47_eq (d_0 : Addr) (n_1 : Int) (K : Value → Heap → Prop) (h0 : Heap) : funWE Tryz.prog 47 (.seq (.leaf) (.seq (.leaf) (.leaf))) [.pointer (some d_0), .int .i64 n_1] K h0 = F47 d_0 n_1 K h0 := by kernel_rfl

-- function 70
set_option maxRecDepth 100000 in
def F70 (d_0 : Addr) (n_1 : Int) (K : Value → Heap → Prop) (h0 : Heap) : Prop := (
  callT Tryz.prog 47 [.pointer (some d_0), .int .i64 n_1] [.sc .bool] (fun (r1 : Bool) h2 =>
  br (!r1)
  (newW (.cells #[.int .i64 0, .bool false, .slice none 0 0] 113) (fun a3 h4 =>
  K (.pointer (some a3)) h4) h2)
  (ldW .slice (Addr.add d_0 0) (fun (x5 : Option Addr × Nat × Nat) =>
  ptrW x5.1 (fun a6 =>
  idxW n_1 x5.2.1 true (K (.pointer (some (Addr.add a6 (Int.toNat n_1 * 3)))) h2))) h2)) h0)
set_option maxRecDepth 100000 in
theorem F70_eq (d_0 : Addr) (n_1 : Int) (K : Value → Heap → Prop) (h0 : Heap) : funWE Tryz.prog 70 (.seq (.leaf) (.seq (.seq (.leaf) (.cond (.seq (.leaf) (.leaf)) (.leaf))) (.seq (.leaf) (.leaf)))) [.pointer (some d_0), .int .i64 n_1] K h0 = F70 d_0 n_1 K h0 := by kernel_rfl

-- function 61
set_option maxRecDepth 100000 in
def F61 (d_0 : Addr) (n_1 : Int) (K : Value → Heap → Prop) (h0 : Heap) : Prop := (
  callT Tryz.prog 70 [.pointer (some d_0), .int .i64 n_1] [.sc .ptr] (fun (r1 : (Option Addr)) h2 =>
  ptrW r1 (fun a3 =>
  ldW .slice (Addr.add a3 2) (fun (x4 : Option Addr × Nat × Nat) =>
  K (.int .i64 (((x4.2.1 : Nat) : Int))) h2) h2)) h0)
set_option maxRecDepth 100000 in
theorem F61_eq (d_0 : Addr) (n_1 : Int) (K : Value → Heap → Prop) (h0 : Heap) : funWE Tryz.prog 61 (.seq (.leaf) (.seq (.leaf) (.leaf))) [.pointer (some d_0), .int .i64 n_1] K h0 = F61 d_0 n_1 K h0 := by kernel_rfl

-- function 67
set_option maxRecDepth 100000 in
def F67 (d_0 : Addr) (n_1 : Int) (K : Value → Heap → Prop) (h0 : Heap) : Prop := (
  callT Tryz.prog 70 [.pointer (some d_0), .int .i64 n_1] [.sc .ptr] (fun (r1 : (Option Addr)) h2 =>
  ptrW r1 (fun a3 =>
  ldW .slice (Addr.add a3 2) (fun (x4 : Option Addr × Nat × Nat) =>
  br ((((x4.2.1 : Nat) : Int)) == (0 : Int))
  (K (.int .i64 0) h2)
  (ptrW r1 (fun a5 =>
  ldW .bool (Addr.add (Addr.add a5 0) 1) (fun (x6 : Bool) =>
  br x6
  (K (.int .i64 2) h2)
  (ptrW r1 (fun a7 =>
  ldW .slice (Addr.add a7 2) (fun (x8 : Option Addr × Nat × Nat) =>
  ldW (.int .i64) (Addr.add d_0 1) (fun (x9 : Int) =>
  br ((((x8.2.1 : Nat) : Int)) == x9)
  (K (.int .i64 2) h2)
  (K (.int .i64 1) h2)) h2) h2))) h2))) h2)) h0)
set_option maxRecDepth 100000 in
theorem F67_eq (d_0 : Addr) (n_1 : Int) (K : Value → Heap → Prop) (h0 : Heap) : funWE Tryz.prog 67 (.seq (.leaf) (.seq (.leaf) (.seq (.block (.seq (.leaf) (.cond (.seq (.leaf) (.leaf)) (.seq (.draw (odp [0, 1, 2, 3, 4, 5, 6, 7, 8, 9, 10, 11, 12, 13, 14, 15, 16, 17] .nil) []) (.cond (.seq (.leaf) (.leaf)) (.leaf)))))) (.seq (.leaf) (.leaf))))) [.pointer (some d_0), .int .i64 n_1] K h0 = F67 d_0 n_1 K h0 := by kernel_rfl

-- function 48
set_option maxRecDepth 100000 in
def F48 (d_0 : Addr) (e_1 : Int) (do_2 : Value) (K : Value → Heap → Prop) (h0 : Heap) : Prop := (
  ldW .bool (Addr.add d_0 4) (fun (x1 : Bool) =>
  br x1
  (K (.iface 35 (.int .i64 7)) h0)
  (br (e_1 != (0 : Int))
  (K (.iface 35 (.int .i64 e_1)) h0)
  (ldW (.int .i64) (Addr.add d_0 2) (fun (x2 : Int) =>
  br (x2 == (0 : Int))
  (stW (Addr.add d_0 4) (.bool true) (fun h3 =>
  K (.iface 35 (.int .i64 7)) h3) h0)
  (ldW (.int .i64) (Addr.add d_0 2) (fun (x4 : Int) =>
  stW (Addr.add d_0 2) (.int .i64 (mm2 true (IntKind.wrap .i64 (x4 - (1 : Int))) (-1 : Int))) (fun h5 =>
  ldW (.int .i64) (Addr.add d_0 3) (fun (x6 : Int) =>
  stW (Addr.add d_0 3) (.int .i64 (IntKind.wrap .i64 (x6 + (1 : Int)))) (fun h7 =>
  callW Tryz.prog (.sc .any) do_2 [] (fun (_x8 : Value) h9 =>
  K (.nilIface) h9) h7) h5) h5) h0) h0)) h0))) h0)
set_option maxRecDepth 100000 in
theorem F48_eq (d_0 : Addr) (e_1 : Int) (do_2 : Value) (K : Value → Heap → Prop) (h0 : Heap) : funWE Tryz.prog 48 (.seq (.leaf) (.seq (.block (.seq (.leaf) (.cond (.seq (.leaf) (.leaf)) (.seq (.leaf) (.cond (.seq (.leaf) (.leaf)) (.seq (.leaf) (.cond (.seq (.leaf) (.seq (.leaf) (.leaf))) (.leaf)))))))) (.seq (.leaf) (.seq (.leaf) (.seq (.leaf) (.seq (.leaf) (.leaf))))))) [.pointer (some d_0), .int .i64 e_1, do_2] K h0 = F48 d_0 e_1 do_2 K h0 := by kernel_rfl

-- function 40
set_option maxRecDepth 100000 in
def F40 (d_0 : Addr) (n_1 : Int) (b_2 : Option Addr) (b_2l b_2c : Nat) (K : Value → Heap → Prop) (h0 : Heap) : Prop := (
  newW (.cells #[.pointer (some d_0)] 29) (fun a1 h2 =>
  newW (.cells #[.int .i64 n_1] 3) (fun a3 h4 =>
  newW (.cells #[.slice b_2 b_2l b_2c] 43) (fun a5 h6 =>
  cutT [.sc (.int .i64)] (fun (K7 : Int → Heap → Prop) h8 =>
  cutT [.sc .bool] (fun (K9 : Bool → Heap → Prop) h15 =>
  ldW .ptr a1 (fun (x10 : Option Addr) =>
  ldW (.int .i64) a3 (fun (x11 : Int) =>
  callT Tryz.prog 47 [.pointer x10, .int .i64 x11] [.sc .bool] (fun (r12 : Bool) h13 =>
  br (!r12)
  (K9 true h13)
  (ldW .slice a5 (fun (x14 : Option Addr × Nat × Nat) =>
  K9 ((((x14.2.1 : Nat) : Int)) != (33 : Int)) h13) h13)) h15) h15) h15) (fun (s16 : Bool) _ h17 =>
  br s16
  (K7 (1 : Int) h17)
  (ldW .ptr a1 (fun (x18 : Option Addr) =>
  ldW (.int .i64) a3 (fun (x19 : Int) =>
  callT Tryz.prog 67 [.pointer x18, .int .i64 x19] [.sc (.int .i64)] (fun (r20 : Int) h21 =>
  br (r20 == (2 : Int))
  (K7 (5 : Int) h21)
  (K7 (0 : Int) h21)) h17) h17) h17)) h8) (fun (s22 : Int) _ h23 =>
  ldW .ptr a1 (fun (x24 : Option Addr) =>
  ldW (.int .i64) a3 (fun (x25 : Int) =>
  callT Tryz.prog 61 [.pointer x24, .int .i64 x25] [.sc (.int .i64)] (fun (r26 : Int) h27 =>
  ldW .ptr a1 (fun (x28 : Option Addr) =>
  callT Tryz.prog 48 [.pointer x28, .int .i64 s22, .func (.func 68) #[] #[.pointer (some a1), .pointer (some a3), .pointer (some a5)]] [.sc .any] (fun (r29 : Value) h30 =>
  ifW r29 (br (!(isNilV r29))
  (K (.tuple #[.int .i64 0, r29]) h30)
  (K (.tuple #[.int .i64 r26, .nilIface]) h30))) h27) h27) h23) h23) h23) h6) h4) h2) h0)
set_option maxRecDepth 100000 in
theorem F40_eq (d_0 : Addr) (n_1 : Int) (b_2 : Option Addr) (b_2l b_2c : Nat) (K : Value → Heap → Prop) (h0 : Heap) : funWE Tryz.prog 40 (.seq (.leaf) (.seq (.leaf) (.seq (.bcut [(8, .sc (.int .i64))] (.cut [(11, .sc .bool)] (.leaf) (.cond (.leaf) (.seq (.leaf) (.cond (.leaf) (.leaf)))))) (.seq (.leaf) (.seq (.seq (.leaf) (.seq (.leaf) (.cond (.seq (.leaf) (.leaf)) (.leaf)))) (.seq (.leaf) (.leaf))))))) [.pointer (some d_0), .int .i64 n_1, .slice b_2 b_2l b_2c] K h0 = F40 d_0 n_1 b_2 b_2l b_2c K h0 := by kernel_rfl

-- function 42
set_option maxRecDepth 100000 in
def F42 (d_0 : Addr) (n_1 : Int) (page_2 : Int) (K : Value → Heap → Prop) (h0 : Heap) : Prop := (
  callT Tryz.prog 70 [.pointer (some d_0), .int .i64 n_1] [.sc .ptr] (fun (r1 : (Option Addr)) h2 =>
  cutT [] (fun (K3 : Unit → Heap → Prop) h4 =>
  ldW .bool (Addr.add d_0 4) (fun (x5 : Bool) =>
  br x5
  (K (.tuple #[.slice none 0 0, .iface 35 (.int .i64 7)]) h4)
  (cutT [.sc .bool] (fun (K6 : Bool → Heap → Prop) h10 =>
  callT Tryz.prog 47 [.pointer (some d_0), .int .i64 n_1] [.sc .bool] (fun (r7 : Bool) h8 =>
  br (!r7)
  (K6 true h8)
  (br (decide (page_2 < (0 : Int)))
  (K6 true h8)
  (ldW (.int .i64) (Addr.add d_0 1) (fun (x9 : Int) =>
  K6 (decide (page_2 ≥ x9)) h8) h8))) h10) (fun (s11 : Bool) _ h12 =>
  br s11
  (K (.tuple #[.slice none 0 0, .iface 35 (.int .i64 1)]) h12)
  (ptrW r1 (fun a13 =>
  ldW .slice (Addr.add a13 2) (fun (x14 : Option Addr × Nat × Nat) =>
  br (decide (page_2 ≥ (((x14.2.1 : Nat) : Int))))
  (K (.tuple #[.slice none 0 0, .iface 35 (.int .i64 8)]) h12)
  (ptrW r1 (fun a15 =>
  ldW .slice (Addr.add a15 2) (fun (x16 : Option Addr × Nat × Nat) =>
  ptrW x16.1 (fun a17 =>
  idxW page_2 x16.2.1 true (ldW .slice (Addr.add a17 (Int.toNat page_2 * 1)) (fun (x18 : Option Addr × Nat × Nat) =>
  br ((((x18.2.1 : Nat) : Int)) == (0 : Int))
  (K (.tuple #[.slice none 0 0, .iface 35 (.int .i64 6)]) h12)
  (K3 () h12)) h12))) h12))) h12))) h4)) h4) (fun (_s19 : Unit) _ h20 =>
  ptrW r1 (fun a21 =>
  ldW .slice (Addr.add a21 2) (fun (x22 : Option Addr × Nat × Nat) =>
  ptrW x22.1 (fun a23 =>
  idxW page_2 x22.2.1 true (ldW .slice (Addr.add a23 (Int.toNat page_2 * 1)) (fun (x24 : Option Addr × Nat × Nat) =>
  callT Tryz.prog 69 [.slice x24.1 x24.2.1 x24.2.2] [.sc .slice] (fun (r25 : (Option Addr × Nat × Nat)) h26 =>
  K (.tuple #[.slice r25.1 r25.2.1 r25.2.2, .nilIface]) h26) h20) h20))) h20)) h2) h0)
set_option maxRecDepth 100000 in
theorem F42_eq (d_0 : Addr) (n_1 : Int) (page_2 : Int) (K : Value → Heap → Prop) (h0 : Heap) : funWE Tryz.prog 42 (.seq (.leaf) (.seq (.leaf) (.seq (.bcut [] (.seq (.leaf) (.cond (.seq (.leaf) (.leaf)) (.cut [(18, .sc .bool)] (.leaf) (.cond (.seq (.leaf) (.leaf)) (.seq (.leaf) (.cond (.seq (.leaf) (.leaf)) (.seq (.leaf) (.cond (.seq (.leaf) (.leaf)) (.leaf)))))))))) (.seq (.leaf) (.leaf))))) [.pointer (some d_0), .int .i64 n_1, .int .i64 page_2] K h0 = F42 d_0 n_1 page_2 K h0 := by kernel_rfl

-- function 26
set_option maxRecDepth 100000 in
def F26 (d_0 : Addr) (n_1 : Int) (K : Value → Heap → Prop) (h0 : Heap) : Prop := (
  newW (.cells #[.pointer (some d_0)] 29) (fun a1 h2 =>
  newW (.cells #[.int .i64 n_1] 3) (fun a3 h4 =>
  ldW .ptr a1 (fun (x5 : Option Addr) =>
  ldW (.int .i64) a3 (fun (x6 : Int) =>
  callT Tryz.prog 47 [.pointer x5, .int .i64 x6] [.sc .bool] (fun (r7 : Bool) h8 =>
  br (!r7)
  (ldW .ptr a1 (fun (x9 : Option Addr) =>
  callT Tryz.prog 48 [.pointer x9, .int .i64 1, .func (.func 49) #[] #[.pointer (some a1), .pointer (some a3)]] [.sc .any] (fun (r10 : Value) h11 =>
  K (r10) h11) h8) h8)
  (ldW .ptr a1 (fun (x12 : Option Addr) =>
  callT Tryz.prog 48 [.pointer x12, .int .i64 0, .func (.func 49) #[] #[.pointer (some a1), .pointer (some a3)]] [.sc .any] (fun (r13 : Value) h14 =>
  K (r13) h14) h8) h8)) h4) h4) h4) h2) h0)
set_option maxRecDepth 100000 in
theorem F26_eq (d_0 : Addr) (n_1 : Int) (K : Value → Heap → Prop) (h0 : Heap) : funWE Tryz.prog 26 (.seq (.leaf) (.seq (.leaf) (.seq (.seq (.leaf) (.cond (.leaf) (.leaf))) (.seq (.leaf) (.leaf))))) [.pointer (some d_0), .int .i64 n_1] K h0 = F26 d_0 n_1 K h0 := by kernel_rfl

-- function 27
set_option maxRecDepth 100000 in
def F27 (d_0 : Addr) (K : Value → Heap → Prop) (h0 : Heap) : Prop := (
  callT Tryz.prog 48 [.pointer (some d_0), .int .i64 0, .func (.func 50) #[.pointer (some d_0)] #[]] [.sc .any] (fun (r1 : Value) h2 =>
  K (r1) h2) h0)
set_option maxRecDepth 100000 in
theorem F27_eq (d_0 : Addr) (K : Value → Heap → Prop) (h0 : Heap) : funWE Tryz.prog 27 (.seq (.leaf) (.seq (.leaf) (.leaf))) [.pointer (some d_0)] K h0 = F27 d_0 K h0 := by kernel_rfl

-- function 50
set_option maxRecDepth 100000 in
def F50 (d_0 : Addr) (K : Value → Heap → Prop) (h0 : Heap) : Prop := (
  ldW .slice (Addr.add d_0 0) (fun (x1 : Option Addr × Nat × Nat) =>
  loopT [.sc (.int .i64)] (fun (s3 : Int) _ (K2 : Int → Heap → Prop) h4 =>
  br (decide (s3 < (((x1.2.1 : Nat) : Int))))
  (ldW .slice (Addr.add d_0 0) (fun (x5 : Option Addr × Nat × Nat) =>
  ldW .slice (Addr.add d_0 0) (fun (x6 : Option Addr × Nat × Nat) =>
  ptrW x6.1 (fun a7 =>
  idxW s3 x6.2.1 true (ldW .slice (Addr.add (Addr.add a7 (Int.toNat s3 * 3)) 2) (fun (x8 : Option Addr × Nat × Nat) =>
  ptrW x5.1 (fun a9 =>
  idxW s3 x5.2.1 true (stW (Addr.add (Addr.add (Addr.add a9 (Int.toNat s3 * 3)) 0) 0) (.int .i64 (((x8.2.1 : Nat) : Int))) (fun h10 =>
  K2 (IntKind.wrap .i64 (s3 + (1 : Int))) h10) h4))) h4))) h4) h4)
  (K (.tuple #[]) h4)) (0 : Int) h0) h0)
set_option maxRecDepth 100000 in
theorem F50_eq (d_0 : Addr) (K : Value → Heap → Prop) (h0 : Heap) : funWE Tryz.prog 50 (.seq (.leaf) (.block (.loop [(8, .sc (.int .i64))] (.seq (.leaf) (.seq (.cond (.leaf) (.leaf)) (.seq (.block (.seq (.leaf) (.draw (odp [0, 1, 2, 3, 4, 5, 6, 7, 8, 9, 10, 11, 12, 13, 14, 15, 16, 17] .nil) []))) (.leaf))))))) [.pointer (some d_0)] K h0 = F50 d_0 K h0 := by kernel_rfl

-- function 28
set_option maxRecDepth 100000 in
def F28 (d_0 : Addr) (n_1 : Int) (K : Value → Heap → Prop) (h0 : Heap) : Prop := (
  stW (Addr.add d_0 2) (.int .i64 (mm2 true n_1 (-1 : Int))) (fun h1 =>
  K (.tuple #[]) h1) h0)
set_option maxRecDepth 100000 in
theorem F28_eq (d_0 : Addr) (n_1 : Int) (K : Value → Heap → Prop) (h0 : Heap) : funWE Tryz.prog 28 (.leaf) [.pointer (some d_0), .int .i64 n_1] K h0 = F28 d_0 n_1 K h0 := by kernel_rfl

-- function 18
set_option maxRecDepth 100000 in
def F18 (d_0 : Addr) (K : Value → Heap → Prop) (h0 : Heap) : Prop := (
  ldW (.int .i64) (Addr.add d_0 3) (fun (x1 : Int) =>
  K (.int .i64 x1) h0) h0)
set_option maxRecDepth 100000 in
theorem F18_eq (d_0 : Addr) (K : Value → Heap → Prop) (h0 : Heap) : funWE Tryz.prog 18 (.seq (.leaf) (.seq (.leaf) (.leaf))) [.pointer (some d_0)] K h0 = F18 d_0 K h0 := by kernel_rfl

-- function 29
set_option maxRecDepth 100000 in
def F29 (d_0 : Addr) (keep_1 : Option Addr) (keep_1l _keep_1c : Nat) (tear_2 : Option Addr) (tear_2l _tear_2c : Nat) (K : Value → Heap → Prop) (h0 : Heap) : Prop := (
  ldW .slice (Addr.add d_0 0) (fun (x1 : Option Addr × Nat × Nat) =>
  loopT [.sc (.int .i64)] (fun (s3 : Int) _ (K2 : Int → Heap → Prop) h4 =>
  br (decide (s3 < (((x1.2.1 : Nat) : Int))))
  (ldW .slice (Addr.add d_0 0) (fun (x5 : Option Addr × Nat × Nat) =>
  ptrW x5.1 (fun a6 =>
  idxW s3 x5.2.1 true (ldW (.int .i64) (Addr.add (Addr.add (Addr.add a6 (Int.toNat s3 * 3)) 0) 0) (fun (x7 : Int) =>
  cutT [.sc (.int .i64)] (fun (K8 : Int → Heap → Prop) h13 =>
  br (decide (s3 < (((keep_1l : Nat) : Int))))
  (ptrW keep_1 (fun a9 =>
  idxW s3 keep_1l true (ldW (.int .i64) (Addr.add a9 (Int.toNat s3 * 1)) (fun (x10 : Int) =>
  ldW .slice (Addr.add (Addr.add a6 (Int.toNat s3 * 3)) 2) (fun (x11 : Option Addr × Nat × Nat) =>
  ldW (.int .i64) (Addr.add (Addr.add (Addr.add a6 (Int.toNat s3 * 3)) 0) 0) (fun (x12 : Int) =>
  K8 (IntKind.wrap .i64 (x7 + (mm2 false (mm2 true x10 (0 : Int)) (IntKind.wrap .i64 ((((x11.2.1 : Nat) : Int)) - x12))))) h13) h13) h13) h13)))
  (K8 x7 h13)) (fun (s14 : Int) _ h15 =>
  cutT [.sc .bool] (fun (K16 : Bool → Heap → Prop) h20 =>
  br (decide (s3 < (((tear_2l : Nat) : Int))))
  (ptrW tear_2 (fun a17 =>
  idxW s3 tear_2l true (ldW .bool (Addr.add a17 (Int.toNat s3 * 1)) (fun (x18 : Bool) =>
  br x18
  (ldW .slice (Addr.add (Addr.add a6 (Int.toNat s3 * 3)) 2) (fun (x19 : Option Addr × Nat × Nat) =>
  K16 (decide (s14 < (((x19.2.1 : Nat) : Int)))) h20) h20)
  (K16 false h20)) h20)))
  (K16 false h20)) (fun (s21 : Bool) _ h22 =>
  ldW .slice (Addr.add (Addr.add a6 (Int.toNat s3 * 3)) 2) (fun (x23 : Option Addr × Nat × Nat) =>
  slW x23.1 x23.2.2 1 (0 : Int) s14 s14 (fun b24 n25 c26 =>
  stW (Addr.add (Addr.add a6 (Int.toNat s3 * 3)) 2) (.slice b24 n25 c26) (fun h27 =>
  br s21
  (ldW .slice (Addr.add (Addr.add a6 (Int.toNat s3 * 3)) 2) (fun (x28 : Option Addr × Nat × Nat) =>
  newW (.cells #[.slice none 0 0] 43) (fun a29 h30 =>
  apW Tryz.prog #[76, 76] #[.slice x28.1 x28.2.1 x28.2.2, .slice (some a29) 1 1] (fun b31 n32 c33 h34 =>
  stW (Addr.add (Addr.add a6 (Int.toNat s3 * 3)) 2) (.slice b31 n32 c33) (fun h35 =>
  K2 (IntKind.wrap .i64 (s3 + (1 : Int))) h35) h34) h30) h27) h27)
  (K2 (IntKind.wrap .i64 (s3 + (1 : Int))) h27)) h22)) h22) h15) h4) h4))) h4)
  (callT Tryz.prog 50 [.pointer (some d_0)] [] (fun (_r36 : Unit) h37 =>
  stW (Addr.add d_0 4) (.bool false) (fun h38 =>
  stW (Addr.add d_0 2) (.int .i64 (-1)) (fun h39 =>
  K (.tuple #[]) h39) h38) h37) h4)) (0 : Int) h0) h0)
set_option maxRecDepth 100000 in
theorem F29_eq (d_0 : Addr) (keep_1 : Option Addr) (keep_1l keep_1c : Nat) (tear_2 : Option Addr) (tear_2l tear_2c : Nat) (K : Value → Heap → Prop) (h0 : Heap) : funWE Tryz.prog 29 (.seq (.seq (.leaf) (.block (.loop [(15, .sc (.int .i64))] (.seq (.leaf) (.seq (.cond (.leaf) (.leaf)) (.seq (.block (.seq (.leaf) (.seq (.leaf) (.seq (.leaf) (.cut [(8, .sc (.int .i64))] (.seq (.leaf) (.cond (.draw (odp [0, 1, 2, 3, 4, 5, 6, 7, 8, 9, 10, 11, 12, 13, 14, 15, 16, 17, 18, 19] .nil) []) (.leaf))) (.cut [(9, .sc .bool)] (.leaf) (.seq (.leaf) (.seq (.leaf) (.cond (.leaf) (.leaf)))))))))) (.leaf))))))) (.seq (.leaf) (.leaf))) [.pointer (some d_0), .slice keep_1 keep_1l keep_1c, .slice tear_2 tear_2l tear_2c] K h0 = F29 d_0 keep_1 keep_1l keep_1c tear_2 tear_2l tear_2c K h0 := by kernel_rfl

-- function 68
set_option maxRecDepth 100000 in
def F68 (cap_0 : Addr) (cap_1 : Addr) (cap_2 : Addr) (K : Value → Heap → Prop) (h0 : Heap) : Prop := (
  ldW .ptr cap_0 (fun (x1 : Option Addr) =>
  ptrW x1 (fun a2 =>
  ldW .slice (Addr.add a2 0) (fun (x3 : Option Addr × Nat × Nat) =>
  ldW (.int .i64) cap_1 (fun (x4 : Int) =>
  ldW .ptr cap_0 (fun (x5 : Option Addr) =>
  ptrW x5 (fun a6 =>
  ldW .slice (Addr.add a6 0) (fun (x7 : Option Addr × Nat × Nat) =>
  ldW (.int .i64) cap_1 (fun (x8 : Int) =>
  ptrW x7.1 (fun a9 =>
  idxW x8 x7.2.1 true (ldW .slice (Addr.add (Addr.add a9 (Int.toNat x8 * 3)) 2) (fun (x10 : Option Addr × Nat × Nat) =>
  ldW .slice cap_2 (fun (x11 : Option Addr × Nat × Nat) =>
  callT Tryz.prog 69 [.slice x11.1 x11.2.1 x11.2.2] [.sc .slice] (fun (r12 : (Option Addr × Nat × Nat)) h13 =>
  (newW (.cells #[.slice r12.1 r12.2.1 r12.2.2] 43) (fun a14 h15 =>
  apW Tryz.prog #[76, 76] #[.slice x10.1 x10.2.1 x10.2.2, .slice (some a14) 1 1] (fun b16 n17 c18 h19 =>
  (cellH h19 cap_1 = some (.int .i64 x4) ∧ (cellH h19 (Addr.add a2 0) = some (.slice x3.1 x3.2.1 x3.2.2) ∧ (cellH h19 cap_0 = some (.pointer x1) ∧ ptrW x3.1 (fun a20 =>
  idxW x4 x3.2.1 true (stW (Addr.add (Addr.add a20 (Int.toNat x4 * 3)) 2) (.slice b16 n17 c18) (fun h21 =>
  K (.tuple #[]) h21) h19)))))) h15) h13 ∧ Ext h0 h13)) h0) h0) h0))) h0) h0)) h0) h0) h0)) h0)
set_option maxRecDepth 100000 in
theorem F68_eq (cap_0 : Addr) (cap_1 : Addr) (cap_2 : Addr) (K : Value → Heap → Prop) (h0 : Heap) : funWE Tryz.prog 68 (.draw (odp [0, 1, 2, 3, 4, 5, 6, 7, 8, 9, 10, 11, 12, 13, 14, 15, 16, 17, 18, 19] .nil) [100014, 200000, 200003, 200004]) [.pointer (some cap_0), .pointer (some cap_1), .pointer (some cap_2)] K h0 = F68 cap_0 cap_1 cap_2 K h0 := by kernel_rfl

-- function 49
set_option maxRecDepth 100000 in
def F49 (cap_0 : Addr) (cap_1 : Addr) (K : Value → Heap → Prop) (h0 : Heap) : Prop := (
  ldW .ptr cap_0 (fun (x1 : Option Addr) =>
  ptrW x1 (fun a2 =>
  ldW .slice (Addr.add a2 0) (fun (x3 : Option Addr × Nat × Nat) =>
  ldW (.int .i64) cap_1 (fun (x4 : Int) =>
  ptrW x3.1 (fun a5 =>
  idxW x4 x3.2.1 true (stLW (Addr.add a5 (Int.toNat x4 * 3)) [.int .i64 0, .bool false, .slice none 0 0] (fun h6 =>
  K (.tuple #[]) h6) h0))) h0) h0)) h0)
set_option maxRecDepth 100000 in
theorem F49_eq (cap_0 : Addr) (cap_1 : Addr) (K : Value → Heap → Prop) (h0 : Heap) : funWE Tryz.prog 49 (.draw (odp [0, 1, 2, 3, 4, 5, 6, 7] .nil) []) [.pointer (some cap_0), .pointer (some cap_1)] K h0 = F49 cap_0 cap_1 K h0 := by kernel_rfl

end Go.Proofs.YtgohecjnjadnpaaGreatDoor.W
