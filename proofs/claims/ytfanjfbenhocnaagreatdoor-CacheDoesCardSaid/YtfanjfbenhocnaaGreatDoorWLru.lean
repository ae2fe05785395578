/-
  The formulas of package lru. Each formula checked by the kernel. Printed by a program of this repo.
-/
import Derived.Test.YtfanjfbenhocnaaGreatDoorProg
import Derived.Test.YtfanjfbenhocnaaGreatDoorPl
namespace Go.Proofs.YtfanjfbenhocnaaGreatDoor.W
open Go.Pl

-- function 26
set_option maxRecDepth 100000 in
def F26 (slots_0 : Int) (K : Value → Heap → Prop) (h0 : Heap) : Prop := (
  cutT [] (fun (K1 : Unit → Heap → Prop) h2 =>
  br (decide (slots_0 < (1 : Int)))
  (K (.tuple #[.pointer none, .iface 30 (.int .i64 1)]) h2)
  (br (decide (slots_0 > (64 : Int)))
  (K (.tuple #[.pointer none, .iface 30 (.int .i64 1)]) h2)
  (K1 () h2))) (fun (_s3 : Unit) _ h4 =>
  newW (.cells (repL 200 [.int .i64 0] [.int .i64 slots_0]) 101) (fun a5 h6 =>
  loopT [.sc (.int .i64)] (fun (s8 : Int) _ (K7 : Int → Heap → Prop) h9 =>
  br (decide (s8 < (66 : Int)))
  (idxW s8 66 true (stW (Addr.add (Addr.add a5 0) (Int.toNat s8 * 1)) (.int .i64 s8) (fun h10 =>
  idxW s8 66 true (stW (Addr.add (Addr.add a5 66) (Int.toNat s8 * 1)) (.int .i64 s8) (fun h11 =>
  idxW s8 66 true (stW (Addr.add (Addr.add a5 132) (Int.toNat s8 * 1)) (.int .i64 2) (fun h12 =>
  K7 (IntKind.wrap .i64 (s8 + (1 : Int))) h12) h11)) h10)) h9))
  (K (.tuple #[.pointer (some a5), .nilIface]) h9)) (0 : Int) h6) h4) h0)
set_option maxRecDepth 100000 in
theorem F26_eq (slots_0 : Int) (K : Value → Heap → Prop) (h0 : Heap) : funWE Tryz.prog 26 (.seq (.leaf) (.cut [] (.seq (.leaf) (.cond (.seq (.leaf) (.leaf)) (.leaf))) (.seq (.leaf) (.seq (.seq (.leaf) (.block (.loop [(16, .sc (.int .i64))] (.seq (.leaf) (.seq (.cond (.leaf) (.leaf)) (.seq (.block (.seq (.leaf) (.draw (odp [0, 1, 2, 3, 4, 5, 6, 7, 8, 9, 10, 12, 13, 16, 17, 11, 14, 15, 18, 19] .nil) []))) (.leaf))))))) (.seq (.leaf) (.leaf)))))) [.int .i64 slots_0] K h0 = F26 slots_0 K h0 := by kernel_rfl

-- function 40
set_option maxRecDepth 100000 in
def F40 (k_0 : Addr) (K : Value → Heap → Prop) (h0 : Heap) : Prop := (
  loopT [.sc (.int .i64)] (fun (s2 : Int) _ (K1 : Int → Heap → Prop) h3 =>
  br (decide (s2 < (2 : Int)))
  (idxW s2 2 true (ldW (.int .i64) (Addr.add (Addr.add k_0 198) (Int.toNat s2 * 1)) (fun (x4 : Int) =>
  br (decide (x4 > (0 : Int)))
  (callQ Tryz.prog 61 [.int .i64 s2] [.sc (.int .i64)] (fun (r5 : Int) =>
  idxW r5 66 true (ldW (.int .i64) (Addr.add (Addr.add k_0 66) (Int.toNat r5 * 1)) (fun (x6 : Int) =>
  K (.tuple #[.int .i64 x6, .bool true]) h3) h3)) h3)
  (K1 (IntKind.wrap .i64 (s2 + (1 : Int))) h3)) h3))
  (K (.tuple #[.int .i64 0, .bool false]) h3)) (0 : Int) h0)
set_option maxRecDepth 100000 in
theorem F40_eq (k_0 : Addr) (K : Value → Heap → Prop) (h0 : Heap) : funWE Tryz.prog 40 (.seq (.leaf) (.seq (.seq (.leaf) (.block (.loop [(5, .sc (.int .i64))] (.seq (.leaf) (.seq (.cond (.leaf) (.leaf)) (.seq (.block (.seq (.leaf) (.seq (.leaf) (.cond (.seq (.draw (odp [0, 1, 2, 3, 4, 5, 6, 7, 8] .nil) [2]) (.leaf)) (.leaf))))) (.leaf))))))) (.seq (.leaf) (.leaf)))) [.pointer (some k_0)] K h0 = F40 k_0 K h0 := by kernel_rfl

-- function 45
set_option maxRecDepth 100000 in
def F45 (k_0 : Addr) (slot_1 : Int) (K : Value → Heap → Prop) (h0 : Heap) : Prop := (
  br (decide (slot_1 < (0 : Int)))
  (K (.bool false) h0)
  (ldW (.int .i64) (Addr.add k_0 200) (fun (x1 : Int) =>
  br (decide (slot_1 ≥ x1))
  (K (.bool false) h0)
  (callT Tryz.prog 64 [.pointer (some k_0), .int .i64 slot_1] [.sc .bool] (fun (r2 : Bool) h3 =>
  br r2
  (K (.bool false) h3)
  (callT Tryz.prog 62 [.pointer (some k_0), .int .i64 slot_1, .int .i64 0] [] (fun (_r4 : Unit) h5 =>
  K (.bool true) h5) h3)) h0)) h0))
set_option maxRecDepth 100000 in
theorem F45_eq (k_0 : Addr) (slot_1 : Int) (K : Value → Heap → Prop) (h0 : Heap) : funWE Tryz.prog 45 (.seq (.leaf) (.seq (.seq (.leaf) (.cond (.seq (.leaf) (.leaf)) (.leaf))) (.seq (.leaf) (.seq (.leaf) (.leaf))))) [.pointer (some k_0), .int .i64 slot_1] K h0 = F45 k_0 slot_1 K h0 := by kernel_rfl

-- function 43
set_option maxRecDepth 100000 in
def F43 (k_0 : Addr) (slot_1 : Int) (K : Value → Heap → Prop) (h0 : Heap) : Prop := (
  callT Tryz.prog 47 [.pointer (some k_0), .int .i64 slot_1] [.sc .bool] (fun (r1 : Bool) h2 =>
  br (!r1)
  (K (.bool false) h2)
  (callT Tryz.prog 62 [.pointer (some k_0), .int .i64 slot_1, .int .i64 1] [] (fun (_r3 : Unit) h4 =>
  idxW (1 : Int) 2 true (ldW (.int .i64) (Addr.add (Addr.add k_0 198) (Int.toNat (1 : Int) * 1)) (fun (x5 : Int) =>
  ldW (.int .i64) (Addr.add k_0 200) (fun (x6 : Int) =>
  br (decide (x5 > (IntKind.wrap .i64 (Int.tdiv x6 (2 : Int)))))
  (callQ Tryz.prog 61 [.int .i64 1] [.sc (.int .i64)] (fun (r7 : Int) =>
  idxW r7 66 true (ldW (.int .i64) (Addr.add (Addr.add k_0 66) (Int.toNat r7 * 1)) (fun (x8 : Int) =>
  callT Tryz.prog 47 [.pointer (some k_0), .int .i64 x8] [.sc .bool] (fun (_r9 : Bool) h10 =>
  callT Tryz.prog 62 [.pointer (some k_0), .int .i64 x8, .int .i64 0] [] (fun (_r11 : Unit) h12 =>
  K (.bool true) h12) h10) h4) h4)) h4)
  (K (.bool true) h4)) h4) h4)) h2)) h0)
set_option maxRecDepth 100000 in
theorem F43_eq (k_0 : Addr) (slot_1 : Int) (K : Value → Heap → Prop) (h0 : Heap) : funWE Tryz.prog 43 (.seq (.leaf) (.seq (.seq (.leaf) (.cond (.seq (.leaf) (.leaf)) (.leaf))) (.seq (.leaf) (.seq (.seq (.draw (odp [0, 1, 2, 3, 4, 5, 6, 7, 8, 9, 10] .nil) []) (.cond (.seq (.draw (odp [0, 1, 2, 3, 4, 5, 6] .nil) [1]) (.seq (.leaf) (.leaf))) (.leaf))) (.seq (.leaf) (.leaf)))))) [.pointer (some k_0), .int .i64 slot_1] K h0 = F43 k_0 slot_1 K h0 := by kernel_rfl

-- function 47
set_option maxRecDepth 100000 in
def F47 (k_0 : Addr) (slot_1 : Int) (K : Value → Heap → Prop) (h0 : Heap) : Prop := (
  callT Tryz.prog 64 [.pointer (some k_0), .int .i64 slot_1] [.sc .bool] (fun (r1 : Bool) h2 =>
  br (!r1)
  (K (.bool false) h2)
  (idxW slot_1 66 true (ldW (.int .i64) (Addr.add (Addr.add k_0 0) (Int.toNat slot_1 * 1)) (fun (x3 : Int) =>
  idxW slot_1 66 true (ldW (.int .i64) (Addr.add (Addr.add k_0 66) (Int.toNat slot_1 * 1)) (fun (x4 : Int) =>
  idxW x4 66 true (stW (Addr.add (Addr.add k_0 0) (Int.toNat x4 * 1)) (.int .i64 x3) (fun h5 =>
  idxW x3 66 true (stW (Addr.add (Addr.add k_0 66) (Int.toNat x3 * 1)) (.int .i64 x4) (fun h6 =>
  idxW slot_1 66 true (ldW (.int .i64) (Addr.add (Addr.add k_0 132) (Int.toNat slot_1 * 1)) (fun (x7 : Int) =>
  idxW x7 2 true (ldW (.int .i64) (Addr.add (Addr.add k_0 198) (Int.toNat x7 * 1)) (fun (x8 : Int) =>
  idxW x7 2 true (stW (Addr.add (Addr.add k_0 198) (Int.toNat x7 * 1)) (.int .i64 (IntKind.wrap .i64 (x8 - (1 : Int)))) (fun h9 =>
  idxW slot_1 66 true (stW (Addr.add (Addr.add k_0 132) (Int.toNat slot_1 * 1)) (.int .i64 2) (fun h10 =>
  K (.bool true) h10) h9)) h6)) h6)) h6)) h5)) h2)) h2)) h2))) h0)
set_option maxRecDepth 100000 in
theorem F47_eq (k_0 : Addr) (slot_1 : Int) (K : Value → Heap → Prop) (h0 : Heap) : funWE Tryz.prog 47 (.seq (.leaf) (.seq (.seq (.leaf) (.cond (.seq (.leaf) (.leaf)) (.leaf))) (.seq (.draw (odp [0, 1, 2, 3, 4, 5, 6, 7, 8, 9, 10, 11, 12, 13] .nil) []) (.seq (.draw (odp [0, 1, 2, 3, 4, 5, 6, 7, 8, 10, 11, 9, 12, 13] .nil) []) (.seq (.draw (odp [0, 1, 2, 3, 4, 5, 6, 7, 8, 9, 10, 11, 12, 13, 14, 15] .nil) []) (.seq (.leaf) (.seq (.leaf) (.leaf)))))))) [.pointer (some k_0), .int .i64 slot_1] K h0 = F47 k_0 slot_1 K h0 := by kernel_rfl

-- function 61
set_option maxRecDepth 100000 in
def F61 (row_0 : Int) (K : Value → Heap → Prop) (h0 : Heap) : Prop := (
  K (.int .i64 (IntKind.wrap .i64 ((64 : Int) + row_0))) h0)
set_option maxRecDepth 100000 in
theorem F61_eq (row_0 : Int) (K : Value → Heap → Prop) (h0 : Heap) : funWE Tryz.prog 61 (.seq (.leaf) (.seq (.leaf) (.leaf))) [.int .i64 row_0] K h0 = F61 row_0 K h0 := by kernel_rfl

-- function 64
set_option maxRecDepth 100000 in
def F64 (k_0 : Addr) (slot_1 : Int) (K : Value → Heap → Prop) (h0 : Heap) : Prop := (
  br (decide (slot_1 ≥ (0 : Int)))
  (ldW (.int .i64) (Addr.add k_0 200) (fun (x1 : Int) =>
  br (decide (slot_1 < x1))
  (idxW slot_1 66 true (ldW (.int .i64) (Addr.add (Addr.add k_0 132) (Int.toNat slot_1 * 1)) (fun (x2 : Int) =>
  K (.bool (x2 != (2 : Int))) h0) h0))
  (K (.bool false) h0)) h0)
  (K (.bool false) h0))
set_option maxRecDepth 100000 in
theorem F64_eq (k_0 : Addr) (slot_1 : Int) (K : Value → Heap → Prop) (h0 : Heap) : funWE Tryz.prog 64 (.seq (.leaf) (.seq (.leaf) (.leaf))) [.pointer (some k_0), .int .i64 slot_1] K h0 = F64 k_0 slot_1 K h0 := by kernel_rfl

-- function 62
set_option maxRecDepth 100000 in
def F62 (k_0 : Addr) (slot_1 : Int) (row_2 : Int) (K : Value → Heap → Prop) (h0 : Heap) : Prop := (
  callT Tryz.prog 61 [.int .i64 row_2] [.sc (.int .i64)] (fun (r1 : Int) h2 =>
  idxW r1 66 true (ldW (.int .i64) (Addr.add (Addr.add k_0 0) (Int.toNat r1 * 1)) (fun (x3 : Int) =>
  idxW r1 66 true (stW (Addr.add (Addr.add k_0 0) (Int.toNat r1 * 1)) (.int .i64 slot_1) (fun h4 =>
  idxW slot_1 66 true (stW (Addr.add (Addr.add k_0 66) (Int.toNat slot_1 * 1)) (.int .i64 r1) (fun h5 =>
  idxW slot_1 66 true (stW (Addr.add (Addr.add k_0 0) (Int.toNat slot_1 * 1)) (.int .i64 x3) (fun h6 =>
  idxW x3 66 true (stW (Addr.add (Addr.add k_0 66) (Int.toNat x3 * 1)) (.int .i64 slot_1) (fun h7 =>
  idxW slot_1 66 true (stW (Addr.add (Addr.add k_0 132) (Int.toNat slot_1 * 1)) (.int .i64 row_2) (fun h8 =>
  idxW row_2 2 true (ldW (.int .i64) (Addr.add (Addr.add k_0 198) (Int.toNat row_2 * 1)) (fun (x9 : Int) =>
  idxW row_2 2 true (stW (Addr.add (Addr.add k_0 198) (Int.toNat row_2 * 1)) (.int .i64 (IntKind.wrap .i64 (x9 + (1 : Int)))) (fun h10 =>
  K (.tuple #[]) h10) h8)) h8)) h7)) h6)) h5)) h4)) h2)) h2)) h0)
set_option maxRecDepth 100000 in
theorem F62_eq (k_0 : Addr) (slot_1 : Int) (row_2 : Int) (K : Value → Heap → Prop) (h0 : Heap) : funWE Tryz.prog 62 (.seq (.leaf) (.seq (.leaf) (.seq (.draw (odp [0, 1, 2, 3, 4, 5, 6, 7, 8, 9, 10, 11, 12, 13, 14, 16, 17, 20, 21, 24, 25, 15, 18, 19, 22, 23, 26, 27] .nil) []) (.seq (.leaf) (.draw (odp [0, 1, 2, 3, 4, 5, 6, 7, 8, 9, 10] .nil) []))))) [.pointer (some k_0), .int .i64 slot_1, .int .i64 row_2] K h0 = F62 k_0 slot_1 row_2 K h0 := by kernel_rfl

end Go.Proofs.YtfanjfbenhocnaaGreatDoor.W
