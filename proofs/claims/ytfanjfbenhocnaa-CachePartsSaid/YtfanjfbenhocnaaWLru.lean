/-
  The formulas of package lru. Each formula checked by the kernel. Printed by a program of this repo.
-/
import Derived.Test.YtfanjfbenhocnaaProg
import Derived.Test.YtfanjfbenhocnaaPl
namespace Go.Proofs.Ytfanjfbenhocnaa.W
open Go.Pl

-- function 17
set_option maxRecDepth 100000 in
def F17 (slots_0 : Int) (K : Value → Heap → Prop) (h0 : Heap) : Prop := (
  cutT [] (fun (K1 : Unit → Heap → Prop) h2 =>
  br (decide (slots_0 < (1 : Int)))
  (K (.tuple #[.pointer none, .iface 82 (.int .i64 1)]) h2)
  (br (decide (slots_0 > (64 : Int)))
  (K (.tuple #[.pointer none, .iface 82 (.int .i64 1)]) h2)
  (K1 () h2))) (fun (_s3 : Unit) _ h4 =>
  newW (.cells (repL 200 [.int .i64 0] [.int .i64 slots_0]) 92) (fun a5 h6 =>
  loopT [.sc (.int .i64)] (fun (s8 : Int) _ (K7 : Int → Heap → Prop) h9 =>
  br (decide (s8 < (66 : Int)))
  (idxW s8 66 true (stW (Addr.add (Addr.add a5 0) (Int.toNat s8 * 1)) (.int .i64 s8) (fun h10 =>
  idxW s8 66 true (stW (Addr.add (Addr.add a5 66) (Int.toNat s8 * 1)) (.int .i64 s8) (fun h11 =>
  idxW s8 66 true (stW (Addr.add (Addr.add a5 132) (Int.toNat s8 * 1)) (.int .i64 2) (fun h12 =>
  K7 (IntKind.wrap .i64 (s8 + (1 : Int))) h12) h11)) h10)) h9))
  (K (.tuple #[.pointer (some a5), .nilIface]) h9)) (0 : Int) h6) h4) h0)
set_option maxRecDepth 100000 in
theorem F17_eq (slots_0 : Int) (K : Value → Heap → Prop) (h0 : Heap) : funWE Try.prog 17 (.seq (.leaf) (.cut [] (.seq (.leaf) (.cond (.seq (.leaf) (.leaf)) (.leaf))) (.seq (.leaf) (.seq (.seq (.leaf) (.block (.loop [(16, .sc (.int .i64))] (.seq (.leaf) (.seq (.cond (.leaf) (.leaf)) (.seq (.block (.seq (.leaf) (.draw (odp [0, 1, 2, 3, 4, 5, 6, 7, 8, 9, 10, 12, 13, 16, 17, 11, 14, 15, 18, 19] .nil) []))) (.leaf))))))) (.seq (.leaf) (.leaf)))))) [.int .i64 slots_0] K h0 = F17 slots_0 K h0 := by kernel_rfl

-- function 19
set_option maxRecDepth 100000 in
def F19 (k_0 : Addr) (K : Value → Heap → Prop) (h0 : Heap) : Prop := (
  callT Try.prog 41 [.pointer (some k_0), .int .i64 0] [.sc .slice] (fun (r1 : (Option Addr × Nat × Nat)) h2 =>
  K (.slice r1.1 r1.2.1 r1.2.2) h2) h0)
set_option maxRecDepth 100000 in
theorem F19_eq (k_0 : Addr) (K : Value → Heap → Prop) (h0 : Heap) : funWE Try.prog 19 (.seq (.leaf) (.seq (.leaf) (.leaf))) [.pointer (some k_0)] K h0 = F19 k_0 K h0 := by kernel_rfl

-- function 20
set_option maxRecDepth 100000 in
def F20 (k_0 : Addr) (K : Value → Heap → Prop) (h0 : Heap) : Prop := (
  callT Try.prog 41 [.pointer (some k_0), .int .i64 1] [.sc .slice] (fun (r1 : (Option Addr × Nat × Nat)) h2 =>
  K (.slice r1.1 r1.2.1 r1.2.2) h2) h0)
set_option maxRecDepth 100000 in
theorem F20_eq (k_0 : Addr) (K : Value → Heap → Prop) (h0 : Heap) : funWE Try.prog 20 (.seq (.leaf) (.seq (.leaf) (.leaf))) [.pointer (some k_0)] K h0 = F20 k_0 K h0 := by kernel_rfl

-- function 21
set_option maxRecDepth 100000 in
def F21 (k_0 : Addr) (K : Value → Heap → Prop) (h0 : Heap) : Prop := (
  loopT [.sc (.int .i64)] (fun (s2 : Int) _ (K1 : Int → Heap → Prop) h3 =>
  br (decide (s2 < (2 : Int)))
  (idxW s2 2 true (ldW (.int .i64) (Addr.add (Addr.add k_0 198) (Int.toNat s2 * 1)) (fun (x4 : Int) =>
  br (decide (x4 > (0 : Int)))
  (callQ Try.prog 42 [.int .i64 s2] [.sc (.int .i64)] (fun (r5 : Int) =>
  idxW r5 66 true (ldW (.int .i64) (Addr.add (Addr.add k_0 66) (Int.toNat r5 * 1)) (fun (x6 : Int) =>
  K (.tuple #[.int .i64 x6, .bool true]) h3) h3)) h3)
  (K1 (IntKind.wrap .i64 (s2 + (1 : Int))) h3)) h3))
  (K (.tuple #[.int .i64 0, .bool false]) h3)) (0 : Int) h0)
set_option maxRecDepth 100000 in
theorem F21_eq (k_0 : Addr) (K : Value → Heap → Prop) (h0 : Heap) : funWE Try.prog 21 (.seq (.leaf) (.seq (.seq (.leaf) (.block (.loop [(5, .sc (.int .i64))] (.seq (.leaf) (.seq (.cond (.leaf) (.leaf)) (.seq (.block (.seq (.leaf) (.seq (.leaf) (.cond (.seq (.draw (odp [0, 1, 2, 3, 4, 5, 6, 7, 8] .nil) [2]) (.leaf)) (.leaf))))) (.leaf))))))) (.seq (.leaf) (.leaf)))) [.pointer (some k_0)] K h0 = F21 k_0 K h0 := by kernel_rfl

-- function 22
set_option maxRecDepth 100000 in
def F22 (k_0 : Addr) (slot_1 : Int) (K : Value → Heap → Prop) (h0 : Heap) : Prop := (
  br (decide (slot_1 < (0 : Int)))
  (K (.bool false) h0)
  (ldW (.int .i64) (Addr.add k_0 200) (fun (x1 : Int) =>
  br (decide (slot_1 ≥ x1))
  (K (.bool false) h0)
  (callT Try.prog 43 [.pointer (some k_0), .int .i64 slot_1] [.sc .bool] (fun (r2 : Bool) h3 =>
  br r2
  (K (.bool false) h3)
  (callT Try.prog 44 [.pointer (some k_0), .int .i64 slot_1, .int .i64 0] [] (fun (_r4 : Unit) h5 =>
  K (.bool true) h5) h3)) h0)) h0))
set_option maxRecDepth 100000 in
theorem F22_eq (k_0 : Addr) (slot_1 : Int) (K : Value → Heap → Prop) (h0 : Heap) : funWE Try.prog 22 (.seq (.leaf) (.seq (.seq (.leaf) (.cond (.seq (.leaf) (.leaf)) (.leaf))) (.seq (.leaf) (.seq (.leaf) (.leaf))))) [.pointer (some k_0), .int .i64 slot_1] K h0 = F22 k_0 slot_1 K h0 := by kernel_rfl

-- function 23
set_option maxRecDepth 100000 in
def F23 (k_0 : Addr) (slot_1 : Int) (K : Value → Heap → Prop) (h0 : Heap) : Prop := (
  callT Try.prog 24 [.pointer (some k_0), .int .i64 slot_1] [.sc .bool] (fun (r1 : Bool) h2 =>
  br (!r1)
  (K (.bool false) h2)
  (callT Try.prog 44 [.pointer (some k_0), .int .i64 slot_1, .int .i64 1] [] (fun (_r3 : Unit) h4 =>
  idxW (1 : Int) 2 true (ldW (.int .i64) (Addr.add (Addr.add k_0 198) (Int.toNat (1 : Int) * 1)) (fun (x5 : Int) =>
  ldW (.int .i64) (Addr.add k_0 200) (fun (x6 : Int) =>
  br (decide (x5 > (IntKind.wrap .i64 (Int.tdiv x6 (2 : Int)))))
  (callQ Try.prog 42 [.int .i64 1] [.sc (.int .i64)] (fun (r7 : Int) =>
  idxW r7 66 true (ldW (.int .i64) (Addr.add (Addr.add k_0 66) (Int.toNat r7 * 1)) (fun (x8 : Int) =>
  callT Try.prog 24 [.pointer (some k_0), .int .i64 x8] [.sc .bool] (fun (_r9 : Bool) h10 =>
  callT Try.prog 44 [.pointer (some k_0), .int .i64 x8, .int .i64 0] [] (fun (_r11 : Unit) h12 =>
  K (.bool true) h12) h10) h4) h4)) h4)
  (K (.bool true) h4)) h4) h4)) h2)) h0)
set_option maxRecDepth 100000 in
theorem F23_eq (k_0 : Addr) (slot_1 : Int) (K : Value → Heap → Prop) (h0 : Heap) : funWE Try.prog 23 (.seq (.leaf) (.seq (.seq (.leaf) (.cond (.seq (.leaf) (.leaf)) (.leaf))) (.seq (.leaf) (.seq (.seq (.draw (odp [0, 1, 2, 3, 4, 5, 6, 7, 8, 9, 10] .nil) []) (.cond (.seq (.draw (odp [0, 1, 2, 3, 4, 5, 6] .nil) [1]) (.seq (.leaf) (.leaf))) (.leaf))) (.seq (.leaf) (.leaf)))))) [.pointer (some k_0), .int .i64 slot_1] K h0 = F23 k_0 slot_1 K h0 := by kernel_rfl

-- function 24
set_option maxRecDepth 100000 in
def F24 (k_0 : Addr) (slot_1 : Int) (K : Value → Heap → Prop) (h0 : Heap) : Prop := (
  callT Try.prog 43 [.pointer (some k_0), .int .i64 slot_1] [.sc .bool] (fun (r1 : Bool) h2 =>
  br (!r1)
  (K (.bool false) h2)
  (idxW slot_1 66 true (ldW (.int .i64) (Addr.add (Addr.add k_0 0) (Int.toNat slot_1 * 1)) (fun (x3 : Int) =>
  idxW slot_1 66 true (ldW (.int .i64) (Addr.add (Addr.add k_0 66) (Int.toNat slot_1 * 1)) (fun (x4 : Int) =>
  idxW x4 66 true (stW (Addr.add (Addr.add k_0 0) (Int.toNat x4 * 1)) (.int .i64 x3) (fun h5 =>
  idxW x3 66 true (stW (Addr.add (Addr.add k_0 66) (Int.toNat x3 * 1)) (.int .i64 x4) (fun h6 =>
  idxW slot_1 66 true (ldW (.int .i64) (Addr.add (Addr.add k_0 132) (Int.toNat slot_1 * 1)) (fun (x7 : Int) =>
  idxW x7 2 true (ldW (.int .i64) (Addr.add (Addr.add k_0 198) (Int.toNat x7 * 1)) (fun (x8 : Int) =>
  idxW x7 2 true (stW (Addr.add (Addr.add k_0 198) (Int.toNat x7 * 1)) (.int .i64 (IntKind.wrap .i64 (x8 - (1 : Int)))) (fun h9 =>
  idxW slot_1 66 true (stW (Addr.add (Addr.add k_0 132) (Int.toNat slot_1 * 1)) (.int .i64 2) (fun h10 =>
  K (.bool true) h10) h9)) h6)) h6)) h6)) h5)) h2)) h2)) h2))) h0)
set_option maxRecDepth 100000 in
theorem F24_eq (k_0 : Addr) (slot_1 : Int) (K : Value → Heap → Prop) (h0 : Heap) : funWE Try.prog 24 (.seq (.leaf) (.seq (.seq (.leaf) (.cond (.seq (.leaf) (.leaf)) (.leaf))) (.seq (.draw (odp [0, 1, 2, 3, 4, 5, 6, 7, 8, 9, 10, 11, 12, 13] .nil) []) (.seq (.draw (odp [0, 1, 2, 3, 4, 5, 6, 7, 8, 10, 11, 9, 12, 13] .nil) []) (.seq (.draw (odp [0, 1, 2, 3, 4, 5, 6, 7, 8, 9, 10, 11, 12, 13, 14, 15] .nil) []) (.seq (.leaf) (.seq (.leaf) (.leaf)))))))) [.pointer (some k_0), .int .i64 slot_1] K h0 = F24 k_0 slot_1 K h0 := by kernel_rfl

-- function 41
set_option maxRecDepth 100000 in
def F41 (k_0 : Addr) (row_1 : Int) (K : Value → Heap → Prop) (h0 : Heap) : Prop := (
  newW (.cells (zeroC Try.prog 45) 45) (fun a1 h2 =>
  callT Try.prog 54 [.pointer (some k_0), .int .i64 row_1] [.sc .any] (fun (r3 : Value) h4 =>
  rfW r3 (fun n28 x29 x30 =>
  rangeW Try.prog n28 x29 x30 [.sc (.int .i64)] (fun l5 o6 (s7 : Int) Y8 h9 =>
  roundIn l5 o6 (fun h11 =>
  ldW .slice a1 (fun (x13 : Option Addr × Nat × Nat) =>
  newW (.cells #[.int .i64 s7] 3) (fun a14 h15 =>
  apW Try.prog #[45, 45] #[.slice x13.1 x13.2.1 x13.2.2, .slice (some a14) 1 1] (fun b16 n17 c18 h19 =>
  stW a1 (.slice b16 n17 c18) (fun h20 =>
  roundEnd l5 o6.rdy (Y8 true) h20) h19) h15) h11) h11) h9) (fun l26 o27 h21 =>
  (roundDone l26 o27.rdy (fun h22 =>
  ldW .slice a1 (fun (x23 : Option Addr × Nat × Nat) =>
  (∀ h24, Taken h0.size h22 h24 →
  K (.slice x23.1 x23.2.1 x23.2.2) h24)) h22) h21) ∨
  (roundDone l26 (o27.dn .ret) (fun h22 =>
  (∀ h25, Taken h0.size h22 h25 →
  K (.slice none 0 0) h25)) h21) ∨ False) h4)) h2) h0)
set_option maxRecDepth 100000 in
theorem F41_eq (k_0 : Addr) (row_1 : Int) (K : Value → Heap → Prop) (h0 : Heap) : funWE Try.prog 41 (.seq (.leaf) (.seq (.leaf) (.seq (.seq (.leaf) (.block (.range [.sc (.int .i64)] [] (.leaf) (.block (.leaf))))) (.seq (.leaf) (.leaf))))) [.pointer (some k_0), .int .i64 row_1] K h0 = F41 k_0 row_1 K h0 := by kernel_rfl

-- function 42
set_option maxRecDepth 100000 in
def F42 (row_0 : Int) (K : Value → Heap → Prop) (h0 : Heap) : Prop := (
  K (.int .i64 (IntKind.wrap .i64 ((64 : Int) + row_0))) h0)
set_option maxRecDepth 100000 in
theorem F42_eq (row_0 : Int) (K : Value → Heap → Prop) (h0 : Heap) : funWE Try.prog 42 (.seq (.leaf) (.seq (.leaf) (.leaf))) [.int .i64 row_0] K h0 = F42 row_0 K h0 := by kernel_rfl

-- function 43
set_option maxRecDepth 100000 in
def F43 (k_0 : Addr) (slot_1 : Int) (K : Value → Heap → Prop) (h0 : Heap) : Prop := (
  br (decide (slot_1 ≥ (0 : Int)))
  (ldW (.int .i64) (Addr.add k_0 200) (fun (x1 : Int) =>
  br (decide (slot_1 < x1))
  (idxW slot_1 66 true (ldW (.int .i64) (Addr.add (Addr.add k_0 132) (Int.toNat slot_1 * 1)) (fun (x2 : Int) =>
  K (.bool (x2 != (2 : Int))) h0) h0))
  (K (.bool false) h0)) h0)
  (K (.bool false) h0))
set_option maxRecDepth 100000 in
theorem F43_eq (k_0 : Addr) (slot_1 : Int) (K : Value → Heap → Prop) (h0 : Heap) : funWE Try.prog 43 (.seq (.leaf) (.seq (.leaf) (.leaf))) [.pointer (some k_0), .int .i64 slot_1] K h0 = F43 k_0 slot_1 K h0 := by kernel_rfl

-- function 44
set_option maxRecDepth 100000 in
def F44 (k_0 : Addr) (slot_1 : Int) (row_2 : Int) (K : Value → Heap → Prop) (h0 : Heap) : Prop := (
  callT Try.prog 42 [.int .i64 row_2] [.sc (.int .i64)] (fun (r1 : Int) h2 =>
  idxW r1 66 true (ldW (.int .i64) (Addr.add (Addr.add k_0 0) (Int.toNat r1 * 1)) (fun (x3 : Int) =>
  idxW r1 66 true (stW (Addr.add (Addr.add k_0 0) (Int.toNat r1 * 1)) (.int .i64 slot_1) (fun h4 =>
  idxW slot_1 66 true (stW (Addr.add (Addr.add k_0 66) (Int.toNat slot_1 * 1)) (.int .i64 r1) (fun h5 =>
  idxW slot_1 66 true (stW (Addr.add (Addr.add k_0 0) (Int.toNat slot_1 * 1)) (.int .i64 x3) (fun h6 =>
  idxW x3 66 true (stW (Addr.add (Addr.add k_0 66) (Int.toNat x3 * 1)) (.int .i64 slot_1) (fun h7 =>
  idxW slot_1 66 true (stW (Addr.add (Addr.add k_0 132) (Int.toNat slot_1 * 1)) (.int .i64 row_2) (fun h8 =>
  idxW row_2 2 true (ldW (.int .i64) (Addr.add (Addr.add k_0 198) (Int.toNat row_2 * 1)) (fun (x9 : Int) =>
  idxW row_2 2 true (stW (Addr.add (Addr.add k_0 198) (Int.toNat row_2 * 1)) (.int .i64 (IntKind.wrap .i64 (x9 + (1 : Int)))) (fun h10 =>
  K (.tuple #[]) h10) h8)) h8)) h7)) h6)) h5)) h4)) h2)) h2)) h0)
set_option maxRecDepth 100000 in
theorem F44_eq (k_0 : Addr) (slot_1 : Int) (row_2 : Int) (K : Value → Heap → Prop) (h0 : Heap) : funWE Try.prog 44 (.seq (.leaf) (.seq (.leaf) (.seq (.draw (odp [0, 1, 2, 3, 4, 5, 6, 7, 8, 9, 10, 11, 12, 13, 14, 16, 17, 20, 21, 24, 25, 15, 18, 19, 22, 23, 26, 27] .nil) []) (.seq (.leaf) (.draw (odp [0, 1, 2, 3, 4, 5, 6, 7, 8, 9, 10] .nil) []))))) [.pointer (some k_0), .int .i64 slot_1, .int .i64 row_2] K h0 = F44 k_0 slot_1 row_2 K h0 := by kernel_rfl

-- function 54
set_option maxRecDepth 100000 in
def F54 (k_0 : Addr) (row_1 : Int) (K : Value → Heap → Prop) (h0 : Heap) : Prop := (
  newW (.cells #[.pointer (some k_0)] 39) (fun a1 h2 =>
  newW (.cells #[.int .i64 row_1] 3) (fun a3 h4 =>
  K (.func (.func 59) #[] #[.pointer (some a1), .pointer (some a3)]) h4) h2) h0)
set_option maxRecDepth 100000 in
theorem F54_eq (k_0 : Addr) (row_1 : Int) (K : Value → Heap → Prop) (h0 : Heap) : funWE Try.prog 54 (.seq (.leaf) (.seq (.leaf) (.leaf))) [.pointer (some k_0), .int .i64 row_1] K h0 = F54 k_0 row_1 K h0 := by kernel_rfl

-- function 59
set_option maxRecDepth 100000 in
def F59 (yield_0 : Nat) (cap_0 : Addr) (cap_1 : Addr) (K : Value → Heap → Prop) (h0 : Heap) : Prop := (
  ldW .ptr cap_0 (fun (x1 : Option Addr) =>
  ldW (.int .i64) cap_1 (fun (x2 : Int) =>
  callQ Try.prog 42 [.int .i64 x2] [.sc (.int .i64)] (fun (r3 : Int) =>
  ptrW x1 (fun a4 =>
  idxW r3 66 true (ldW (.int .i64) (Addr.add (Addr.add a4 0) (Int.toNat r3 * 1)) (fun (x5 : Int) =>
  loopT [.sc (.int .i64)] (fun (s7 : Int) _ (K6 : Int → Heap → Prop) h8 =>
  cutT [] (fun (K9 : Unit → Heap → Prop) h15 =>
  ldW (.int .i64) cap_1 (fun (x10 : Int) =>
  callT Try.prog 42 [.int .i64 x10] [.sc (.int .i64)] (fun (r11 : Int) h12 =>
  br (s7 != r11)
  (callW Try.prog (.sc .bool) (.func (.yield yield_0) #[] #[]) [.int .i64 s7] (fun (x13 : Bool) h14 =>
  br x13
  (K9 () h14)
  (K (.tuple #[]) h14)) h12)
  (K (.tuple #[]) h12)) h15) h15) (fun (_s16 : Unit) _ h17 =>
  ldW .ptr cap_0 (fun (x18 : Option Addr) =>
  ptrW x18 (fun a19 =>
  idxW s7 66 true (ldW (.int .i64) (Addr.add (Addr.add a19 0) (Int.toNat s7 * 1)) (fun (x20 : Int) =>
  K6 x20 h17) h17))) h17) h8) x5 h0) h0))) h0) h0) h0)
set_option maxRecDepth 100000 in
theorem F59_eq (yield_0 : Nat) (cap_0 : Addr) (cap_1 : Addr) (K : Value → Heap → Prop) (h0 : Heap) : funWE Try.prog 59 (.seq (.draw (odp [0, 1, 2, 3, 4, 5, 6, 7] .nil) [2]) (.block (.loop [(4, .sc (.int .i64))] (.cut [] (.seq (.leaf) (.cond (.leaf) (.leaf))) (.seq (.block (.leaf)) (.leaf)))))) [.func (.yield yield_0) #[] #[], .pointer (some cap_0), .pointer (some cap_1)] K h0 = F59 yield_0 cap_0 cap_1 K h0 := by kernel_rfl

end Go.Proofs.Ytfanjfbenhocnaa.W
