/-
  The formulas of the laws of flat. Each formula checked by the kernel. Printed by a program of this repo.
-/
import Derived.Test.YtogeildomhahjaaDoorProg
import Derived.Test.YtogeildomhahjaaDoorPl
namespace Go.Proofs.YtogeildomhahjaaDoor.W
open Go.Pl

-- function 22
set_option maxRecDepth 100000 in
def F22  (K : Value → Heap → Prop) (h0 : Heap) : Prop := (
  callT Tryd.prog 24 [.int .i64 3] [.sc .ptr, .sc .any] (fun (r1 : (Option Addr) × Value) h2 =>
  cutT [] (fun (K3 : Unit → Heap → Prop) h4 =>
  br (Option.isNone r1.1)
  (K (.bool false) h4)
  (ifW r1.2 (br (!(isNilV r1.2))
  (K (.bool false) h4)
  (K3 () h4)))) (fun (_s5 : Unit) _ h6 =>
  mkW Tryd.prog 5 (32 : Int) (32 : Int) (fun b7 n8 c9 h10 =>
  ptrW b7 (fun a11 =>
  idxW (0 : Int) n8 true (stW (Addr.add a11 (Int.toNat (0 : Int) * 1)) (.int .u8 5) (fun h12 =>
  ptrW b7 (fun a13 =>
  idxW (16 : Int) n8 true (stW (Addr.add a13 (Int.toNat (16 : Int) * 1)) (.int .u8 6) (fun h14 =>
  callT Tryd.prog 28 [.pointer r1.1, .int .i64 1, .slice b7 n8 c9] [.sc .any] (fun (r15 : Value) h16 =>
  callT Tryd.prog 26 [.pointer r1.1, .int .i64 2, .int .i64 1] [.sc .slice, .sc .any] (fun (r17 : (Option Addr × Nat × Nat) × Value) h18 =>
  callT Tryd.prog 26 [.pointer r1.1, .int .i64 2, .int .i64 2] [.sc .slice, .sc .any] (fun (r19 : (Option Addr × Nat × Nat) × Value) h20 =>
  callT Tryd.prog 32 [.pointer r1.1] [.sc .ptr] (fun (r21 : (Option Addr)) h22 =>
  br (Option.isNone r21)
  (K (.bool false) h22)
  (callT Tryd.prog 30 [.pointer r1.1, .int .i64 2, .int .i64 1] [.sc .any] (fun (r23 : Value) h24 =>
  callT Tryd.prog 26 [.pointer r1.1, .int .i64 2, .int .i64 1] [.sc .slice, .sc .any] (fun (r25 : (Option Addr × Nat × Nat) × Value) h26 =>
  callT Tryd.prog 26 [.pointer r21, .int .i64 2, .int .i64 1] [.sc .slice, .sc .any] (fun (r27 : (Option Addr × Nat × Nat) × Value) h28 =>
  ifW r15 (br (isNilV r15)
  (ifW r17.2 (br (isNilV r17.2)
  (br ((((r17.1.2.1 : Nat) : Int)) == (16 : Int))
  (ptrW r17.1.1 (fun a29 =>
  idxW (0 : Int) r17.1.2.1 true (ldW (.int .u8) (Addr.add a29 (Int.toNat (0 : Int) * 1)) (fun (x30 : Int) =>
  br (x30 == (6 : Int))
  (callT Tryd.prog 21 [r19.2] [.sc (.int .i64)] (fun (r31 : Int) h32 =>
  br (r31 == (1 : Int))
  (ifW r23 (br (isNilV r23)
  (ifW r25.2 (br (isNilV r25.2)
  (br ((((r25.1.2.1 : Nat) : Int)) == (16 : Int))
  (ptrW r25.1.1 (fun a33 =>
  idxW (0 : Int) r25.1.2.1 true (ldW (.int .u8) (Addr.add a33 (Int.toNat (0 : Int) * 1)) (fun (x34 : Int) =>
  br (x34 == (0 : Int))
  (ifW r27.2 (br (isNilV r27.2)
  (br ((((r27.1.2.1 : Nat) : Int)) == (16 : Int))
  (ptrW r27.1.1 (fun a35 =>
  idxW (0 : Int) r27.1.2.1 true (ldW (.int .u8) (Addr.add a35 (Int.toNat (0 : Int) * 1)) (fun (x36 : Int) =>
  br (x36 == (6 : Int))
  (callT Tryd.prog 36 [.pointer r1.1] [.sc (.int .i64)] (fun (r37 : Int) h38 =>
  br (r37 == (3 : Int))
  (callT Tryd.prog 34 [.pointer r1.1, .int .i64 0, .slice b7 n8 c9, .int .i64 1] [.sc (.int .i64)] (fun (r39 : Int) h40 =>
  br (r39 == (1 : Int))
  (slW b7 c9 1 (1 : Int) (((n8 : Nat) : Int)) (((c9 : Nat) : Int)) (fun b41 n42 c43 =>
  callT Tryd.prog 28 [.pointer r1.1, .int .i64 0, .slice b41 n42 c43] [.sc .any] (fun (r44 : Value) h45 =>
  callT Tryd.prog 21 [r44] [.sc (.int .i64)] (fun (r46 : Int) h47 =>
  K (.bool (r46 == (1 : Int))) h47) h45) h40))
  (K (.bool false) h40)) h38)
  (K (.bool false) h38)) h32)
  (K (.bool false) h32)) h32)))
  (K (.bool false) h32))
  (K (.bool false) h32)))
  (K (.bool false) h32)) h32)))
  (K (.bool false) h32))
  (K (.bool false) h32)))
  (K (.bool false) h32)))
  (K (.bool false) h32)) h28)
  (K (.bool false) h28)) h28)))
  (K (.bool false) h28))
  (K (.bool false) h28)))
  (K (.bool false) h28))) h26) h24) h22)) h20) h18) h16) h14) h12))) h10))) h6) h2) h0)
set_option maxRecDepth 100000 in
theorem F22_eq  (K : Value → Heap → Prop) (h0 : Heap) : funWE Tryd.prog 22 (.seq (.leaf) (.seq (.leaf) (.cut [] (.seq (.leaf) (.cond (.seq (.leaf) (.leaf)) (.leaf))) (.seq (.leaf) (.seq (.leaf) (.seq (.leaf) (.seq (.leaf) (.seq (.leaf) (.seq (.leaf) (.seq (.seq (.leaf) (.cond (.seq (.leaf) (.leaf)) (.leaf))) (.seq (.leaf) (.seq (.leaf) (.seq (.leaf) (.seq (.leaf) (.leaf))))))))))))))) [] K h0 = F22  K h0 := by kernel_rfl

-- function 23
set_option maxRecDepth 100000 in
def F23 (l_0 : Option Addr) (l_0l _l_0c : Nat) (K : Value → Heap → Prop) (h0 : Heap) : Prop := (
  br (decide ((((l_0l : Nat) : Int)) > (60 : Int)))
  (K (.bool true) h0)
  (loopT [.sc (.int .i64)] (fun (s2 : Int) _ (K1 : Int → Heap → Prop) h3 =>
  br (decide (s2 < (((l_0l : Nat) : Int))))
  (ptrW l_0 (fun a4 =>
  idxW s2 l_0l true (ldAggW [.int .i64, .int .i64, .int .i64, .slice] (Addr.add a4 (Int.toNat s2 * 4)) (fun (x5 : Int × Int × Int × (Option Addr × Nat × Nat)) =>
  newW (.cells (zeroC Tryd.prog 53) 53) (fun a6 h7 =>
  stLW a6 [.int .i64 x5.1, .int .i64 x5.2.1, .int .i64 x5.2.2.1, .slice x5.2.2.2.1 x5.2.2.2.2.1 x5.2.2.2.2.2] (fun h8 =>
  ldW .slice (Addr.add a6 3) (fun (x9 : Option Addr × Nat × Nat) =>
  br (decide ((((x9.2.1 : Nat) : Int)) > (1200 : Int)))
  (K (.bool true) h8)
  (K1 (IntKind.wrap .i64 (s2 + (1 : Int))) h8)) h8) h7) h3) h3)))
  (K (.bool false) h3)) (0 : Int) h0))
set_option maxRecDepth 100000 in
theorem F23_eq (l_0 : Option Addr) (l_0l l_0c : Nat) (K : Value → Heap → Prop) (h0 : Heap) : funWE Tryd.prog 23 (.seq (.leaf) (.seq (.seq (.leaf) (.cond (.seq (.leaf) (.leaf)) (.leaf))) (.seq (.seq (.leaf) (.block (.loop [(10, .sc (.int .i64))] (.seq (.leaf) (.seq (.cond (.leaf) (.leaf)) (.seq (.block (.seq (.leaf) (.seq (.leaf) (.cond (.seq (.leaf) (.leaf)) (.leaf))))) (.leaf))))))) (.seq (.leaf) (.leaf))))) [.slice l_0 l_0l l_0c] K h0 = F23 l_0 l_0l l_0c K h0 := by kernel_rfl

-- function 5
set_option maxRecDepth 100000 in
def F5 (blocks_0 : Int) (l_1 : Option Addr) (l_1l l_1c : Nat) (K : Value → Heap → Prop) (h0 : Heap) : Prop := (
  callT Tryd.prog 22 [] [.sc .bool] (fun (r1 : Bool) h2 =>
  br (!r1)
  (K (.bool false) h2)
  (callT Tryd.prog 23 [.slice l_1 l_1l l_1c] [.sc .bool] (fun (r3 : Bool) h4 =>
  br r3
  (K (.bool true) h4)
  (callT Tryd.prog 24 [.int .i64 blocks_0] [.sc .ptr, .sc .any] (fun (r5 : (Option Addr) × Value) h6 =>
  callT Tryd.prog 25 [.int .i64 blocks_0] [.sc .ptr, .sc (.int .i64)] (fun (r7 : (Option Addr) × Int) h8 =>
  cutT [] (fun (K9 : Unit → Heap → Prop) h12 =>
  callT Tryd.prog 21 [r5.2] [.sc (.int .i64)] (fun (r10 : Int) h11 =>
  br (r10 != r7.2)
  (K (.bool false) h11)
  (br (!((Option.isNone r5.1) == (Option.isNone r7.1)))
  (K (.bool false) h11)
  (K9 () h11))) h12) (fun (_s13 : Unit) _ h14 =>
  br (Option.isNone r5.1)
  (K (.bool true) h14)
  (loopT [.sc .ptr, .sc (.int .i64)] (fun (s16 : (Option Addr) × Int) _ (K15 : ((Option Addr) × Int) → Heap → Prop) h17 =>
  br (decide (s16.2 < (((l_1l : Nat) : Int))))
  (ptrW l_1 (fun a18 =>
  idxW s16.2 l_1l true (ldAggW [.int .i64, .int .i64, .int .i64, .slice] (Addr.add a18 (Int.toNat s16.2 * 4)) (fun (x19 : Int × Int × Int × (Option Addr × Nat × Nat)) =>
  newW (.cells (zeroC Tryd.prog 53) 53) (fun a20 h21 =>
  stLW a20 [.int .i64 x19.1, .int .i64 x19.2.1, .int .i64 x19.2.2.1, .slice x19.2.2.2.1 x19.2.2.2.2.1 x19.2.2.2.2.2] (fun h22 =>
  cutT [.sc .ptr, .sc .bool] (fun (K23 : ((Option Addr) × Bool) → Heap → Prop) h78 =>
  ldW (.int .i64) (Addr.add a20 0) (fun (x24 : Int) =>
  br (x24 == (0 : Int))
  (ldW (.int .i64) (Addr.add a20 1) (fun (x25 : Int) =>
  ldW (.int .i64) (Addr.add a20 2) (fun (x26 : Int) =>
  callT Tryd.prog 26 [.pointer s16.1, .int .i64 x25, .int .i64 x26] [.sc .slice, .sc .any] (fun (r27 : (Option Addr × Nat × Nat) × Value) h28 =>
  ldW (.int .i64) (Addr.add a20 1) (fun (x29 : Int) =>
  ldW (.int .i64) (Addr.add a20 2) (fun (x30 : Int) =>
  callT Tryd.prog 27 [.pointer r7.1, .int .i64 x29, .int .i64 x30] [.sc .slice, .sc (.int .i64)] (fun (r31 : (Option Addr × Nat × Nat) × Int) h32 =>
  callT Tryd.prog 17 [.slice r27.1.1 r27.1.2.1 r27.1.2.2, .slice r31.1.1 r31.1.2.1 r31.1.2.2] [.sc .bool] (fun (r33 : Bool) h34 =>
  br r33
  (callT Tryd.prog 21 [r27.2] [.sc (.int .i64)] (fun (r35 : Int) h36 =>
  K23 (s16.1, (r35 == r31.2)) h36) h34)
  (K23 (s16.1, false) h34)) h32) h28) h28) h28) h78) h78) h78)
  (br (x24 == (1 : Int))
  (ldW (.int .i64) (Addr.add a20 1) (fun (x37 : Int) =>
  ldW .slice (Addr.add a20 3) (fun (x38 : Option Addr × Nat × Nat) =>
  ldW (.int .i64) (Addr.add a20 1) (fun (x39 : Int) =>
  ldW .slice (Addr.add a20 3) (fun (x40 : Option Addr × Nat × Nat) =>
  callT Tryd.prog 28 [.pointer s16.1, .int .i64 x37, .slice x38.1 x38.2.1 x38.2.2] [.sc .any] (fun (r41 : Value) h42 =>
  (cellH h42 (Addr.add a20 3) = some (.slice x40.1 x40.2.1 x40.2.2) ∧ (cellH h42 (Addr.add a20 1) = some (.int .i64 x39) ∧ callT Tryd.prog 21 [r41] [.sc (.int .i64)] (fun (r43 : Int) h44 =>
  (callT Tryd.prog 29 [.pointer r7.1, .int .i64 x39, .slice x40.1 x40.2.1 x40.2.2] [.sc (.int .i64)] (fun (r45 : Int) h46 =>
  (cellH h46 (Addr.add a20 3) = some (.slice x40.1 x40.2.1 x40.2.2) ∧ (cellH h46 (Addr.add a20 1) = some (.int .i64 x39) ∧ K23 (s16.1, (r43 == r45)) h46))) h44 ∧ Ext h42 h44)) h42))) h78) h78) h78) h78) h78)
  (br (x24 == (2 : Int))
  (ldW (.int .i64) (Addr.add a20 1) (fun (x47 : Int) =>
  ldW (.int .i64) (Addr.add a20 2) (fun (x48 : Int) =>
  ldW (.int .i64) (Addr.add a20 1) (fun (x49 : Int) =>
  ldW (.int .i64) (Addr.add a20 2) (fun (x50 : Int) =>
  callT Tryd.prog 30 [.pointer s16.1, .int .i64 x47, .int .i64 x48] [.sc .any] (fun (r51 : Value) h52 =>
  (cellH h52 (Addr.add a20 2) = some (.int .i64 x50) ∧ (cellH h52 (Addr.add a20 1) = some (.int .i64 x49) ∧ callT Tryd.prog 21 [r51] [.sc (.int .i64)] (fun (r53 : Int) h54 =>
  (callT Tryd.prog 31 [.pointer r7.1, .int .i64 x49, .int .i64 x50] [.sc (.int .i64)] (fun (r55 : Int) h56 =>
  (cellH h56 (Addr.add a20 2) = some (.int .i64 x50) ∧ (cellH h56 (Addr.add a20 1) = some (.int .i64 x49) ∧ K23 (s16.1, (r53 == r55)) h56))) h54 ∧ Ext h52 h54)) h52))) h78) h78) h78) h78) h78)
  (br (x24 == (3 : Int))
  (callT Tryd.prog 32 [.pointer s16.1] [.sc .ptr] (fun (r57 : (Option Addr)) h58 =>
  K23 (r57, true) h58) h78)
  (br (x24 == (4 : Int))
  (cutT [.sc .bool] (fun (K59 : Bool → Heap → Prop) h65 =>
  ldW .slice (Addr.add a20 3) (fun (x60 : Option Addr × Nat × Nat) =>
  br ((Int.tmod (((x60.2.1 : Nat) : Int)) (16 : Int)) == (0 : Int))
  (ldW (.int .i64) (Addr.add a20 1) (fun (x61 : Int) =>
  ldW .slice (Addr.add a20 3) (fun (x62 : Option Addr × Nat × Nat) =>
  callT Tryd.prog 33 [.pointer r7.1, .int .i64 x61, .int .i64 (IntKind.wrap .i64 (Int.tdiv (((x62.2.1 : Nat) : Int)) (16 : Int)))] [.sc .bool] (fun (r63 : Bool) h64 =>
  K59 r63 h64) h65) h65) h65)
  (K59 false h65)) h65) (fun (s66 : Bool) _ h67 =>
  br s66
  (ldW (.int .i64) (Addr.add a20 1) (fun (x68 : Int) =>
  ldW .slice (Addr.add a20 3) (fun (x69 : Option Addr × Nat × Nat) =>
  ldW (.int .i64) (Addr.add a20 2) (fun (x70 : Int) =>
  ldW (.int .i64) (Addr.add a20 1) (fun (x71 : Int) =>
  ldW .slice (Addr.add a20 3) (fun (x72 : Option Addr × Nat × Nat) =>
  ldW (.int .i64) (Addr.add a20 2) (fun (x73 : Int) =>
  callT Tryd.prog 34 [.pointer s16.1, .int .i64 x68, .slice x69.1 x69.2.1 x69.2.2, .int .i64 x70] [.sc (.int .i64)] (fun (r74 : Int) h75 =>
  (cellH h75 (Addr.add a20 2) = some (.int .i64 x73) ∧ (cellH h75 (Addr.add a20 3) = some (.slice x72.1 x72.2.1 x72.2.2) ∧ (cellH h75 (Addr.add a20 1) = some (.int .i64 x71) ∧ callT Tryd.prog 35 [.pointer r7.1, .int .i64 x71, .slice x72.1 x72.2.1 x72.2.2, .int .i64 x73] [.sc (.int .i64)] (fun (r76 : Int) h77 =>
  (cellH h77 (Addr.add a20 2) = some (.int .i64 x73) ∧ (cellH h77 (Addr.add a20 3) = some (.slice x72.1 x72.2.1 x72.2.2) ∧ (cellH h77 (Addr.add a20 1) = some (.int .i64 x71) ∧ K23 (s16.1, (r74 == r76)) h77)))) h75)))) h67) h67) h67) h67) h67) h67) h67)
  (K23 (s16.1, true) h67)) h78)
  (K23 (s16.1, true) h78)))))) h78) (fun (s79 : (Option Addr) × Bool) _ h80 =>
  br (!s79.2)
  (K (.bool false) h80)
  (br (Option.isNone s79.1)
  (K (.bool false) h80)
  (callT Tryd.prog 36 [.pointer s79.1] [.sc (.int .i64)] (fun (r81 : Int) h82 =>
  br (r81 != blocks_0)
  (K (.bool false) h82)
  (K15 (s79.1, (IntKind.wrap .i64 (s16.2 + (1 : Int)))) h82)) h80))) h22) h21) h17) h17)))
  (callT Tryd.prog 26 [.pointer s16.1, .int .i64 0, .int .i64 blocks_0] [.sc .slice, .sc .any] (fun (r83 : (Option Addr × Nat × Nat) × Value) h84 =>
  ifW r83.2 (br (isNilV r83.2)
  (ptrW r7.1 (fun a85 =>
  ldW .slice (Addr.add a85 0) (fun (x86 : Option Addr × Nat × Nat) =>
  callT Tryd.prog 17 [.slice r83.1.1 r83.1.2.1 r83.1.2.2, .slice x86.1 x86.2.1 x86.2.2] [.sc .bool] (fun (r87 : Bool) h88 =>
  K (.bool r87) h88) h84) h84))
  (K (.bool false) h84))) h17)) (r5.1, (0 : Int)) h14)) h8) h6) h4)) h2)) h0)
set_option maxRecDepth 100000 in
theorem F5_eq (blocks_0 : Int) (l_1 : Option Addr) (l_1l l_1c : Nat) (K : Value → Heap → Prop) (h0 : Heap) : funWE Tryd.prog 5 (.seq (.leaf) (.seq (.seq (.leaf) (.cond (.seq (.leaf) (.leaf)) (.leaf))) (.seq (.seq (.leaf) (.cond (.seq (.leaf) (.leaf)) (.leaf))) (.seq (.leaf) (.seq (.leaf) (.cut [] (.seq (.leaf) (.cond (.seq (.leaf) (.leaf)) (.leaf))) (.seq (.seq (.leaf) (.cond (.seq (.leaf) (.leaf)) (.leaf))) (.seq (.seq (.leaf) (.block (.loop [(5, .sc .ptr), (46, .sc (.int .i64))] (.seq (.leaf) (.seq (.cond (.leaf) (.leaf)) (.seq (.block (.seq (.leaf) (.seq (.leaf) (.cut [(5, .sc .ptr), (11, .sc .bool)] (.seq (.leaf) (.block (.seq (.leaf) (.cond (.seq (.leaf) (.seq (.leaf) (.leaf))) (.seq (.leaf) (.cond (.draw [0, 1, 2, 3, 4, 7, 8, 10, 9, 11, 5, 6, 12, 13, 14] [100006, 200009, 200011]) (.seq (.leaf) (.cond (.draw [0, 1, 2, 3, 4, 7, 8, 10, 9, 11, 5, 6, 12, 13, 14] [100006, 200009, 200011]) (.seq (.leaf) (.cond (.leaf) (.seq (.leaf) (.cond (.cut [(133, .sc .bool)] (.leaf) (.cond (.draw [0, 1, 2, 3, 4, 5, 6, 8, 9, 11, 13, 10, 12, 14, 7, 15, 16, 17] [200010, 200012, 200014]) (.leaf))) (.leaf))))))))))))) (.seq (.leaf) (.cond (.seq (.leaf) (.leaf)) (.leaf))))))) (.leaf))))))) (.seq (.leaf) (.seq (.leaf) (.leaf))))))))))) [.int .i64 blocks_0, .slice l_1 l_1l l_1c] K h0 = F5 blocks_0 l_1 l_1l l_1c K h0 := by kernel_rfl

-- function 6
set_option maxRecDepth 100000 in
def F6 (blocks_0 : Int) (was_1 : Option Addr) (was_1l was_1c : Nat) (from_2 : Int) (b_3 : Option Addr) (b_3l b_3c : Nat) (steps_4 : Int) (K : Value → Heap → Prop) (h0 : Heap) : Prop := (
  callT Tryd.prog 22 [] [.sc .bool] (fun (r1 : Bool) h2 =>
  br (!r1)
  (K (.bool false) h2)
  (callT Tryd.prog 24 [.int .i64 blocks_0] [.sc .ptr, .sc .any] (fun (r3 : (Option Addr) × Value) h4 =>
  cutT [] (fun (K5 : Unit → Heap → Prop) h6 =>
  br (Option.isNone r3.1)
  (K (.bool true) h6)
  (br (decide ((((b_3l : Nat) : Int)) > (1200 : Int)))
  (K (.bool true) h6)
  (br (decide ((((was_1l : Nat) : Int)) > (1200 : Int)))
  (K (.bool true) h6)
  (K5 () h6)))) (fun (_s7 : Unit) _ h8 =>
  callT Tryd.prog 28 [.pointer r3.1, .int .i64 0, .slice was_1 was_1l was_1c] [.sc .any] (fun (_r9 : Value) h10 =>
  callT Tryd.prog 26 [.pointer r3.1, .int .i64 0, .int .i64 blocks_0] [.sc .slice, .sc .any] (fun (r11 : (Option Addr × Nat × Nat) × Value) h12 =>
  callT Tryd.prog 32 [.pointer r3.1] [.sc .ptr] (fun (r13 : (Option Addr)) h14 =>
  callT Tryd.prog 32 [.pointer r3.1] [.sc .ptr] (fun (r15 : (Option Addr)) h16 =>
  callT Tryd.prog 32 [.pointer r3.1] [.sc .ptr] (fun (r17 : (Option Addr)) h18 =>
  callT Tryd.prog 28 [.pointer r13, .int .i64 from_2, .slice b_3 b_3l b_3c] [.sc .any] (fun (r19 : Value) h20 =>
  ifW r19 (br (!(isNilV r19))
  (callT Tryd.prog 26 [.pointer r13, .int .i64 0, .int .i64 blocks_0] [.sc .slice, .sc .any] (fun (r21 : (Option Addr × Nat × Nat) × Value) h22 =>
  callT Tryd.prog 17 [.slice r21.1.1 r21.1.2.1 r21.1.2.2, .slice r11.1.1 r11.1.2.1 r11.1.2.2] [.sc .bool] (fun (r23 : Bool) h24 =>
  K (.bool r23) h24) h22) h20)
  (callT Tryd.prog 34 [.pointer r15, .int .i64 from_2, .slice b_3 b_3l b_3c, .int .i64 steps_4] [.sc (.int .i64)] (fun (r25 : Int) h26 =>
  cutT [] (fun (K27 : Unit → Heap → Prop) h33 =>
  br (decide (r25 < (0 : Int)))
  (K (.bool false) h33)
  (br (decide (r25 > (IntKind.wrap .i64 (Int.tdiv (((b_3l : Nat) : Int)) (16 : Int)))))
  (K (.bool false) h33)
  (br (decide (r25 > (mm2 true steps_4 (0 : Int))))
  (K (.bool false) h33)
  (slW b_3 b_3c 1 (IntKind.wrap .i64 ((16 : Int) * r25)) (((b_3l : Nat) : Int)) (((b_3c : Nat) : Int)) (fun b28 n29 c30 =>
  callT Tryd.prog 28 [.pointer r15, .int .i64 (IntKind.wrap .i64 (from_2 + r25)), .slice b28 n29 c30] [.sc .any] (fun (r31 : Value) h32 =>
  ifW r31 (br (!(isNilV r31))
  (K (.bool false) h32)
  (K27 () h32))) h33))))) (fun (_s34 : Unit) _ h35 =>
  callT Tryd.prog 26 [.pointer r13, .int .i64 0, .int .i64 blocks_0] [.sc .slice, .sc .any] (fun (r36 : (Option Addr × Nat × Nat) × Value) h37 =>
  callT Tryd.prog 26 [.pointer r15, .int .i64 0, .int .i64 blocks_0] [.sc .slice, .sc .any] (fun (r38 : (Option Addr × Nat × Nat) × Value) h39 =>
  callT Tryd.prog 26 [.pointer r17, .int .i64 0, .int .i64 blocks_0] [.sc .slice, .sc .any] (fun (r40 : (Option Addr × Nat × Nat) × Value) h41 =>
  callT Tryd.prog 26 [.pointer r13, .int .i64 from_2, .int .i64 (IntKind.wrap .i64 (Int.tdiv (((b_3l : Nat) : Int)) (16 : Int)))] [.sc .slice, .sc .any] (fun (r42 : (Option Addr × Nat × Nat) × Value) h43 =>
  callQ Tryd.prog 17 [.slice r36.1.1 r36.1.2.1 r36.1.2.2, .slice r38.1.1 r38.1.2.1 r38.1.2.2] [.sc .bool] (fun (r44 : Bool) =>
  br r44
  (callQ Tryd.prog 17 [.slice r40.1.1 r40.1.2.1 r40.1.2.2, .slice r11.1.1 r11.1.2.1 r11.1.2.2] [.sc .bool] (fun (r45 : Bool) =>
  br r45
  (ifW r42.2 (br (isNilV r42.2)
  (callQ Tryd.prog 17 [.slice r42.1.1 r42.1.2.1 r42.1.2.2, .slice b_3 b_3l b_3c] [.sc .bool] (fun (r46 : Bool) =>
  br r46
  (br ((((r36.1.2.1 : Nat) : Int)) == (((r11.1.2.1 : Nat) : Int)))
  (slW r36.1.1 r36.1.2.2 1 (0 : Int) (IntKind.wrap .i64 ((16 : Int) * from_2)) (((r36.1.2.2 : Nat) : Int)) (fun b47 n48 c49 =>
  slW r11.1.1 r11.1.2.2 1 (0 : Int) (IntKind.wrap .i64 ((16 : Int) * from_2)) (((r11.1.2.2 : Nat) : Int)) (fun b50 n51 c52 =>
  callQ Tryd.prog 17 [.slice b47 n48 c49, .slice b50 n51 c52] [.sc .bool] (fun (r53 : Bool) =>
  br r53
  (slW r36.1.1 r36.1.2.2 1 (IntKind.wrap .i64 ((IntKind.wrap .i64 ((16 : Int) * from_2)) + (((b_3l : Nat) : Int)))) (((r36.1.2.1 : Nat) : Int)) (((r36.1.2.2 : Nat) : Int)) (fun b54 n55 c56 =>
  slW r11.1.1 r11.1.2.2 1 (IntKind.wrap .i64 ((IntKind.wrap .i64 ((16 : Int) * from_2)) + (((b_3l : Nat) : Int)))) (((r11.1.2.1 : Nat) : Int)) (((r11.1.2.2 : Nat) : Int)) (fun b57 n58 c59 =>
  callQ Tryd.prog 17 [.slice b54 n55 c56, .slice b57 n58 c59] [.sc .bool] (fun (r60 : Bool) =>
  K (.bool r60) h43) h43)))
  (K (.bool false) h43)) h43)))
  (K (.bool false) h43))
  (K (.bool false) h43)) h43)
  (K (.bool false) h43)))
  (K (.bool false) h43)) h43)
  (K (.bool false) h43)) h43) h41) h39) h37) h35) h26) h20))) h18) h16) h14) h12) h10) h8) h4) h2)) h0)
set_option maxRecDepth 100000 in
theorem F6_eq (blocks_0 : Int) (was_1 : Option Addr) (was_1l was_1c : Nat) (from_2 : Int) (b_3 : Option Addr) (b_3l b_3c : Nat) (steps_4 : Int) (K : Value → Heap → Prop) (h0 : Heap) : funWE Tryd.prog 6 (.seq (.leaf) (.seq (.seq (.leaf) (.cond (.seq (.leaf) (.leaf)) (.leaf))) (.seq (.leaf) (.cut [] (.seq (.leaf) (.cond (.seq (.leaf) (.leaf)) (.leaf))) (.seq (.leaf) (.seq (.leaf) (.seq (.leaf) (.seq (.seq (.leaf) (.cond (.seq (.leaf) (.seq (.leaf) (.leaf))) (.leaf))) (.seq (.leaf) (.cut [] (.seq (.leaf) (.cond (.seq (.leaf) (.leaf)) (.leaf))) (.seq (.leaf) (.seq (.leaf) (.seq (.leaf) (.seq (.leaf) (.seq (.draw [0, 1, 2, 3, 4, 5, 6, 7, 8, 9, 10, 11, 12, 13, 14, 15, 16, 17, 18, 19, 20, 21, 22, 23, 24, 25, 26, 27, 28, 29, 30, 31, 32, 33, 34, 35, 36, 37, 38, 39, 40, 41, 42, 43, 44, 45, 46, 47, 48, 49, 50, 51, 52] [2, 6, 15, 33, 50]) (.leaf)))))))))))))))) [.int .i64 blocks_0, .slice was_1 was_1l was_1c, .int .i64 from_2, .slice b_3 b_3l b_3c, .int .i64 steps_4] K h0 = F6 blocks_0 was_1 was_1l was_1c from_2 b_3 b_3l b_3c steps_4 K h0 := by kernel_rfl

-- function 7
set_option maxRecDepth 100000 in
def F7 (blocks_0 : Int) (from_1 : Int) (b_2 : Option Addr) (b_2l b_2c : Nat) (other_3 : Int) (c_4 : Option Addr) (c_4l c_4c : Nat) (K : Value → Heap → Prop) (h0 : Heap) : Prop := (
  callT Tryd.prog 22 [] [.sc .bool] (fun (r1 : Bool) h2 =>
  br (!r1)
  (K (.bool false) h2)
  (callT Tryd.prog 24 [.int .i64 blocks_0] [.sc .ptr, .sc .any] (fun (r3 : (Option Addr) × Value) h4 =>
  cutT [] (fun (K5 : Unit → Heap → Prop) h6 =>
  br (Option.isNone r3.1)
  (K (.bool true) h6)
  (br (decide ((((b_2l : Nat) : Int)) > (1200 : Int)))
  (K (.bool true) h6)
  (br (decide ((((c_4l : Nat) : Int)) > (1200 : Int)))
  (K (.bool true) h6)
  (K5 () h6)))) (fun (_s7 : Unit) _ h8 =>
  callT Tryd.prog 32 [.pointer r3.1] [.sc .ptr] (fun (r9 : (Option Addr)) h10 =>
  callT Tryd.prog 32 [.pointer r3.1] [.sc .ptr] (fun (r11 : (Option Addr)) h12 =>
  callT Tryd.prog 32 [.pointer r3.1] [.sc .ptr] (fun (r13 : (Option Addr)) h14 =>
  cutT [] (fun (K15 : Unit → Heap → Prop) h20 =>
  callT Tryd.prog 28 [.pointer r9, .int .i64 from_1, .slice b_2 b_2l b_2c] [.sc .any] (fun (r16 : Value) h17 =>
  ifW r16 (br (!(isNilV r16))
  (K (.bool true) h17)
  (callT Tryd.prog 28 [.pointer r11, .int .i64 other_3, .slice c_4 c_4l c_4c] [.sc .any] (fun (r18 : Value) h19 =>
  ifW r18 (br (!(isNilV r18))
  (K (.bool true) h19)
  (K15 () h19))) h17))) h20) (fun (_s21 : Unit) _ h22 =>
  cutT [.sc .bool] (fun (K23 : Bool → Heap → Prop) h24 =>
  br (decide ((IntKind.wrap .i64 (from_1 + (IntKind.wrap .i64 (Int.tdiv (((b_2l : Nat) : Int)) (16 : Int))))) ≤ other_3))
  (K23 true h24)
  (K23 (decide ((IntKind.wrap .i64 (other_3 + (IntKind.wrap .i64 (Int.tdiv (((c_4l : Nat) : Int)) (16 : Int))))) ≤ from_1)) h24)) (fun (s25 : Bool) _ h26 =>
  callT Tryd.prog 28 [.pointer r9, .int .i64 other_3, .slice c_4 c_4l c_4c] [.sc .any] (fun (_r27 : Value) h28 =>
  callT Tryd.prog 28 [.pointer r11, .int .i64 from_1, .slice b_2 b_2l b_2c] [.sc .any] (fun (_r29 : Value) h30 =>
  callT Tryd.prog 26 [.pointer r9, .int .i64 0, .int .i64 blocks_0] [.sc .slice, .sc .any] (fun (r31 : (Option Addr × Nat × Nat) × Value) h32 =>
  callT Tryd.prog 26 [.pointer r11, .int .i64 0, .int .i64 blocks_0] [.sc .slice, .sc .any] (fun (r33 : (Option Addr × Nat × Nat) × Value) h34 =>
  cutT [] (fun (K35 : Unit → Heap → Prop) h38 =>
  br s25
  (callT Tryd.prog 17 [.slice r31.1.1 r31.1.2.1 r31.1.2.2, .slice r33.1.1 r33.1.2.1 r33.1.2.2] [.sc .bool] (fun (r36 : Bool) h37 =>
  br (!r36)
  (K (.bool false) h37)
  (K35 () h37)) h38)
  (K35 () h38)) (fun (_s39 : Unit) _ h40 =>
  callT Tryd.prog 28 [.pointer r9, .int .i64 other_3, .slice c_4 c_4l c_4c] [.sc .any] (fun (_r41 : Value) h42 =>
  callT Tryd.prog 26 [.pointer r9, .int .i64 0, .int .i64 blocks_0] [.sc .slice, .sc .any] (fun (r43 : (Option Addr × Nat × Nat) × Value) h44 =>
  callT Tryd.prog 28 [.pointer r13, .int .i64 from_1, .slice b_2 b_2l b_2c] [.sc .any] (fun (_r45 : Value) h46 =>
  callT Tryd.prog 32 [.pointer r13] [.sc .ptr] (fun (r47 : (Option Addr)) h48 =>
  callT Tryd.prog 30 [.pointer r13, .int .i64 from_1, .int .i64 (IntKind.wrap .i64 (Int.tdiv (((b_2l : Nat) : Int)) (16 : Int)))] [.sc .any] (fun (_r49 : Value) h50 =>
  mkW Tryd.prog 5 (((b_2l : Nat) : Int)) (((b_2l : Nat) : Int)) (fun b51 n52 c53 h54 =>
  callT Tryd.prog 28 [.pointer r47, .int .i64 from_1, .slice b51 n52 c53] [.sc .any] (fun (_r55 : Value) h56 =>
  callT Tryd.prog 26 [.pointer r13, .int .i64 0, .int .i64 blocks_0] [.sc .slice, .sc .any] (fun (r57 : (Option Addr × Nat × Nat) × Value) h58 =>
  callT Tryd.prog 26 [.pointer r47, .int .i64 0, .int .i64 blocks_0] [.sc .slice, .sc .any] (fun (r59 : (Option Addr × Nat × Nat) × Value) h60 =>
  callT Tryd.prog 17 [.slice r31.1.1 r31.1.2.1 r31.1.2.2, .slice r43.1.1 r43.1.2.1 r43.1.2.2] [.sc .bool] (fun (r61 : Bool) h62 =>
  br r61
  (callT Tryd.prog 17 [.slice r57.1.1 r57.1.2.1 r57.1.2.2, .slice r59.1.1 r59.1.2.1 r59.1.2.2] [.sc .bool] (fun (r63 : Bool) h64 =>
  K (.bool r63) h64) h62)
  (K (.bool false) h62)) h60) h58) h56) h54) h50) h48) h46) h44) h42) h40) h34) h32) h30) h28) h26) h22) h14) h12) h10) h8) h4) h2)) h0)
set_option maxRecDepth 100000 in
theorem F7_eq (blocks_0 : Int) (from_1 : Int) (b_2 : Option Addr) (b_2l b_2c : Nat) (other_3 : Int) (c_4 : Option Addr) (c_4l c_4c : Nat) (K : Value → Heap → Prop) (h0 : Heap) : funWE Tryd.prog 7 (.seq (.leaf) (.seq (.seq (.leaf) (.cond (.seq (.leaf) (.leaf)) (.leaf))) (.seq (.leaf) (.cut [] (.seq (.leaf) (.cond (.seq (.leaf) (.leaf)) (.leaf))) (.seq (.leaf) (.cut [] (.seq (.leaf) (.cond (.seq (.leaf) (.leaf)) (.leaf))) (.cut [(16, .sc .bool)] (.leaf) (.seq (.leaf) (.seq (.leaf) (.seq (.leaf) (.seq (.leaf) (.cut [] (.seq (.leaf) (.cond (.seq (.leaf) (.leaf)) (.leaf))) (.seq (.leaf) (.seq (.leaf) (.seq (.leaf) (.seq (.leaf) (.seq (.leaf) (.seq (.leaf) (.seq (.leaf) (.seq (.leaf) (.seq (.leaf) (.leaf)))))))))))))))))))))) [.int .i64 blocks_0, .int .i64 from_1, .slice b_2 b_2l b_2c, .int .i64 other_3, .slice c_4 c_4l c_4c] K h0 = F7 blocks_0 from_1 b_2 b_2l b_2c other_3 c_4 c_4l c_4c K h0 := by kernel_rfl

end Go.Proofs.YtogeildomhahjaaDoor.W
