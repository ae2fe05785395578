/-
  The formula of MediaDoes. Each formula checked by the kernel. Printed by a program of this repo.
-/
import Derived.Test.YtgohecjnjadnpaaGreatDoorProg
import Derived.Test.YtgohecjnjadnpaaGreatDoorPl
namespace Go.Proofs.YtgohecjnjadnpaaGreatDoor.W
open Go.Pl

-- function 3
set_option maxRecDepth 100000 in
def F3 (g_0_0 : Int) (g_0_1 : Int) (g_0_2 : Int) (other_1_0 : Int) (other_1_1 : Int) (other_1_2 : Int) (l_2 : Option Addr) (l_2l l_2c : Nat) (K : Value → Heap → Prop) (h0 : Heap) : Prop := (
  newW (.cells #[.int .i64 g_0_0, .int .i64 g_0_1, .int .i64 g_0_2] 23) (fun a1 h2 =>
  newW (.cells #[.int .i64 other_1_0, .int .i64 other_1_1, .int .i64 other_1_2] 23) (fun a3 h4 =>
  callT Tryz.prog 4 [] [.sc .bool] (fun (r5 : Bool) h6 =>
  br (!r5)
  (K (.bool false) h6)
  (cutT [] (fun (K7 : Unit → Heap → Prop) h13 =>
  ldAggW [.int .i64, .int .i64, .int .i64] a1 (fun (x8 : Int × Int × Int) =>
  callT Tryz.prog 5 [.agg #[.int .i64 x8.1, .int .i64 x8.2.1, .int .i64 x8.2.2]] [.sc .bool] (fun (r9 : Bool) h10 =>
  br (!r9)
  (K (.bool true) h10)
  (callT Tryz.prog 6 [.slice l_2 l_2l l_2c] [.sc .bool] (fun (r11 : Bool) h12 =>
  br r11
  (K (.bool true) h12)
  (K7 () h12)) h10)) h13) h13) (fun (_s14 : Unit) _ h15 =>
  ldW (.int .i64) (Addr.add a1 0) (fun (x16 : Int) =>
  ldW (.int .i64) (Addr.add a1 1) (fun (x17 : Int) =>
  callT Tryz.prog 7 [.int .i64 x16, .int .i64 x17] [.sc .ptr, .sc .any] (fun (r18 : (Option Addr) × Value) h19 =>
  ldW (.int .i64) (Addr.add a1 0) (fun (x20 : Int) =>
  ldW (.int .i64) (Addr.add a1 1) (fun (x21 : Int) =>
  callT Tryz.prog 8 [.int .i64 x20, .int .i64 x21] [.sc .ptr, .sc (.int .i64)] (fun (r22 : (Option Addr) × Int) h23 =>
  cutT [] (fun (K24 : Unit → Heap → Prop) h31 =>
  br (Option.isNone r18.1)
  (K (.bool false) h31)
  (br (Option.isNone r22.1)
  (K (.bool false) h31)
  (ldAggW [.int .i64, .int .i64, .int .i64] a3 (fun (x25 : Int × Int × Int) =>
  ldAggW [.int .i64, .int .i64, .int .i64] a3 (fun (x26 : Int × Int × Int) =>
  callT Tryz.prog 9 [.pointer r18.1, .agg #[.int .i64 x25.1, .int .i64 x25.2.1, .int .i64 x25.2.2]] [.sc .bool] (fun (r27 : Bool) h28 =>
  (cellH h28 (Addr.add a3 0) = some (.int .i64 x26.1) ∧ (cellH h28 (Addr.add a3 1) = some (.int .i64 x26.2.1) ∧ (cellH h28 (Addr.add a3 2) = some (.int .i64 x26.2.2) ∧ callT Tryz.prog 10 [.pointer r22.1, .agg #[.int .i64 x26.1, .int .i64 x26.2.1, .int .i64 x26.2.2]] [.sc .bool] (fun (r29 : Bool) h30 =>
  br (!(r27 == r29))
  (K (.bool false) h30)
  (K24 () h30)) h28)))) h31) h31) h31))) (fun (_s32 : Unit) _ h33 =>
  loopT [.sc (.int .i64)] (fun (s35 : Int) _ (K34 : Int → Heap → Prop) h36 =>
  br (decide (s35 < (((l_2l : Nat) : Int))))
  (ptrW l_2 (fun a37 =>
  idxW s35 l_2l true (ldAggW [.int .i64, .int .i64, .int .u32, .int .u8, .int .u32, .int .u32, .int .u32, .slice, .slice, .slice] (Addr.add a37 (Int.toNat s35 * 10)) (fun (x38 : Int × Int × Int × Int × Int × Int × Int × (Option Addr × Nat × Nat) × (Option Addr × Nat × Nat) × (Option Addr × Nat × Nat)) =>
  newW (.cells (zeroC Tryz.prog 47) 47) (fun a39 h40 =>
  stLW a39 [.int .i64 x38.1, .int .i64 x38.2.1, .int .u32 x38.2.2.1, .int .u8 x38.2.2.2.1, .int .u32 x38.2.2.2.2.1, .int .u32 x38.2.2.2.2.2.1, .int .u32 x38.2.2.2.2.2.2.1, .slice x38.2.2.2.2.2.2.2.1.1 x38.2.2.2.2.2.2.2.1.2.1 x38.2.2.2.2.2.2.2.1.2.2, .slice x38.2.2.2.2.2.2.2.2.1.1 x38.2.2.2.2.2.2.2.2.1.2.1 x38.2.2.2.2.2.2.2.2.1.2.2, .slice x38.2.2.2.2.2.2.2.2.2.1 x38.2.2.2.2.2.2.2.2.2.2.1 x38.2.2.2.2.2.2.2.2.2.2.2] (fun h41 =>
  cutT [.sc .ptr, .sc .ptr] (fun (K42 : ((Option Addr) × (Option Addr)) → Heap → Prop) h139 =>
  ldAggW [.int .i64, .int .i64, .int .i64] a1 (fun (x43 : Int × Int × Int) =>
  ldAggW [.int .i64, .int .i64, .int .u32, .int .u8, .int .u32, .int .u32, .int .u32, .slice, .slice, .slice] a39 (fun (x44 : Int × Int × Int × Int × Int × Int × Int × (Option Addr × Nat × Nat) × (Option Addr × Nat × Nat) × (Option Addr × Nat × Nat)) =>
  ldAggW [.int .i64, .int .i64, .int .i64] a1 (fun (x45 : Int × Int × Int) =>
  ldAggW [.int .i64, .int .i64, .int .u32, .int .u8, .int .u32, .int .u32, .int .u32, .slice, .slice, .slice] a39 (fun (x46 : Int × Int × Int × Int × Int × Int × Int × (Option Addr × Nat × Nat) × (Option Addr × Nat × Nat) × (Option Addr × Nat × Nat)) =>
  (callT Tryz.prog 11 [.pointer r18.1, .agg #[.int .i64 x43.1, .int .i64 x43.2.1, .int .i64 x43.2.2], .agg #[.int .i64 x44.1, .int .i64 x44.2.1, .int .u32 x44.2.2.1, .int .u8 x44.2.2.2.1, .int .u32 x44.2.2.2.2.1, .int .u32 x44.2.2.2.2.2.1, .int .u32 x44.2.2.2.2.2.2.1, .slice x44.2.2.2.2.2.2.2.1.1 x44.2.2.2.2.2.2.2.1.2.1 x44.2.2.2.2.2.2.2.1.2.2, .slice x44.2.2.2.2.2.2.2.2.1.1 x44.2.2.2.2.2.2.2.2.1.2.1 x44.2.2.2.2.2.2.2.2.1.2.2, .slice x44.2.2.2.2.2.2.2.2.2.1 x44.2.2.2.2.2.2.2.2.2.2.1 x44.2.2.2.2.2.2.2.2.2.2.2]] [.agg [.int .u32, .int .u8, .int .u32, .int .u32, .int .u32, .slice, .int .i64]] (fun (r47 : (Int × Int × Int × Int × Int × (Option Addr × Nat × Nat) × Int)) h48 =>
  (cellH h48 (Addr.add a39 0) = some (.int .i64 x46.1) ∧ (cellH h48 (Addr.add a39 1) = some (.int .i64 x46.2.1) ∧ (cellH h48 (Addr.add a39 2) = some (.int .u32 x46.2.2.1) ∧ (cellH h48 (Addr.add a39 3) = some (.int .u8 x46.2.2.2.1) ∧ (cellH h48 (Addr.add a39 4) = some (.int .u32 x46.2.2.2.2.1) ∧ (cellH h48 (Addr.add a39 5) = some (.int .u32 x46.2.2.2.2.2.1) ∧ (cellH h48 (Addr.add a39 6) = some (.int .u32 x46.2.2.2.2.2.2.1) ∧ (cellH h48 (Addr.add a39 7) = some (.slice x46.2.2.2.2.2.2.2.1.1 x46.2.2.2.2.2.2.2.1.2.1 x46.2.2.2.2.2.2.2.1.2.2) ∧ (cellH h48 (Addr.add a39 8) = some (.slice x46.2.2.2.2.2.2.2.2.1.1 x46.2.2.2.2.2.2.2.2.1.2.1 x46.2.2.2.2.2.2.2.2.1.2.2) ∧ (cellH h48 (Addr.add a39 9) = some (.slice x46.2.2.2.2.2.2.2.2.2.1 x46.2.2.2.2.2.2.2.2.2.2.1 x46.2.2.2.2.2.2.2.2.2.2.2) ∧ (cellH h48 (Addr.add a1 0) = some (.int .i64 x45.1) ∧ (cellH h48 (Addr.add a1 1) = some (.int .i64 x45.2.1) ∧ (cellH h48 (Addr.add a1 2) = some (.int .i64 x45.2.2) ∧ (callT Tryz.prog 12 [.pointer r22.1, .agg #[.int .i64 x45.1, .int .i64 x45.2.1, .int .i64 x45.2.2], .agg #[.int .i64 x46.1, .int .i64 x46.2.1, .int .u32 x46.2.2.1, .int .u8 x46.2.2.2.1, .int .u32 x46.2.2.2.2.1, .int .u32 x46.2.2.2.2.2.1, .int .u32 x46.2.2.2.2.2.2.1, .slice x46.2.2.2.2.2.2.2.1.1 x46.2.2.2.2.2.2.2.1.2.1 x46.2.2.2.2.2.2.2.1.2.2, .slice x46.2.2.2.2.2.2.2.2.1.1 x46.2.2.2.2.2.2.2.2.1.2.1 x46.2.2.2.2.2.2.2.2.1.2.2, .slice x46.2.2.2.2.2.2.2.2.2.1 x46.2.2.2.2.2.2.2.2.2.2.1 x46.2.2.2.2.2.2.2.2.2.2.2]] [.agg [.int .u32, .int .u8, .int .u32, .int .u32, .int .u32, .slice, .int .i64]] (fun (r49 : (Int × Int × Int × Int × Int × (Option Addr × Nat × Nat) × Int)) h50 =>
  (newW (.cells (zeroC Tryz.prog 50) 50) (fun a51 h52 =>
  newW (.cells (zeroC Tryz.prog 50) 50) (fun a53 h54 =>
  stLW a51 [.int .u32 r47.1, .int .u8 r47.2.1, .int .u32 r47.2.2.1, .int .u32 r47.2.2.2.1, .int .u32 r47.2.2.2.2.1, .slice r47.2.2.2.2.2.1.1 r47.2.2.2.2.2.1.2.1 r47.2.2.2.2.2.1.2.2, .int .i64 r47.2.2.2.2.2.2] (fun h55 =>
  stLW a53 [.int .u32 r49.1, .int .u8 r49.2.1, .int .u32 r49.2.2.1, .int .u32 r49.2.2.2.1, .int .u32 r49.2.2.2.2.1, .slice r49.2.2.2.2.2.1.1 r49.2.2.2.2.2.1.2.1 r49.2.2.2.2.2.1.2.2, .int .i64 r49.2.2.2.2.2.2] (fun h56 =>
  K42 ((some a51), (some a53)) h56) h55) h54) h52) h50) ∧
  (newW (.cells (zeroC Tryz.prog 50) 50) (fun a57 h58 =>
  newW (.cells (zeroC Tryz.prog 50) 50) (fun a59 h60 =>
  stLW a59 [.int .u32 r47.1, .int .u8 r47.2.1, .int .u32 r47.2.2.1, .int .u32 r47.2.2.2.1, .int .u32 r47.2.2.2.2.1, .slice r47.2.2.2.2.2.1.1 r47.2.2.2.2.2.1.2.1 r47.2.2.2.2.2.1.2.2, .int .i64 r47.2.2.2.2.2.2] (fun h61 =>
  stLW a57 [.int .u32 r49.1, .int .u8 r49.2.1, .int .u32 r49.2.2.1, .int .u32 r49.2.2.2.1, .int .u32 r49.2.2.2.2.1, .slice r49.2.2.2.2.2.1.1 r49.2.2.2.2.2.1.2.1 r49.2.2.2.2.2.1.2.2, .int .i64 r49.2.2.2.2.2.2] (fun h62 =>
  K42 ((some a59), (some a57)) h62) h61) h60) h58) h50)) h48) ∧
  (newW (.cells (zeroC Tryz.prog 50) 50) (fun a63 h64 =>
  (callT Tryz.prog 12 [.pointer r22.1, .agg #[.int .i64 x45.1, .int .i64 x45.2.1, .int .i64 x45.2.2], .agg #[.int .i64 x46.1, .int .i64 x46.2.1, .int .u32 x46.2.2.1, .int .u8 x46.2.2.2.1, .int .u32 x46.2.2.2.2.1, .int .u32 x46.2.2.2.2.2.1, .int .u32 x46.2.2.2.2.2.2.1, .slice x46.2.2.2.2.2.2.2.1.1 x46.2.2.2.2.2.2.2.1.2.1 x46.2.2.2.2.2.2.2.1.2.2, .slice x46.2.2.2.2.2.2.2.2.1.1 x46.2.2.2.2.2.2.2.2.1.2.1 x46.2.2.2.2.2.2.2.2.1.2.2, .slice x46.2.2.2.2.2.2.2.2.2.1 x46.2.2.2.2.2.2.2.2.2.2.1 x46.2.2.2.2.2.2.2.2.2.2.2]] [.agg [.int .u32, .int .u8, .int .u32, .int .u32, .int .u32, .slice, .int .i64]] (fun (r65 : (Int × Int × Int × Int × Int × (Option Addr × Nat × Nat) × Int)) h66 =>
  newW (.cells (zeroC Tryz.prog 50) 50) (fun a67 h68 =>
  stLW a63 [.int .u32 r47.1, .int .u8 r47.2.1, .int .u32 r47.2.2.1, .int .u32 r47.2.2.2.1, .int .u32 r47.2.2.2.2.1, .slice r47.2.2.2.2.2.1.1 r47.2.2.2.2.2.1.2.1 r47.2.2.2.2.2.1.2.2, .int .i64 r47.2.2.2.2.2.2] (fun h69 =>
  stLW a67 [.int .u32 r65.1, .int .u8 r65.2.1, .int .u32 r65.2.2.1, .int .u32 r65.2.2.2.1, .int .u32 r65.2.2.2.2.1, .slice r65.2.2.2.2.2.1.1 r65.2.2.2.2.2.1.2.1 r65.2.2.2.2.2.1.2.2, .int .i64 r65.2.2.2.2.2.2] (fun h70 =>
  K42 ((some a63), (some a67)) h70) h69) h68) h66) h64) ∧
  (newW (.cells (zeroC Tryz.prog 50) 50) (fun a71 h72 =>
  callT Tryz.prog 12 [.pointer r22.1, .agg #[.int .i64 x45.1, .int .i64 x45.2.1, .int .i64 x45.2.2], .agg #[.int .i64 x46.1, .int .i64 x46.2.1, .int .u32 x46.2.2.1, .int .u8 x46.2.2.2.1, .int .u32 x46.2.2.2.2.1, .int .u32 x46.2.2.2.2.2.1, .int .u32 x46.2.2.2.2.2.2.1, .slice x46.2.2.2.2.2.2.2.1.1 x46.2.2.2.2.2.2.2.1.2.1 x46.2.2.2.2.2.2.2.1.2.2, .slice x46.2.2.2.2.2.2.2.2.1.1 x46.2.2.2.2.2.2.2.2.1.2.1 x46.2.2.2.2.2.2.2.2.1.2.2, .slice x46.2.2.2.2.2.2.2.2.2.1 x46.2.2.2.2.2.2.2.2.2.2.1 x46.2.2.2.2.2.2.2.2.2.2.2]] [.agg [.int .u32, .int .u8, .int .u32, .int .u32, .int .u32, .slice, .int .i64]] (fun (r73 : (Int × Int × Int × Int × Int × (Option Addr × Nat × Nat) × Int)) h74 =>
  stLW a63 [.int .u32 r47.1, .int .u8 r47.2.1, .int .u32 r47.2.2.1, .int .u32 r47.2.2.2.1, .int .u32 r47.2.2.2.2.1, .slice r47.2.2.2.2.2.1.1 r47.2.2.2.2.2.1.2.1 r47.2.2.2.2.2.1.2.2, .int .i64 r47.2.2.2.2.2.2] (fun h75 =>
  stLW a71 [.int .u32 r73.1, .int .u8 r73.2.1, .int .u32 r73.2.2.1, .int .u32 r73.2.2.2.1, .int .u32 r73.2.2.2.2.1, .slice r73.2.2.2.2.2.1.1 r73.2.2.2.2.2.1.2.1 r73.2.2.2.2.2.1.2.2, .int .i64 r73.2.2.2.2.2.2] (fun h76 =>
  K42 ((some a63), (some a71)) h76) h75) h74) h72) h64)) h48) ∧
  (newW (.cells (zeroC Tryz.prog 50) 50) (fun a77 h78 =>
  (callT Tryz.prog 12 [.pointer r22.1, .agg #[.int .i64 x45.1, .int .i64 x45.2.1, .int .i64 x45.2.2], .agg #[.int .i64 x46.1, .int .i64 x46.2.1, .int .u32 x46.2.2.1, .int .u8 x46.2.2.2.1, .int .u32 x46.2.2.2.2.1, .int .u32 x46.2.2.2.2.2.1, .int .u32 x46.2.2.2.2.2.2.1, .slice x46.2.2.2.2.2.2.2.1.1 x46.2.2.2.2.2.2.2.1.2.1 x46.2.2.2.2.2.2.2.1.2.2, .slice x46.2.2.2.2.2.2.2.2.1.1 x46.2.2.2.2.2.2.2.2.1.2.1 x46.2.2.2.2.2.2.2.2.1.2.2, .slice x46.2.2.2.2.2.2.2.2.2.1 x46.2.2.2.2.2.2.2.2.2.2.1 x46.2.2.2.2.2.2.2.2.2.2.2]] [.agg [.int .u32, .int .u8, .int .u32, .int .u32, .int .u32, .slice, .int .i64]] (fun (r79 : (Int × Int × Int × Int × Int × (Option Addr × Nat × Nat) × Int)) h80 =>
  newW (.cells (zeroC Tryz.prog 50) 50) (fun a81 h82 =>
  stLW a81 [.int .u32 r47.1, .int .u8 r47.2.1, .int .u32 r47.2.2.1, .int .u32 r47.2.2.2.1, .int .u32 r47.2.2.2.2.1, .slice r47.2.2.2.2.2.1.1 r47.2.2.2.2.2.1.2.1 r47.2.2.2.2.2.1.2.2, .int .i64 r47.2.2.2.2.2.2] (fun h83 =>
  stLW a77 [.int .u32 r79.1, .int .u8 r79.2.1, .int .u32 r79.2.2.1, .int .u32 r79.2.2.2.1, .int .u32 r79.2.2.2.2.1, .slice r79.2.2.2.2.2.1.1 r79.2.2.2.2.2.1.2.1 r79.2.2.2.2.2.1.2.2, .int .i64 r79.2.2.2.2.2.2] (fun h84 =>
  K42 ((some a81), (some a77)) h84) h83) h82) h80) h78) ∧
  (newW (.cells (zeroC Tryz.prog 50) 50) (fun a85 h86 =>
  callT Tryz.prog 12 [.pointer r22.1, .agg #[.int .i64 x45.1, .int .i64 x45.2.1, .int .i64 x45.2.2], .agg #[.int .i64 x46.1, .int .i64 x46.2.1, .int .u32 x46.2.2.1, .int .u8 x46.2.2.2.1, .int .u32 x46.2.2.2.2.1, .int .u32 x46.2.2.2.2.2.1, .int .u32 x46.2.2.2.2.2.2.1, .slice x46.2.2.2.2.2.2.2.1.1 x46.2.2.2.2.2.2.2.1.2.1 x46.2.2.2.2.2.2.2.1.2.2, .slice x46.2.2.2.2.2.2.2.2.1.1 x46.2.2.2.2.2.2.2.2.1.2.1 x46.2.2.2.2.2.2.2.2.1.2.2, .slice x46.2.2.2.2.2.2.2.2.2.1 x46.2.2.2.2.2.2.2.2.2.2.1 x46.2.2.2.2.2.2.2.2.2.2.2]] [.agg [.int .u32, .int .u8, .int .u32, .int .u32, .int .u32, .slice, .int .i64]] (fun (r87 : (Int × Int × Int × Int × Int × (Option Addr × Nat × Nat) × Int)) h88 =>
  stLW a85 [.int .u32 r47.1, .int .u8 r47.2.1, .int .u32 r47.2.2.1, .int .u32 r47.2.2.2.1, .int .u32 r47.2.2.2.2.1, .slice r47.2.2.2.2.2.1.1 r47.2.2.2.2.2.1.2.1 r47.2.2.2.2.2.1.2.2, .int .i64 r47.2.2.2.2.2.2] (fun h89 =>
  stLW a77 [.int .u32 r87.1, .int .u8 r87.2.1, .int .u32 r87.2.2.1, .int .u32 r87.2.2.2.1, .int .u32 r87.2.2.2.2.1, .slice r87.2.2.2.2.2.1.1 r87.2.2.2.2.2.1.2.1 r87.2.2.2.2.2.1.2.2, .int .i64 r87.2.2.2.2.2.2] (fun h90 =>
  K42 ((some a85), (some a77)) h90) h89) h88) h86) h78)) h48))))))))))))))) h139) ∧
  (newW (.cells (zeroC Tryz.prog 50) 50) (fun a91 h92 =>
  (callT Tryz.prog 11 [.pointer r18.1, .agg #[.int .i64 x43.1, .int .i64 x43.2.1, .int .i64 x43.2.2], .agg #[.int .i64 x44.1, .int .i64 x44.2.1, .int .u32 x44.2.2.1, .int .u8 x44.2.2.2.1, .int .u32 x44.2.2.2.2.1, .int .u32 x44.2.2.2.2.2.1, .int .u32 x44.2.2.2.2.2.2.1, .slice x44.2.2.2.2.2.2.2.1.1 x44.2.2.2.2.2.2.2.1.2.1 x44.2.2.2.2.2.2.2.1.2.2, .slice x44.2.2.2.2.2.2.2.2.1.1 x44.2.2.2.2.2.2.2.2.1.2.1 x44.2.2.2.2.2.2.2.2.1.2.2, .slice x44.2.2.2.2.2.2.2.2.2.1 x44.2.2.2.2.2.2.2.2.2.2.1 x44.2.2.2.2.2.2.2.2.2.2.2]] [.agg [.int .u32, .int .u8, .int .u32, .int .u32, .int .u32, .slice, .int .i64]] (fun (r93 : (Int × Int × Int × Int × Int × (Option Addr × Nat × Nat) × Int)) h94 =>
  (cellH h94 (Addr.add a39 0) = some (.int .i64 x46.1) ∧ (cellH h94 (Addr.add a39 1) = some (.int .i64 x46.2.1) ∧ (cellH h94 (Addr.add a39 2) = some (.int .u32 x46.2.2.1) ∧ (cellH h94 (Addr.add a39 3) = some (.int .u8 x46.2.2.2.1) ∧ (cellH h94 (Addr.add a39 4) = some (.int .u32 x46.2.2.2.2.1) ∧ (cellH h94 (Addr.add a39 5) = some (.int .u32 x46.2.2.2.2.2.1) ∧ (cellH h94 (Addr.add a39 6) = some (.int .u32 x46.2.2.2.2.2.2.1) ∧ (cellH h94 (Addr.add a39 7) = some (.slice x46.2.2.2.2.2.2.2.1.1 x46.2.2.2.2.2.2.2.1.2.1 x46.2.2.2.2.2.2.2.1.2.2) ∧ (cellH h94 (Addr.add a39 8) = some (.slice x46.2.2.2.2.2.2.2.2.1.1 x46.2.2.2.2.2.2.2.2.1.2.1 x46.2.2.2.2.2.2.2.2.1.2.2) ∧ (cellH h94 (Addr.add a39 9) = some (.slice x46.2.2.2.2.2.2.2.2.2.1 x46.2.2.2.2.2.2.2.2.2.2.1 x46.2.2.2.2.2.2.2.2.2.2.2) ∧ (cellH h94 (Addr.add a1 0) = some (.int .i64 x45.1) ∧ (cellH h94 (Addr.add a1 1) = some (.int .i64 x45.2.1) ∧ (cellH h94 (Addr.add a1 2) = some (.int .i64 x45.2.2) ∧ (callT Tryz.prog 12 [.pointer r22.1, .agg #[.int .i64 x45.1, .int .i64 x45.2.1, .int .i64 x45.2.2], .agg #[.int .i64 x46.1, .int .i64 x46.2.1, .int .u32 x46.2.2.1, .int .u8 x46.2.2.2.1, .int .u32 x46.2.2.2.2.1, .int .u32 x46.2.2.2.2.2.1, .int .u32 x46.2.2.2.2.2.2.1, .slice x46.2.2.2.2.2.2.2.1.1 x46.2.2.2.2.2.2.2.1.2.1 x46.2.2.2.2.2.2.2.1.2.2, .slice x46.2.2.2.2.2.2.2.2.1.1 x46.2.2.2.2.2.2.2.2.1.2.1 x46.2.2.2.2.2.2.2.2.1.2.2, .slice x46.2.2.2.2.2.2.2.2.2.1 x46.2.2.2.2.2.2.2.2.2.2.1 x46.2.2.2.2.2.2.2.2.2.2.2]] [.agg [.int .u32, .int .u8, .int .u32, .int .u32, .int .u32, .slice, .int .i64]] (fun (r95 : (Int × Int × Int × Int × Int × (Option Addr × Nat × Nat) × Int)) h96 =>
  newW (.cells (zeroC Tryz.prog 50) 50) (fun a97 h98 =>
  stLW a91 [.int .u32 r93.1, .int .u8 r93.2.1, .int .u32 r93.2.2.1, .int .u32 r93.2.2.2.1, .int .u32 r93.2.2.2.2.1, .slice r93.2.2.2.2.2.1.1 r93.2.2.2.2.2.1.2.1 r93.2.2.2.2.2.1.2.2, .int .i64 r93.2.2.2.2.2.2] (fun h99 =>
  stLW a97 [.int .u32 r95.1, .int .u8 r95.2.1, .int .u32 r95.2.2.1, .int .u32 r95.2.2.2.1, .int .u32 r95.2.2.2.2.1, .slice r95.2.2.2.2.2.1.1 r95.2.2.2.2.2.1.2.1 r95.2.2.2.2.2.1.2.2, .int .i64 r95.2.2.2.2.2.2] (fun h100 =>
  K42 ((some a91), (some a97)) h100) h99) h98) h96) h94) ∧
  (newW (.cells (zeroC Tryz.prog 50) 50) (fun a101 h102 =>
  callT Tryz.prog 12 [.pointer r22.1, .agg #[.int .i64 x45.1, .int .i64 x45.2.1, .int .i64 x45.2.2], .agg #[.int .i64 x46.1, .int .i64 x46.2.1, .int .u32 x46.2.2.1, .int .u8 x46.2.2.2.1, .int .u32 x46.2.2.2.2.1, .int .u32 x46.2.2.2.2.2.1, .int .u32 x46.2.2.2.2.2.2.1, .slice x46.2.2.2.2.2.2.2.1.1 x46.2.2.2.2.2.2.2.1.2.1 x46.2.2.2.2.2.2.2.1.2.2, .slice x46.2.2.2.2.2.2.2.2.1.1 x46.2.2.2.2.2.2.2.2.1.2.1 x46.2.2.2.2.2.2.2.2.1.2.2, .slice x46.2.2.2.2.2.2.2.2.2.1 x46.2.2.2.2.2.2.2.2.2.2.1 x46.2.2.2.2.2.2.2.2.2.2.2]] [.agg [.int .u32, .int .u8, .int .u32, .int .u32, .int .u32, .slice, .int .i64]] (fun (r103 : (Int × Int × Int × Int × Int × (Option Addr × Nat × Nat) × Int)) h104 =>
  stLW a91 [.int .u32 r93.1, .int .u8 r93.2.1, .int .u32 r93.2.2.1, .int .u32 r93.2.2.2.1, .int .u32 r93.2.2.2.2.1, .slice r93.2.2.2.2.2.1.1 r93.2.2.2.2.2.1.2.1 r93.2.2.2.2.2.1.2.2, .int .i64 r93.2.2.2.2.2.2] (fun h105 =>
  stLW a101 [.int .u32 r103.1, .int .u8 r103.2.1, .int .u32 r103.2.2.1, .int .u32 r103.2.2.2.1, .int .u32 r103.2.2.2.2.1, .slice r103.2.2.2.2.2.1.1 r103.2.2.2.2.2.1.2.1 r103.2.2.2.2.2.1.2.2, .int .i64 r103.2.2.2.2.2.2] (fun h106 =>
  K42 ((some a91), (some a101)) h106) h105) h104) h102) h94))))))))))))))) h92) ∧
  (newW (.cells (zeroC Tryz.prog 50) 50) (fun a107 h108 =>
  callT Tryz.prog 11 [.pointer r18.1, .agg #[.int .i64 x43.1, .int .i64 x43.2.1, .int .i64 x43.2.2], .agg #[.int .i64 x44.1, .int .i64 x44.2.1, .int .u32 x44.2.2.1, .int .u8 x44.2.2.2.1, .int .u32 x44.2.2.2.2.1, .int .u32 x44.2.2.2.2.2.1, .int .u32 x44.2.2.2.2.2.2.1, .slice x44.2.2.2.2.2.2.2.1.1 x44.2.2.2.2.2.2.2.1.2.1 x44.2.2.2.2.2.2.2.1.2.2, .slice x44.2.2.2.2.2.2.2.2.1.1 x44.2.2.2.2.2.2.2.2.1.2.1 x44.2.2.2.2.2.2.2.2.1.2.2, .slice x44.2.2.2.2.2.2.2.2.2.1 x44.2.2.2.2.2.2.2.2.2.2.1 x44.2.2.2.2.2.2.2.2.2.2.2]] [.agg [.int .u32, .int .u8, .int .u32, .int .u32, .int .u32, .slice, .int .i64]] (fun (r109 : (Int × Int × Int × Int × Int × (Option Addr × Nat × Nat) × Int)) h110 =>
  (cellH h110 (Addr.add a39 0) = some (.int .i64 x46.1) ∧ (cellH h110 (Addr.add a39 1) = some (.int .i64 x46.2.1) ∧ (cellH h110 (Addr.add a39 2) = some (.int .u32 x46.2.2.1) ∧ (cellH h110 (Addr.add a39 3) = some (.int .u8 x46.2.2.2.1) ∧ (cellH h110 (Addr.add a39 4) = some (.int .u32 x46.2.2.2.2.1) ∧ (cellH h110 (Addr.add a39 5) = some (.int .u32 x46.2.2.2.2.2.1) ∧ (cellH h110 (Addr.add a39 6) = some (.int .u32 x46.2.2.2.2.2.2.1) ∧ (cellH h110 (Addr.add a39 7) = some (.slice x46.2.2.2.2.2.2.2.1.1 x46.2.2.2.2.2.2.2.1.2.1 x46.2.2.2.2.2.2.2.1.2.2) ∧ (cellH h110 (Addr.add a39 8) = some (.slice x46.2.2.2.2.2.2.2.2.1.1 x46.2.2.2.2.2.2.2.2.1.2.1 x46.2.2.2.2.2.2.2.2.1.2.2) ∧ (cellH h110 (Addr.add a39 9) = some (.slice x46.2.2.2.2.2.2.2.2.2.1 x46.2.2.2.2.2.2.2.2.2.2.1 x46.2.2.2.2.2.2.2.2.2.2.2) ∧ (cellH h110 (Addr.add a1 0) = some (.int .i64 x45.1) ∧ (cellH h110 (Addr.add a1 1) = some (.int .i64 x45.2.1) ∧ (cellH h110 (Addr.add a1 2) = some (.int .i64 x45.2.2) ∧ callT Tryz.prog 12 [.pointer r22.1, .agg #[.int .i64 x45.1, .int .i64 x45.2.1, .int .i64 x45.2.2], .agg #[.int .i64 x46.1, .int .i64 x46.2.1, .int .u32 x46.2.2.1, .int .u8 x46.2.2.2.1, .int .u32 x46.2.2.2.2.1, .int .u32 x46.2.2.2.2.2.1, .int .u32 x46.2.2.2.2.2.2.1, .slice x46.2.2.2.2.2.2.2.1.1 x46.2.2.2.2.2.2.2.1.2.1 x46.2.2.2.2.2.2.2.1.2.2, .slice x46.2.2.2.2.2.2.2.2.1.1 x46.2.2.2.2.2.2.2.2.1.2.1 x46.2.2.2.2.2.2.2.2.1.2.2, .slice x46.2.2.2.2.2.2.2.2.2.1 x46.2.2.2.2.2.2.2.2.2.2.1 x46.2.2.2.2.2.2.2.2.2.2.2]] [.agg [.int .u32, .int .u8, .int .u32, .int .u32, .int .u32, .slice, .int .i64]] (fun (r111 : (Int × Int × Int × Int × Int × (Option Addr × Nat × Nat) × Int)) h112 =>
  stLW a91 [.int .u32 r109.1, .int .u8 r109.2.1, .int .u32 r109.2.2.1, .int .u32 r109.2.2.2.1, .int .u32 r109.2.2.2.2.1, .slice r109.2.2.2.2.2.1.1 r109.2.2.2.2.2.1.2.1 r109.2.2.2.2.2.1.2.2, .int .i64 r109.2.2.2.2.2.2] (fun h113 =>
  stLW a107 [.int .u32 r111.1, .int .u8 r111.2.1, .int .u32 r111.2.2.1, .int .u32 r111.2.2.2.1, .int .u32 r111.2.2.2.2.1, .slice r111.2.2.2.2.2.1.1 r111.2.2.2.2.2.1.2.1 r111.2.2.2.2.2.1.2.2, .int .i64 r111.2.2.2.2.2.2] (fun h114 =>
  K42 ((some a91), (some a107)) h114) h113) h112) h110)))))))))))))) h108) h92)) h139) ∧
  (newW (.cells (zeroC Tryz.prog 50) 50) (fun a115 h116 =>
  (callT Tryz.prog 11 [.pointer r18.1, .agg #[.int .i64 x43.1, .int .i64 x43.2.1, .int .i64 x43.2.2], .agg #[.int .i64 x44.1, .int .i64 x44.2.1, .int .u32 x44.2.2.1, .int .u8 x44.2.2.2.1, .int .u32 x44.2.2.2.2.1, .int .u32 x44.2.2.2.2.2.1, .int .u32 x44.2.2.2.2.2.2.1, .slice x44.2.2.2.2.2.2.2.1.1 x44.2.2.2.2.2.2.2.1.2.1 x44.2.2.2.2.2.2.2.1.2.2, .slice x44.2.2.2.2.2.2.2.2.1.1 x44.2.2.2.2.2.2.2.2.1.2.1 x44.2.2.2.2.2.2.2.2.1.2.2, .slice x44.2.2.2.2.2.2.2.2.2.1 x44.2.2.2.2.2.2.2.2.2.2.1 x44.2.2.2.2.2.2.2.2.2.2.2]] [.agg [.int .u32, .int .u8, .int .u32, .int .u32, .int .u32, .slice, .int .i64]] (fun (r117 : (Int × Int × Int × Int × Int × (Option Addr × Nat × Nat) × Int)) h118 =>
  (cellH h118 (Addr.add a39 0) = some (.int .i64 x46.1) ∧ (cellH h118 (Addr.add a39 1) = some (.int .i64 x46.2.1) ∧ (cellH h118 (Addr.add a39 2) = some (.int .u32 x46.2.2.1) ∧ (cellH h118 (Addr.add a39 3) = some (.int .u8 x46.2.2.2.1) ∧ (cellH h118 (Addr.add a39 4) = some (.int .u32 x46.2.2.2.2.1) ∧ (cellH h118 (Addr.add a39 5) = some (.int .u32 x46.2.2.2.2.2.1) ∧ (cellH h118 (Addr.add a39 6) = some (.int .u32 x46.2.2.2.2.2.2.1) ∧ (cellH h118 (Addr.add a39 7) = some (.slice x46.2.2.2.2.2.2.2.1.1 x46.2.2.2.2.2.2.2.1.2.1 x46.2.2.2.2.2.2.2.1.2.2) ∧ (cellH h118 (Addr.add a39 8) = some (.slice x46.2.2.2.2.2.2.2.2.1.1 x46.2.2.2.2.2.2.2.2.1.2.1 x46.2.2.2.2.2.2.2.2.1.2.2) ∧ (cellH h118 (Addr.add a39 9) = some (.slice x46.2.2.2.2.2.2.2.2.2.1 x46.2.2.2.2.2.2.2.2.2.2.1 x46.2.2.2.2.2.2.2.2.2.2.2) ∧ (cellH h118 (Addr.add a1 0) = some (.int .i64 x45.1) ∧ (cellH h118 (Addr.add a1 1) = some (.int .i64 x45.2.1) ∧ (cellH h118 (Addr.add a1 2) = some (.int .i64 x45.2.2) ∧ (callT Tryz.prog 12 [.pointer r22.1, .agg #[.int .i64 x45.1, .int .i64 x45.2.1, .int .i64 x45.2.2], .agg #[.int .i64 x46.1, .int .i64 x46.2.1, .int .u32 x46.2.2.1, .int .u8 x46.2.2.2.1, .int .u32 x46.2.2.2.2.1, .int .u32 x46.2.2.2.2.2.1, .int .u32 x46.2.2.2.2.2.2.1, .slice x46.2.2.2.2.2.2.2.1.1 x46.2.2.2.2.2.2.2.1.2.1 x46.2.2.2.2.2.2.2.1.2.2, .slice x46.2.2.2.2.2.2.2.2.1.1 x46.2.2.2.2.2.2.2.2.1.2.1 x46.2.2.2.2.2.2.2.2.1.2.2, .slice x46.2.2.2.2.2.2.2.2.2.1 x46.2.2.2.2.2.2.2.2.2.2.1 x46.2.2.2.2.2.2.2.2.2.2.2]] [.agg [.int .u32, .int .u8, .int .u32, .int .u32, .int .u32, .slice, .int .i64]] (fun (r119 : (Int × Int × Int × Int × Int × (Option Addr × Nat × Nat) × Int)) h120 =>
  newW (.cells (zeroC Tryz.prog 50) 50) (fun a121 h122 =>
  stLW a121 [.int .u32 r117.1, .int .u8 r117.2.1, .int .u32 r117.2.2.1, .int .u32 r117.2.2.2.1, .int .u32 r117.2.2.2.2.1, .slice r117.2.2.2.2.2.1.1 r117.2.2.2.2.2.1.2.1 r117.2.2.2.2.2.1.2.2, .int .i64 r117.2.2.2.2.2.2] (fun h123 =>
  stLW a115 [.int .u32 r119.1, .int .u8 r119.2.1, .int .u32 r119.2.2.1, .int .u32 r119.2.2.2.1, .int .u32 r119.2.2.2.2.1, .slice r119.2.2.2.2.2.1.1 r119.2.2.2.2.2.1.2.1 r119.2.2.2.2.2.1.2.2, .int .i64 r119.2.2.2.2.2.2] (fun h124 =>
  K42 ((some a121), (some a115)) h124) h123) h122) h120) h118) ∧
  (newW (.cells (zeroC Tryz.prog 50) 50) (fun a125 h126 =>
  callT Tryz.prog 12 [.pointer r22.1, .agg #[.int .i64 x45.1, .int .i64 x45.2.1, .int .i64 x45.2.2], .agg #[.int .i64 x46.1, .int .i64 x46.2.1, .int .u32 x46.2.2.1, .int .u8 x46.2.2.2.1, .int .u32 x46.2.2.2.2.1, .int .u32 x46.2.2.2.2.2.1, .int .u32 x46.2.2.2.2.2.2.1, .slice x46.2.2.2.2.2.2.2.1.1 x46.2.2.2.2.2.2.2.1.2.1 x46.2.2.2.2.2.2.2.1.2.2, .slice x46.2.2.2.2.2.2.2.2.1.1 x46.2.2.2.2.2.2.2.2.1.2.1 x46.2.2.2.2.2.2.2.2.1.2.2, .slice x46.2.2.2.2.2.2.2.2.2.1 x46.2.2.2.2.2.2.2.2.2.2.1 x46.2.2.2.2.2.2.2.2.2.2.2]] [.agg [.int .u32, .int .u8, .int .u32, .int .u32, .int .u32, .slice, .int .i64]] (fun (r127 : (Int × Int × Int × Int × Int × (Option Addr × Nat × Nat) × Int)) h128 =>
  stLW a125 [.int .u32 r117.1, .int .u8 r117.2.1, .int .u32 r117.2.2.1, .int .u32 r117.2.2.2.1, .int .u32 r117.2.2.2.2.1, .slice r117.2.2.2.2.2.1.1 r117.2.2.2.2.2.1.2.1 r117.2.2.2.2.2.1.2.2, .int .i64 r117.2.2.2.2.2.2] (fun h129 =>
  stLW a115 [.int .u32 r127.1, .int .u8 r127.2.1, .int .u32 r127.2.2.1, .int .u32 r127.2.2.2.1, .int .u32 r127.2.2.2.2.1, .slice r127.2.2.2.2.2.1.1 r127.2.2.2.2.2.1.2.1 r127.2.2.2.2.2.1.2.2, .int .i64 r127.2.2.2.2.2.2] (fun h130 =>
  K42 ((some a125), (some a115)) h130) h129) h128) h126) h118))))))))))))))) h116) ∧
  (newW (.cells (zeroC Tryz.prog 50) 50) (fun a131 h132 =>
  callT Tryz.prog 11 [.pointer r18.1, .agg #[.int .i64 x43.1, .int .i64 x43.2.1, .int .i64 x43.2.2], .agg #[.int .i64 x44.1, .int .i64 x44.2.1, .int .u32 x44.2.2.1, .int .u8 x44.2.2.2.1, .int .u32 x44.2.2.2.2.1, .int .u32 x44.2.2.2.2.2.1, .int .u32 x44.2.2.2.2.2.2.1, .slice x44.2.2.2.2.2.2.2.1.1 x44.2.2.2.2.2.2.2.1.2.1 x44.2.2.2.2.2.2.2.1.2.2, .slice x44.2.2.2.2.2.2.2.2.1.1 x44.2.2.2.2.2.2.2.2.1.2.1 x44.2.2.2.2.2.2.2.2.1.2.2, .slice x44.2.2.2.2.2.2.2.2.2.1 x44.2.2.2.2.2.2.2.2.2.2.1 x44.2.2.2.2.2.2.2.2.2.2.2]] [.agg [.int .u32, .int .u8, .int .u32, .int .u32, .int .u32, .slice, .int .i64]] (fun (r133 : (Int × Int × Int × Int × Int × (Option Addr × Nat × Nat) × Int)) h134 =>
  (cellH h134 (Addr.add a39 0) = some (.int .i64 x46.1) ∧ (cellH h134 (Addr.add a39 1) = some (.int .i64 x46.2.1) ∧ (cellH h134 (Addr.add a39 2) = some (.int .u32 x46.2.2.1) ∧ (cellH h134 (Addr.add a39 3) = some (.int .u8 x46.2.2.2.1) ∧ (cellH h134 (Addr.add a39 4) = some (.int .u32 x46.2.2.2.2.1) ∧ (cellH h134 (Addr.add a39 5) = some (.int .u32 x46.2.2.2.2.2.1) ∧ (cellH h134 (Addr.add a39 6) = some (.int .u32 x46.2.2.2.2.2.2.1) ∧ (cellH h134 (Addr.add a39 7) = some (.slice x46.2.2.2.2.2.2.2.1.1 x46.2.2.2.2.2.2.2.1.2.1 x46.2.2.2.2.2.2.2.1.2.2) ∧ (cellH h134 (Addr.add a39 8) = some (.slice x46.2.2.2.2.2.2.2.2.1.1 x46.2.2.2.2.2.2.2.2.1.2.1 x46.2.2.2.2.2.2.2.2.1.2.2) ∧ (cellH h134 (Addr.add a39 9) = some (.slice x46.2.2.2.2.2.2.2.2.2.1 x46.2.2.2.2.2.2.2.2.2.2.1 x46.2.2.2.2.2.2.2.2.2.2.2) ∧ (cellH h134 (Addr.add a1 0) = some (.int .i64 x45.1) ∧ (cellH h134 (Addr.add a1 1) = some (.int .i64 x45.2.1) ∧ (cellH h134 (Addr.add a1 2) = some (.int .i64 x45.2.2) ∧ callT Tryz.prog 12 [.pointer r22.1, .agg #[.int .i64 x45.1, .int .i64 x45.2.1, .int .i64 x45.2.2], .agg #[.int .i64 x46.1, .int .i64 x46.2.1, .int .u32 x46.2.2.1, .int .u8 x46.2.2.2.1, .int .u32 x46.2.2.2.2.1, .int .u32 x46.2.2.2.2.2.1, .int .u32 x46.2.2.2.2.2.2.1, .slice x46.2.2.2.2.2.2.2.1.1 x46.2.2.2.2.2.2.2.1.2.1 x46.2.2.2.2.2.2.2.1.2.2, .slice x46.2.2.2.2.2.2.2.2.1.1 x46.2.2.2.2.2.2.2.2.1.2.1 x46.2.2.2.2.2.2.2.2.1.2.2, .slice x46.2.2.2.2.2.2.2.2.2.1 x46.2.2.2.2.2.2.2.2.2.2.1 x46.2.2.2.2.2.2.2.2.2.2.2]] [.agg [.int .u32, .int .u8, .int .u32, .int .u32, .int .u32, .slice, .int .i64]] (fun (r135 : (Int × Int × Int × Int × Int × (Option Addr × Nat × Nat) × Int)) h136 =>
  stLW a131 [.int .u32 r133.1, .int .u8 r133.2.1, .int .u32 r133.2.2.1, .int .u32 r133.2.2.2.1, .int .u32 r133.2.2.2.2.1, .slice r133.2.2.2.2.2.1.1 r133.2.2.2.2.2.1.2.1 r133.2.2.2.2.2.1.2.2, .int .i64 r133.2.2.2.2.2.2] (fun h137 =>
  stLW a115 [.int .u32 r135.1, .int .u8 r135.2.1, .int .u32 r135.2.2.1, .int .u32 r135.2.2.2.1, .int .u32 r135.2.2.2.2.1, .slice r135.2.2.2.2.2.1.1 r135.2.2.2.2.2.1.2.1 r135.2.2.2.2.2.1.2.2, .int .i64 r135.2.2.2.2.2.2] (fun h138 =>
  K42 ((some a131), (some a115)) h138) h137) h136) h134)))))))))))))) h132) h116)) h139)) h139) h139) h139) h139) (fun (s140 : (Option Addr) × (Option Addr)) _ h141 =>
  ptrW s140.1 (fun a142 =>
  ldW (.int .u32) (Addr.add a142 0) (fun (x143 : Int) =>
  ptrW s140.2 (fun a144 =>
  ldW (.int .u32) (Addr.add a144 0) (fun (x145 : Int) =>
  br (x143 != x145)
  (K (.bool false) h141)
  (ptrW s140.1 (fun a146 =>
  ldAggW [.int .u8, .int .u32, .int .u32, .int .u32] (Addr.add a146 1) (fun (x147 : Int × Int × Int × Int) =>
  ptrW s140.2 (fun a148 =>
  ldAggW [.int .u8, .int .u32, .int .u32, .int .u32] (Addr.add a148 1) (fun (x149 : Int × Int × Int × Int) =>
  eqGen Tryz.prog 48 (.agg #[.int .u8 x147.1, .int .u32 x147.2.1, .int .u32 x147.2.2.1, .int .u32 x147.2.2.2]) (.agg #[.int .u8 x149.1, .int .u32 x149.2.1, .int .u32 x149.2.2.1, .int .u32 x149.2.2.2]) (fun b150 =>
  br (!b150)
  (K (.bool false) h141)
  (ptrW s140.1 (fun a151 =>
  ldW (.int .i64) (Addr.add a151 6) (fun (x152 : Int) =>
  ptrW s140.2 (fun a153 =>
  ldW (.int .i64) (Addr.add a153 6) (fun (x154 : Int) =>
  br (x152 != x154)
  (K (.bool false) h141)
  (ptrW s140.1 (fun a155 =>
  ldW .slice (Addr.add a155 5) (fun (x156 : Option Addr × Nat × Nat) =>
  ptrW s140.2 (fun a157 =>
  ldW .slice (Addr.add a157 5) (fun (x158 : Option Addr × Nat × Nat) =>
  callT Tryz.prog 13 [.slice x156.1 x156.2.1 x156.2.2, .slice x158.1 x158.2.1 x158.2.2] [.sc .bool] (fun (r159 : Bool) h160 =>
  br (!r159)
  (K (.bool false) h160)
  (K34 (IntKind.wrap .i64 (s35 + (1 : Int))) h160)) h141) h141)) h141))) h141)) h141)))) h141)) h141))) h141)) h141)) h41) h40) h36) h36)))
  (ldAggW [.int .i64, .int .i64, .int .i64] a1 (fun (x161 : Int × Int × Int) =>
  ldAggW [.int .i64, .int .i64, .int .i64] a1 (fun (x162 : Int × Int × Int) =>
  callT Tryz.prog 16 [.pointer r18.1, .agg #[.int .i64 x161.1, .int .i64 x161.2.1, .int .i64 x161.2.2]] [.sc .slice] (fun (r163 : (Option Addr × Nat × Nat)) h164 =>
  (cellH h164 (Addr.add a1 0) = some (.int .i64 x162.1) ∧ (cellH h164 (Addr.add a1 1) = some (.int .i64 x162.2.1) ∧ (cellH h164 (Addr.add a1 2) = some (.int .i64 x162.2.2) ∧ callT Tryz.prog 15 [.slice r163.1 r163.2.1 r163.2.2] [.sc .slice] (fun (r165 : (Option Addr × Nat × Nat)) h166 =>
  (cellH h166 (Addr.add a1 0) = some (.int .i64 x162.1) ∧ (cellH h166 (Addr.add a1 1) = some (.int .i64 x162.2.1) ∧ (cellH h166 (Addr.add a1 2) = some (.int .i64 x162.2.2) ∧ callT Tryz.prog 17 [.pointer r22.1, .agg #[.int .i64 x162.1, .int .i64 x162.2.1, .int .i64 x162.2.2]] [.sc .slice] (fun (r167 : (Option Addr × Nat × Nat)) h168 =>
  callT Tryz.prog 14 [.slice r165.1 r165.2.1 r165.2.2, .slice r167.1 r167.2.1 r167.2.2] [.sc .bool] (fun (r169 : Bool) h170 =>
  br r169
  (ptrW r22.1 (fun a171 =>
  ldW (.int .i64) (Addr.add a171 3) (fun (x172 : Int) =>
  callT Tryz.prog 18 [.pointer r18.1] [.sc (.int .i64)] (fun (r173 : Int) h174 =>
  (cellH h174 (Addr.add a171 3) = some (.int .i64 x172) ∧ K (.bool (r173 == x172)) h174)) h170) h170))
  (K (.bool false) h170)) h168) h166)))) h164)))) h36) h36) h36)) (0 : Int) h33) h23) h19) h19) h19) h15) h15) h15) h6)) h4) h2) h0)
set_option maxRecDepth 100000 in
theorem F3_eq (g_0_0 : Int) (g_0_1 : Int) (g_0_2 : Int) (other_1_0 : Int) (other_1_1 : Int) (other_1_2 : Int) (l_2 : Option Addr) (l_2l l_2c : Nat) (K : Value → Heap → Prop) (h0 : Heap) : funWE Tryz.prog 3 (.seq (.leaf) (.seq (.seq (.leaf) (.cond (.seq (.leaf) (.leaf)) (.leaf))) (.cut [] (.seq (.leaf) (.cond (.seq (.leaf) (.leaf)) (.leaf))) (.seq (.leaf) (.seq (.leaf) (.cut [] (.seq (.draw (odp [0, 1, 2, 3, 4, 5, 6, 7, 8, 10, 11, 9, 12, 13, 14] .nil) [200011]) (.cond (.seq (.leaf) (.leaf)) (.leaf))) (.seq (.seq (.leaf) (.block (.loop [(57, .sc (.int .i64))] (.seq (.leaf) (.seq (.cond (.leaf) (.leaf)) (.seq (.block (.seq (.leaf) (.cut [(13, .sc .ptr), (14, .sc .ptr)] (.draw (odp [0, 1, 2, 4, 5, 6] (.fork 3 (.fork 7 (.fork 8 (odp [9, 10, 11] .nil) (.one 9 (odp [8, 10, 11] .nil))) (.fork 8 (.fork 7 (odp [9, 10, 11] .nil) (.one 9 (odp [7, 10, 11] .nil))) (.one 9 (.fork 7 (odp [8, 10, 11] .nil) (.one 8 (odp [7, 10, 11] .nil)))))) (.fork 8 (.fork 3 (.fork 7 (odp [9, 10, 11] .nil) (.one 9 (odp [7, 10, 11] .nil))) (.one 9 (odp [3, 7, 10, 11] .nil))) (.one 9 (.fork 3 (.fork 7 (odp [8, 10, 11] .nil) (.one 8 (odp [7, 10, 11] .nil))) (.one 8 (odp [3, 7, 10, 11] .nil))))))) [200005, 200006]) (.seq (.leaf) (.cond (.seq (.leaf) (.leaf)) (.leaf)))))) (.leaf))))))) (.seq (.draw (odp [0, 1, 4, 5, 2, 3, 6, 7, 8, 9, 11, 12, 13, 14, 10, 15, 16, 17] .nil) [200005, 200014]) (.leaf))))))))) [.agg #[.int .i64 g_0_0, .int .i64 g_0_1, .int .i64 g_0_2], .agg #[.int .i64 other_1_0, .int .i64 other_1_1, .int .i64 other_1_2], .slice l_2 l_2l l_2c] K h0 = F3 g_0_0 g_0_1 g_0_2 other_1_0 other_1_1 other_1_2 l_2 l_2l l_2c K h0 := by kernel_rfl

end Go.Proofs.YtgohecjnjadnpaaGreatDoor.W
