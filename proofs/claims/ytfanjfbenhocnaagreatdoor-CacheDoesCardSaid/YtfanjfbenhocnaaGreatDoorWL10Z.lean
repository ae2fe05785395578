/-
  The formulas of CacheDoes. Each formula checked by the kernel. Printed by a program of this repo.
-/
import Derived.Test.YtfanjfbenhocnaaGreatDoorProg
import Derived.Test.YtfanjfbenhocnaaGreatDoorPl
namespace Go.Proofs.YtfanjfbenhocnaaGreatDoor.W
open Go.Pl

-- function 9
set_option maxRecDepth 100000 in
def F9 (c_0 : Addr) (x_1_0 : Int) (x_1_1 : Int) (x_1_2 : Int) (x_1_3 : Bool) (K : Value → Heap → Prop) (h0 : Heap) : Prop := (
  newW (.cells #[.int .i64 x_1_0, .int .i64 x_1_1, .int .u32 x_1_2, .bool x_1_3] 36) (fun a1 h2 =>
  newW (.cells (zeroC Tryz.prog 38) 38) (fun a3 h4 =>
  newW (.cells (zeroC Tryz.prog 38) 38) (fun a5 h6 =>
  ldW (.int .i64) (Addr.add a1 0) (fun (x7 : Int) =>
  br (x7 == (0 : Int))
  (ldW (.int .i64) (Addr.add a1 1) (fun (x8 : Int) =>
  callT Tryz.prog 31 [.pointer (some c_0), .int .i64 x8] [.sc (.int .u32), .sc .bool] (fun (r9 : Int × Bool) h10 =>
  stW (Addr.add a5 0) (.int .u32 r9.1) (fun h11 =>
  stW (Addr.add a5 1) (.bool r9.2) (fun h12 =>
  ldAggW [.int .u32, .bool, .int .i64] a5 (fun (x13 : Int × Bool × Int) =>
  stLW a3 [.int .u32 x13.1, .bool x13.2.1, .int .i64 x13.2.2] (fun h14 =>
  ldAggW [.int .u32, .bool, .int .i64] a3 (fun (x15 : Int × Bool × Int) =>
  K (.agg #[.int .u32 x15.1, .bool x15.2.1, .int .i64 x15.2.2]) h14) h14) h12) h12) h11) h10) h6) h6)
  (br (x7 == (1 : Int))
  (ldW (.int .i64) (Addr.add a1 1) (fun (x16 : Int) =>
  ldW (.int .u32) (Addr.add a1 2) (fun (x17 : Int) =>
  ldW .bool (Addr.add a1 3) (fun (x18 : Bool) =>
  callT Tryz.prog 32 [.pointer (some c_0), .int .i64 x16, .int .u32 x17, .bool x18] [.sc .bool] (fun (r19 : Bool) h20 =>
  stW (Addr.add a5 1) (.bool r19) (fun h21 =>
  ldAggW [.int .u32, .bool, .int .i64] a5 (fun (x22 : Int × Bool × Int) =>
  stLW a3 [.int .u32 x22.1, .bool x22.2.1, .int .i64 x22.2.2] (fun h23 =>
  ldAggW [.int .u32, .bool, .int .i64] a3 (fun (x24 : Int × Bool × Int) =>
  K (.agg #[.int .u32 x24.1, .bool x24.2.1, .int .i64 x24.2.2]) h23) h23) h21) h21) h20) h6) h6) h6) h6)
  (br (x7 == (2 : Int))
  (ldW (.int .i64) (Addr.add a1 1) (fun (x25 : Int) =>
  ldW (.int .u32) (Addr.add a1 2) (fun (x26 : Int) =>
  callT Tryz.prog 33 [.pointer (some c_0), .int .i64 x25, .int .u32 x26] [.sc .bool] (fun (r27 : Bool) h28 =>
  stW (Addr.add a5 1) (.bool r27) (fun h29 =>
  ldAggW [.int .u32, .bool, .int .i64] a5 (fun (x30 : Int × Bool × Int) =>
  stLW a3 [.int .u32 x30.1, .bool x30.2.1, .int .i64 x30.2.2] (fun h31 =>
  ldAggW [.int .u32, .bool, .int .i64] a3 (fun (x32 : Int × Bool × Int) =>
  K (.agg #[.int .u32 x32.1, .bool x32.2.1, .int .i64 x32.2.2]) h31) h31) h29) h29) h28) h6) h6) h6)
  (br (x7 == (3 : Int))
  (ldW (.int .i64) (Addr.add a1 1) (fun (x33 : Int) =>
  callT Tryz.prog 34 [.pointer (some c_0), .int .i64 x33] [.sc .bool] (fun (r34 : Bool) h35 =>
  stW (Addr.add a5 1) (.bool r34) (fun h36 =>
  ldAggW [.int .u32, .bool, .int .i64] a5 (fun (x37 : Int × Bool × Int) =>
  stLW a3 [.int .u32 x37.1, .bool x37.2.1, .int .i64 x37.2.2] (fun h38 =>
  ldAggW [.int .u32, .bool, .int .i64] a3 (fun (x39 : Int × Bool × Int) =>
  K (.agg #[.int .u32 x39.1, .bool x39.2.1, .int .i64 x39.2.2]) h38) h38) h36) h36) h35) h6) h6)
  (br (x7 == (4 : Int))
  (ldW (.int .i64) (Addr.add a1 1) (fun (x40 : Int) =>
  callT Tryz.prog 35 [.pointer (some c_0), .int .i64 x40] [.sc (.int .i64)] (fun (r41 : Int) h42 =>
  stW (Addr.add a5 2) (.int .i64 r41) (fun h43 =>
  ldAggW [.int .u32, .bool, .int .i64] a5 (fun (x44 : Int × Bool × Int) =>
  stLW a3 [.int .u32 x44.1, .bool x44.2.1, .int .i64 x44.2.2] (fun h45 =>
  ldAggW [.int .u32, .bool, .int .i64] a3 (fun (x46 : Int × Bool × Int) =>
  K (.agg #[.int .u32 x46.1, .bool x46.2.1, .int .i64 x46.2.2]) h45) h45) h43) h43) h42) h6) h6)
  (br (x7 == (5 : Int))
  (callT Tryz.prog 20 [.pointer (some c_0)] [.agg [.int .i64, .int .u32, .bool], .sc .bool] (fun (r47 : (Int × Int × Bool) × Bool) h48 =>
  newW (.cells (zeroC Tryz.prog 63) 63) (fun a49 h50 =>
  stLW a49 [.int .i64 r47.1.1, .int .u32 r47.1.2.1, .bool r47.1.2.2] (fun h51 =>
  br r47.2
  (ldW (.int .i64) (Addr.add a49 0) (fun (x52 : Int) =>
  callT Tryz.prog 34 [.pointer (some c_0), .int .i64 x52] [.sc .bool] (fun (r53 : Bool) h54 =>
  stW (Addr.add a5 1) (.bool r53) (fun h55 =>
  ldAggW [.int .u32, .bool, .int .i64] a5 (fun (x56 : Int × Bool × Int) =>
  stLW a3 [.int .u32 x56.1, .bool x56.2.1, .int .i64 x56.2.2] (fun h57 =>
  ldAggW [.int .u32, .bool, .int .i64] a3 (fun (x58 : Int × Bool × Int) =>
  K (.agg #[.int .u32 x58.1, .bool x58.2.1, .int .i64 x58.2.2]) h57) h57) h55) h55) h54) h51) h51)
  (ldAggW [.int .u32, .bool, .int .i64] a5 (fun (x59 : Int × Bool × Int) =>
  stLW a3 [.int .u32 x59.1, .bool x59.2.1, .int .i64 x59.2.2] (fun h60 =>
  ldAggW [.int .u32, .bool, .int .i64] a3 (fun (x61 : Int × Bool × Int) =>
  K (.agg #[.int .u32 x61.1, .bool x61.2.1, .int .i64 x61.2.2]) h60) h60) h51) h51)) h50) h48) h6)
  (ldW (.int .i64) (Addr.add a1 1) (fun (x62 : Int) =>
  callT Tryz.prog 36 [.pointer (some c_0), .int .i64 x62] [.sc (.int .u32), .sc .bool] (fun (r63 : Int × Bool) h64 =>
  stW (Addr.add a5 0) (.int .u32 r63.1) (fun h65 =>
  stW (Addr.add a5 1) (.bool r63.2) (fun h66 =>
  ldAggW [.int .u32, .bool, .int .i64] a5 (fun (x67 : Int × Bool × Int) =>
  stLW a3 [.int .u32 x67.1, .bool x67.2.1, .int .i64 x67.2.2] (fun h68 =>
  ldAggW [.int .u32, .bool, .int .i64] a3 (fun (x69 : Int × Bool × Int) =>
  K (.agg #[.int .u32 x69.1, .bool x69.2.1, .int .i64 x69.2.2]) h68) h68) h66) h66) h65) h64) h6) h6))))))) h6) h4) h2) h0)
set_option maxRecDepth 100000 in
theorem F9_eq (c_0 : Addr) (x_1_0 : Int) (x_1_1 : Int) (x_1_2 : Int) (x_1_3 : Bool) (K : Value → Heap → Prop) (h0 : Heap) : funWE Tryz.prog 9 (.seq (.leaf) (.seq (.leaf) (.seq (.seq (.leaf) (.block (.seq (.leaf) (.cond (.leaf) (.seq (.leaf) (.cond (.leaf) (.seq (.leaf) (.cond (.leaf) (.seq (.leaf) (.cond (.leaf) (.seq (.leaf) (.cond (.leaf) (.seq (.leaf) (.cond (.seq (.leaf) (.seq (.leaf) (.cond (.leaf) (.leaf)))) (.leaf))))))))))))))) (.seq (.leaf) (.leaf))))) [.pointer (some c_0), .agg #[.int .i64 x_1_0, .int .i64 x_1_1, .int .u32 x_1_2, .bool x_1_3]] K h0 = F9 c_0 x_1_0 x_1_1 x_1_2 x_1_3 K h0 := by kernel_rfl

-- function 3
set_option maxRecDepth 100000 in
def F3 (room_0 : Int) (l_1 : Option Addr) (l_1l _l_1c : Nat) (table_2 : Int) (K : Value → Heap → Prop) (h0 : Heap) : Prop := (
  callT Tryz.prog 4 [] [.sc .bool] (fun (r1 : Bool) h2 =>
  br (!r1)
  (K (.bool false) h2)
  (br (decide ((((l_1l : Nat) : Int)) > (200 : Int)))
  (K (.bool true) h2)
  (callT Tryz.prog 5 [.int .i64 room_0] [.sc .ptr, .sc .any] (fun (r3 : (Option Addr) × Value) h4 =>
  callT Tryz.prog 6 [.int .i64 room_0] [.sc .ptr, .sc (.int .i64)] (fun (r5 : (Option Addr) × Int) h6 =>
  cutT [] (fun (K7 : Unit → Heap → Prop) h10 =>
  callT Tryz.prog 7 [r3.2] [.sc (.int .i64)] (fun (r8 : Int) h9 =>
  br (r8 != r5.2)
  (K (.bool false) h9)
  (br (!((Option.isNone r3.1) == (Option.isNone r5.1)))
  (K (.bool false) h9)
  (K7 () h9))) h10) (fun (_s11 : Unit) _ h12 =>
  br (Option.isNone r3.1)
  (K (.bool true) h12)
  (loopT [.sc (.int .i64)] (fun (s14 : Int) _ (K13 : Int → Heap → Prop) h15 =>
  br (decide (s14 < (((l_1l : Nat) : Int))))
  (ptrW l_1 (fun a16 =>
  idxW s14 l_1l true (ldAggW [.int .i64, .int .i64, .int .u32, .bool] (Addr.add a16 (Int.toNat s14 * 4)) (fun (x17 : Int × Int × Int × Bool) =>
  newW (.cells (zeroC Tryz.prog 36) 36) (fun a18 h19 =>
  stLW a18 [.int .i64 x17.1, .int .i64 x17.2.1, .int .u32 x17.2.2.1, .bool x17.2.2.2] (fun h20 =>
  cutT [] (fun (K21 : Unit → Heap → Prop) h57 =>
  ldAggW [.int .i64, .int .i64, .int .u32, .bool] a18 (fun (x22 : Int × Int × Int × Bool) =>
  ldAggW [.int .i64, .int .i64, .int .u32, .bool] a18 (fun (x23 : Int × Int × Int × Bool) =>
  callT Tryz.prog 8 [.pointer r3.1, .agg #[.int .i64 x22.1, .int .i64 x22.2.1, .int .u32 x22.2.2.1, .bool x22.2.2.2]] [.agg [.int .u32, .bool, .int .i64]] (fun (r24 : (Int × Bool × Int)) h25 =>
  (cellH h25 (Addr.add a18 0) = some (.int .i64 x23.1) ∧ (cellH h25 (Addr.add a18 1) = some (.int .i64 x23.2.1) ∧ (cellH h25 (Addr.add a18 2) = some (.int .u32 x23.2.2.1) ∧ (cellH h25 (Addr.add a18 3) = some (.bool x23.2.2.2) ∧ callT Tryz.prog 9 [.pointer r5.1, .agg #[.int .i64 x23.1, .int .i64 x23.2.1, .int .u32 x23.2.2.1, .bool x23.2.2.2]] [.agg [.int .u32, .bool, .int .i64]] (fun (r26 : (Int × Bool × Int)) h27 =>
  eqGen Tryz.prog 38 (.agg #[.int .u32 r24.1, .bool r24.2.1, .int .i64 r24.2.2]) (.agg #[.int .u32 r26.1, .bool r26.2.1, .int .i64 r26.2.2]) (fun b28 =>
  br (!b28)
  (K (.bool false) h27)
  (ptrW r3.1 (fun a29 =>
  ldW .ptr (Addr.add a29 1) (fun (x30 : Option Addr) =>
  ptrW r5.1 (fun a31 =>
  ldW .slice (Addr.add a31 0) (fun (x32 : Option Addr × Nat × Nat) =>
  callT Tryz.prog 10 [.pointer x30] [.sc (.int .i64)] (fun (r33 : Int) h34 =>
  (cellH h34 (Addr.add a31 0) = some (.slice x32.1 x32.2.1 x32.2.2) ∧ br (r33 != (((x32.2.1 : Nat) : Int)))
  (K (.bool false) h34)
  (ptrW r5.1 (fun a35 =>
  ldW .slice (Addr.add a35 0) (fun (x36 : Option Addr × Nat × Nat) =>
  callT Tryz.prog 13 [.pointer r3.1] [.sc .slice] (fun (r37 : (Option Addr × Nat × Nat)) h38 =>
  (cellH h38 (Addr.add a35 0) = some (.slice x36.1 x36.2.1 x36.2.2) ∧ (cellH h38 (Addr.add a31 0) = some (.slice x32.1 x32.2.1 x32.2.2) ∧ callT Tryz.prog 12 [.slice r37.1 r37.2.1 r37.2.2] [.sc .slice] (fun (r39 : (Option Addr × Nat × Nat)) h40 =>
  (cellH h40 (Addr.add a35 0) = some (.slice x36.1 x36.2.1 x36.2.2) ∧ (cellH h40 (Addr.add a31 0) = some (.slice x32.1 x32.2.1 x32.2.2) ∧ callT Tryz.prog 11 [.slice r39.1 r39.2.1 r39.2.2, .slice x36.1 x36.2.1 x36.2.2] [.sc .bool] (fun (r41 : Bool) h42 =>
  (cellH h42 (Addr.add a31 0) = some (.slice x32.1 x32.2.1 x32.2.2) ∧ br (!r41)
  (K (.bool false) h42)
  (callT Tryz.prog 14 [.pointer r3.1, .int .i64 table_2] [.sc .slice] (fun (r43 : (Option Addr × Nat × Nat)) h44 =>
  (cellH h44 (Addr.add a31 0) = some (.slice x32.1 x32.2.1 x32.2.2) ∧ callT Tryz.prog 12 [.slice r43.1 r43.2.1 r43.2.2] [.sc .slice] (fun (r45 : (Option Addr × Nat × Nat)) h46 =>
  (cellH h46 (Addr.add a31 0) = some (.slice x32.1 x32.2.1 x32.2.2) ∧ callT Tryz.prog 15 [.pointer r5.1, .int .i64 table_2] [.sc .slice] (fun (r47 : (Option Addr × Nat × Nat)) h48 =>
  (cellH h48 (Addr.add a31 0) = some (.slice x32.1 x32.2.1 x32.2.2) ∧ callT Tryz.prog 11 [.slice r45.1 r45.2.1 r45.2.2, .slice r47.1 r47.2.1 r47.2.2] [.sc .bool] (fun (r49 : Bool) h50 =>
  (cellH h50 (Addr.add a31 0) = some (.slice x32.1 x32.2.1 x32.2.2) ∧ br (!r49)
  (K (.bool false) h50)
  (callT Tryz.prog 17 [.pointer r3.1] [.sc .slice] (fun (r51 : (Option Addr × Nat × Nat)) h52 =>
  (cellH h52 (Addr.add a31 0) = some (.slice x32.1 x32.2.1 x32.2.2) ∧ callT Tryz.prog 18 [.pointer r5.1] [.sc .slice] (fun (r53 : (Option Addr × Nat × Nat)) h54 =>
  (cellH h54 (Addr.add a31 0) = some (.slice x32.1 x32.2.1 x32.2.2) ∧ callT Tryz.prog 16 [.slice r51.1 r51.2.1 r51.2.2, .slice r53.1 r53.2.1 r53.2.2] [.sc .bool] (fun (r55 : Bool) h56 =>
  (cellH h56 (Addr.add a31 0) = some (.slice x32.1 x32.2.1 x32.2.2) ∧ br (!r55)
  (K (.bool false) h56)
  (K21 () h56))) h54)) h52)) h50))) h48)) h46)) h44)) h42))) h40))) h38))) h34) h34)))) h27) h27)) h27)))) h25))))) h57) h57) h57) (fun (_s58 : Unit) _ h59 =>
  callT Tryz.prog 19 [.pointer r3.1] [.agg [.int .i64, .int .u32, .bool], .sc .bool] (fun (r60 : (Int × Int × Bool) × Bool) h61 =>
  newW (.cells (zeroC Tryz.prog 60) 60) (fun a62 h63 =>
  stLW a62 [.int .i64 r60.1.1, .int .u32 r60.1.2.1, .bool r60.1.2.2] (fun h64 =>
  callT Tryz.prog 20 [.pointer r5.1] [.agg [.int .i64, .int .u32, .bool], .sc .bool] (fun (r65 : (Int × Int × Bool) × Bool) h66 =>
  newW (.cells (zeroC Tryz.prog 63) 63) (fun a67 h68 =>
  stLW a67 [.int .i64 r65.1.1, .int .u32 r65.1.2.1, .bool r65.1.2.2] (fun h69 =>
  ldAggW [.int .i64, .int .u32, .bool] a62 (fun (x70 : Int × Int × Bool) =>
  ldAggW [.int .i64, .int .u32, .bool] a67 (fun (x71 : Int × Int × Bool) =>
  eqGen Tryz.prog 63 (.agg #[.int .i64 x70.1, .int .u32 x70.2.1, .bool x70.2.2]) (.agg #[.int .i64 x71.1, .int .u32 x71.2.1, .bool x71.2.2]) (fun b72 =>
  br (!b72)
  (K (.bool false) h69)
  (br (!(r60.2 == r65.2))
  (K (.bool false) h69)
  (K13 (IntKind.wrap .i64 (s14 + (1 : Int))) h69)))) h69) h69) h68) h66) h64) h63) h61) h59) h20) h19) h15) h15)))
  (K (.bool true) h15)) (0 : Int) h12)) h6) h4) h2))) h0)
set_option maxRecDepth 100000 in
theorem F3_eq (room_0 : Int) (l_1 : Option Addr) (l_1l l_1c : Nat) (table_2 : Int) (K : Value → Heap → Prop) (h0 : Heap) : funWE Tryz.prog 3 (.seq (.leaf) (.seq (.seq (.leaf) (.cond (.seq (.leaf) (.leaf)) (.leaf))) (.seq (.seq (.leaf) (.cond (.seq (.leaf) (.leaf)) (.leaf))) (.seq (.leaf) (.seq (.leaf) (.cut [] (.seq (.leaf) (.cond (.seq (.leaf) (.leaf)) (.leaf))) (.seq (.seq (.leaf) (.cond (.seq (.leaf) (.leaf)) (.leaf))) (.seq (.seq (.leaf) (.block (.loop [(47, .sc (.int .i64))] (.seq (.leaf) (.seq (.cond (.leaf) (.leaf)) (.seq (.block (.seq (.leaf) (.cut [] (.seq (.draw (odp [0, 1, 3, 4, 2, 5, 6, 7, 8, 9, 10, 11, 13, 14, 15, 16, 17, 12, 18, 19, 20, 21, 24, 25, 26, 27, 22, 23, 28, 29, 30, 31, 32, 33, 36, 37, 34, 35, 38, 39, 40, 41, 42, 43, 45, 44, 46, 47, 48, 49] .nil) [200004, 200016, 200027]) (.cond (.seq (.leaf) (.leaf)) (.leaf))) (.seq (.leaf) (.seq (.leaf) (.seq (.leaf) (.cond (.seq (.leaf) (.leaf)) (.leaf)))))))) (.leaf))))))) (.seq (.leaf) (.leaf)))))))))) [.int .i64 room_0, .slice l_1 l_1l l_1c, .int .i64 table_2] K h0 = F3 room_0 l_1 l_1l l_1c table_2 K h0 := by kernel_rfl

end Go.Proofs.YtfanjfbenhocnaaGreatDoor.W
