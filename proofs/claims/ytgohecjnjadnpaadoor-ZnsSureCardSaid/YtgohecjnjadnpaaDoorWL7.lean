/-
  The formulas of the laws of zns. Each formula checked by the kernel. Printed by a program of this repo.
-/
import Derived.Test.YtgohecjnjadnpaaDoorProg
import Derived.Test.YtgohecjnjadnpaaDoorPl
namespace Go.Proofs.YtgohecjnjadnpaaDoor.W
open Go.Pl

-- function 23
set_option maxRecDepth 100000 in
def F23  (K : Value → Heap → Prop) (h0 : Heap) : Prop := (
  callT Tryd.prog 25 [.int .i64 2, .int .i64 3] [.sc .ptr, .sc .any] (fun (r1 : (Option Addr) × Value) h2 =>
  cutT [] (fun (K3 : Unit → Heap → Prop) h4 =>
  br (Option.isNone r1.1)
  (K (.bool false) h4)
  (ifW r1.2 (br (!(isNilV r1.2))
  (K (.bool false) h4)
  (K3 () h4)))) (fun (_s5 : Unit) _ h6 =>
  mkW Tryd.prog 5 (33 : Int) (33 : Int) (fun b7 n8 c9 h10 =>
  callT Tryd.prog 63 [.pointer r1.1, .int .i64 1, .slice b7 n8 c9] [.sc (.int .i64), .sc .any] (fun (_r11 : Int × Value) h12 =>
  callT Tryd.prog 63 [.pointer r1.1, .int .i64 1, .slice b7 n8 c9] [.sc (.int .i64), .sc .any] (fun (r13 : Int × Value) h14 =>
  callT Tryd.prog 38 [.pointer r1.1] [.sc .any] (fun (r15 : Value) h16 =>
  callT Tryd.prog 63 [.pointer r1.1, .int .i64 1, .slice b7 n8 c9] [.sc (.int .i64), .sc .any] (fun (_r17 : Int × Value) h18 =>
  callT Tryd.prog 63 [.pointer r1.1, .int .i64 1, .slice b7 n8 c9] [.sc (.int .i64), .sc .any] (fun (r19 : Int × Value) h20 =>
  callT Tryd.prog 33 [.pointer r1.1, .int .i64 1, .int .i64 2] [.sc .slice, .sc .any] (fun (r21 : (Option Addr × Nat × Nat) × Value) h22 =>
  callT Tryd.prog 64 [.pointer r1.1, .int .i64 1] [.sc (.int .i64)] (fun (r23 : Int) h24 =>
  newW (.cells #[.int .i64 0, .int .i64 0] 3) (fun a25 h26 =>
  newW (.cells #[.bool true, .bool true] 4) (fun a27 h28 =>
  callT Tryd.prog 37 [.pointer r1.1, .slice (some a25) 2 2, .slice (some a27) 2 2] [] (fun (_r29 : Unit) h30 =>
  callT Tryd.prog 33 [.pointer r1.1, .int .i64 1, .int .i64 2] [.sc .slice, .sc .any] (fun (r31 : (Option Addr × Nat × Nat) × Value) h32 =>
  callT Tryd.prog 33 [.pointer r1.1, .int .i64 0, .int .i64 0] [.sc .slice, .sc .any] (fun (r33 : (Option Addr × Nat × Nat) × Value) h34 =>
  br (r13.1 == (1 : Int))
  (ifW r13.2 (br (isNilV r13.2)
  (ifW r15 (br (isNilV r15)
  (callT Tryd.prog 20 [r19.2] [.sc (.int .i64)] (fun (r35 : Int) h36 =>
  br (r35 == (5 : Int))
  (ifW r21.2 (br (isNilV r21.2)
  (br (r23 == (2 : Int))
  (callT Tryd.prog 32 [.pointer r1.1, .int .i64 1] [.sc (.int .i64)] (fun (r37 : Int) h38 =>
  br (r37 == (3 : Int))
  (callT Tryd.prog 31 [.pointer r1.1, .int .i64 1] [.sc (.int .i64)] (fun (r39 : Int) h40 =>
  br (r39 == (3 : Int))
  (callT Tryd.prog 20 [r31.2] [.sc (.int .i64)] (fun (r41 : Int) h42 =>
  br (r41 == (6 : Int))
  (callT Tryd.prog 20 [r33.2] [.sc (.int .i64)] (fun (r43 : Int) h44 =>
  br (r43 == (8 : Int))
  (callT Tryd.prog 36 [.pointer r1.1] [.sc (.int .i64)] (fun (r45 : Int) h46 =>
  br (r45 == (4 : Int))
  (callT Tryd.prog 65 [.pointer r1.1] [.sc (.int .i64)] (fun (r47 : Int) h48 =>
  br (r47 == (2 : Int))
  (callT Tryd.prog 66 [.pointer r1.1] [.sc (.int .i64)] (fun (r49 : Int) h50 =>
  br (r49 == (3 : Int))
  (callT Tryd.prog 34 [.pointer r1.1] [.sc .bool] (fun (r51 : Bool) h52 =>
  br (!r51)
  (callT Tryd.prog 67 [.pointer r1.1, .int .i64 1] [.sc .any] (fun (r53 : Value) h54 =>
  ifW r53 (br (isNilV r53)
  (callT Tryd.prog 64 [.pointer r1.1, .int .i64 1] [.sc (.int .i64)] (fun (r55 : Int) h56 =>
  K (.bool (r55 == (0 : Int))) h56) h54)
  (K (.bool false) h54))) h52)
  (K (.bool false) h52)) h50)
  (K (.bool false) h50)) h48)
  (K (.bool false) h48)) h46)
  (K (.bool false) h46)) h44)
  (K (.bool false) h44)) h42)
  (K (.bool false) h42)) h40)
  (K (.bool false) h40)) h38)
  (K (.bool false) h38)) h36)
  (K (.bool false) h36))
  (K (.bool false) h36)))
  (K (.bool false) h36)) h34)
  (K (.bool false) h34)))
  (K (.bool false) h34)))
  (K (.bool false) h34)) h32) h30) h28) h26) h24) h22) h20) h18) h16) h14) h12) h10) h6) h2) h0)
set_option maxRecDepth 100000 in
theorem F23_eq  (K : Value → Heap → Prop) (h0 : Heap) : funWE Tryd.prog 23 (.seq (.leaf) (.seq (.leaf) (.cut [] (.seq (.leaf) (.cond (.seq (.leaf) (.leaf)) (.leaf))) (.seq (.leaf) (.seq (.leaf) (.seq (.leaf) (.seq (.leaf) (.seq (.leaf) (.seq (.leaf) (.seq (.leaf) (.seq (.leaf) (.seq (.leaf) (.seq (.leaf) (.seq (.leaf) (.seq (.leaf) (.leaf)))))))))))))))) [] K h0 = F23  K h0 := by kernel_rfl

-- function 24
set_option maxRecDepth 100000 in
def F24 (l_0 : Option Addr) (l_0l _l_0c : Nat) (K : Value → Heap → Prop) (h0 : Heap) : Prop := (
  br (decide ((((l_0l : Nat) : Int)) > (100 : Int)))
  (K (.bool true) h0)
  (loopT [.sc (.int .i64)] (fun (s2 : Int) _ (K1 : Int → Heap → Prop) h3 =>
  br (decide (s2 < (((l_0l : Nat) : Int))))
  (ptrW l_0 (fun a4 =>
  idxW s2 l_0l true (ldAggW [.int .i64, .int .i64, .int .i64, .slice, .slice, .slice] (Addr.add a4 (Int.toNat s2 * 6)) (fun (x5 : Int × Int × Int × (Option Addr × Nat × Nat) × (Option Addr × Nat × Nat) × (Option Addr × Nat × Nat)) =>
  newW (.cells (zeroC Tryd.prog 56) 56) (fun a6 h7 =>
  stLW a6 [.int .i64 x5.1, .int .i64 x5.2.1, .int .i64 x5.2.2.1, .slice x5.2.2.2.1.1 x5.2.2.2.1.2.1 x5.2.2.2.1.2.2, .slice x5.2.2.2.2.1.1 x5.2.2.2.2.1.2.1 x5.2.2.2.2.1.2.2, .slice x5.2.2.2.2.2.1 x5.2.2.2.2.2.2.1 x5.2.2.2.2.2.2.2] (fun h8 =>
  ldW .slice (Addr.add a6 3) (fun (x9 : Option Addr × Nat × Nat) =>
  br (decide ((((x9.2.1 : Nat) : Int)) > (100 : Int)))
  (K (.bool true) h8)
  (ldW .slice (Addr.add a6 4) (fun (x10 : Option Addr × Nat × Nat) =>
  br (decide ((((x10.2.1 : Nat) : Int)) > (100 : Int)))
  (K (.bool true) h8)
  (ldW .slice (Addr.add a6 5) (fun (x11 : Option Addr × Nat × Nat) =>
  br (decide ((((x11.2.1 : Nat) : Int)) > (100 : Int)))
  (K (.bool true) h8)
  (K1 (IntKind.wrap .i64 (s2 + (1 : Int))) h8)) h8)) h8)) h8) h7) h3) h3)))
  (K (.bool false) h3)) (0 : Int) h0))
set_option maxRecDepth 100000 in
theorem F24_eq (l_0 : Option Addr) (l_0l l_0c : Nat) (K : Value → Heap → Prop) (h0 : Heap) : funWE Tryd.prog 24 (.seq (.leaf) (.seq (.seq (.leaf) (.cond (.seq (.leaf) (.leaf)) (.leaf))) (.seq (.seq (.leaf) (.block (.loop [(10, .sc (.int .i64))] (.seq (.leaf) (.seq (.cond (.leaf) (.leaf)) (.seq (.block (.seq (.leaf) (.seq (.leaf) (.cond (.seq (.leaf) (.leaf)) (.leaf))))) (.leaf))))))) (.seq (.leaf) (.leaf))))) [.slice l_0 l_0l l_0c] K h0 = F24 l_0 l_0l l_0c K h0 := by kernel_rfl

-- function 27
set_option maxRecDepth 100000 in
def F27 (d_0 : Addr) (x_1_0 : Int) (x_1_1 : Int) (x_1_2 : Int) (x_1_3 : Option Addr) (x_1_3l x_1_3c : Nat) (x_1_4 : Option Addr) (x_1_4l x_1_4c : Nat) (x_1_5 : Option Addr) (x_1_5l x_1_5c : Nat) (K : Value → Heap → Prop) (h0 : Heap) : Prop := (
  newW (.cells #[.int .i64 x_1_0, .int .i64 x_1_1, .int .i64 x_1_2, .slice x_1_3 x_1_3l x_1_3c, .slice x_1_4 x_1_4l x_1_4c, .slice x_1_5 x_1_5l x_1_5c] 56) (fun a1 h2 =>
  newW (.cells (zeroC Tryd.prog 58) 58) (fun a3 h4 =>
  newW (.cells (zeroC Tryd.prog 58) 58) (fun a5 h6 =>
  cutT [.sc .any] (fun (K7 : Value → Heap → Prop) h34 =>
  ldW (.int .i64) (Addr.add a1 0) (fun (x8 : Int) =>
  br (x8 == (0 : Int))
  (ldW (.int .i64) (Addr.add a1 1) (fun (x9 : Int) =>
  ldW .slice (Addr.add a1 3) (fun (x10 : Option Addr × Nat × Nat) =>
  callT Tryd.prog 63 [.pointer (some d_0), .int .i64 x9, .slice x10.1 x10.2.1 x10.2.2] [.sc (.int .i64), .sc .any] (fun (r11 : Int × Value) h12 =>
  stW (Addr.add a5 0) (.int .i64 r11.1) (fun h13 =>
  K7 r11.2 h13) h12) h34) h34) h34)
  (br (x8 == (1 : Int))
  (ldW (.int .i64) (Addr.add a1 1) (fun (x14 : Int) =>
  ldW (.int .i64) (Addr.add a1 2) (fun (x15 : Int) =>
  callT Tryd.prog 33 [.pointer (some d_0), .int .i64 x14, .int .i64 x15] [.sc .slice, .sc .any] (fun (r16 : (Option Addr × Nat × Nat) × Value) h17 =>
  stW (Addr.add a5 2) (.slice r16.1.1 r16.1.2.1 r16.1.2.2) (fun h18 =>
  K7 r16.2 h18) h17) h34) h34) h34)
  (br (x8 == (2 : Int))
  (ldW (.int .i64) (Addr.add a1 1) (fun (x19 : Int) =>
  callT Tryd.prog 67 [.pointer (some d_0), .int .i64 x19] [.sc .any] (fun (r20 : Value) h21 =>
  K7 r20 h21) h34) h34)
  (br (x8 == (3 : Int))
  (ldW (.int .i64) (Addr.add a1 1) (fun (x22 : Int) =>
  callT Tryd.prog 68 [.pointer (some d_0), .int .i64 x22] [.sc .any] (fun (r23 : Value) h24 =>
  K7 r23 h24) h34) h34)
  (br (x8 == (4 : Int))
  (callT Tryd.prog 38 [.pointer (some d_0)] [.sc .any] (fun (r25 : Value) h26 =>
  K7 r25 h26) h34)
  (br (x8 == (5 : Int))
  (ldW (.int .i64) (Addr.add a1 2) (fun (x27 : Int) =>
  callT Tryd.prog 35 [.pointer (some d_0), .int .i64 x27] [] (fun (_r28 : Unit) h29 =>
  K7 (.nilIface : Value) h29) h34) h34)
  (br (x8 == (6 : Int))
  (ldW .slice (Addr.add a1 4) (fun (x30 : Option Addr × Nat × Nat) =>
  ldW .slice (Addr.add a1 5) (fun (x31 : Option Addr × Nat × Nat) =>
  callT Tryd.prog 37 [.pointer (some d_0), .slice x30.1 x30.2.1 x30.2.2, .slice x31.1 x31.2.1 x31.2.2] [] (fun (_r32 : Unit) h33 =>
  K7 (.nilIface : Value) h33) h34) h34) h34)
  (K7 (.nilIface : Value) h34)))))))) h34) (fun (s35 : Value) _ h36 =>
  callT Tryd.prog 20 [s35] [.sc (.int .i64)] (fun (r37 : Int) h38 =>
  stW (Addr.add a5 1) (.int .i64 r37) (fun h39 =>
  ldAggW [.int .i64, .int .i64, .slice] a5 (fun (x40 : Int × Int × (Option Addr × Nat × Nat)) =>
  stLW a3 [.int .i64 x40.1, .int .i64 x40.2.1, .slice x40.2.2.1 x40.2.2.2.1 x40.2.2.2.2] (fun h41 =>
  ldAggW [.int .i64, .int .i64, .slice] a3 (fun (x42 : Int × Int × (Option Addr × Nat × Nat)) =>
  K (.agg #[.int .i64 x42.1, .int .i64 x42.2.1, .slice x42.2.2.1 x42.2.2.2.1 x42.2.2.2.2]) h41) h41) h39) h39) h38) h36) h6) h4) h2) h0)
set_option maxRecDepth 100000 in
theorem F27_eq (d_0 : Addr) (x_1_0 : Int) (x_1_1 : Int) (x_1_2 : Int) (x_1_3 : Option Addr) (x_1_3l x_1_3c : Nat) (x_1_4 : Option Addr) (x_1_4l x_1_4c : Nat) (x_1_5 : Option Addr) (x_1_5l x_1_5c : Nat) (K : Value → Heap → Prop) (h0 : Heap) : funWE Tryd.prog 27 (.seq (.leaf) (.seq (.leaf) (.seq (.leaf) (.cut [(6, .sc .any)] (.seq (.leaf) (.block (.seq (.leaf) (.cond (.leaf) (.seq (.leaf) (.cond (.leaf) (.seq (.leaf) (.cond (.leaf) (.seq (.leaf) (.cond (.leaf) (.seq (.leaf) (.cond (.leaf) (.seq (.leaf) (.cond (.leaf) (.seq (.leaf) (.cond (.leaf) (.leaf))))))))))))))))) (.seq (.leaf) (.seq (.leaf) (.leaf))))))) [.pointer (some d_0), .agg #[.int .i64 x_1_0, .int .i64 x_1_1, .int .i64 x_1_2, .slice x_1_3 x_1_3l x_1_3c, .slice x_1_4 x_1_4l x_1_4c, .slice x_1_5 x_1_5l x_1_5c]] K h0 = F27 d_0 x_1_0 x_1_1 x_1_2 x_1_3 x_1_3l x_1_3c x_1_4 x_1_4l x_1_4c x_1_5 x_1_5l x_1_5c K h0 := by kernel_rfl

-- function 29
set_option maxRecDepth 100000 in
def F29 (d_0 : Addr) (r_1 : Addr) (K : Value → Heap → Prop) (h0 : Heap) : Prop := (
  cutT [] (fun (K1 : Unit → Heap → Prop) h14 =>
  ldW .slice (Addr.add r_1 0) (fun (x2 : Option Addr × Nat × Nat) =>
  callT Tryd.prog 65 [.pointer (some d_0)] [.sc (.int .i64)] (fun (r3 : Int) h4 =>
  (cellH h4 (Addr.add r_1 0) = some (.slice x2.1 x2.2.1 x2.2.2) ∧ br (r3 != (((x2.2.1 : Nat) : Int)))
  (K (.bool false) h4)
  (ldW (.int .i64) (Addr.add r_1 1) (fun (x5 : Int) =>
  callT Tryd.prog 66 [.pointer (some d_0)] [.sc (.int .i64)] (fun (r6 : Int) h7 =>
  (cellH h7 (Addr.add r_1 1) = some (.int .i64 x5) ∧ (cellH h7 (Addr.add r_1 0) = some (.slice x2.1 x2.2.1 x2.2.2) ∧ br (r6 != x5)
  (K (.bool false) h7)
  (ldW .bool (Addr.add r_1 4) (fun (x8 : Bool) =>
  callT Tryd.prog 34 [.pointer (some d_0)] [.sc .bool] (fun (r9 : Bool) h10 =>
  (cellH h10 (Addr.add r_1 4) = some (.bool x8) ∧ (cellH h10 (Addr.add r_1 1) = some (.int .i64 x5) ∧ (cellH h10 (Addr.add r_1 0) = some (.slice x2.1 x2.2.1 x2.2.2) ∧ br (!(r9 == x8))
  (K (.bool false) h10)
  (ldW (.int .i64) (Addr.add r_1 3) (fun (x11 : Int) =>
  callT Tryd.prog 36 [.pointer (some d_0)] [.sc (.int .i64)] (fun (r12 : Int) h13 =>
  (cellH h13 (Addr.add r_1 3) = some (.int .i64 x11) ∧ (cellH h13 (Addr.add r_1 4) = some (.bool x8) ∧ (cellH h13 (Addr.add r_1 1) = some (.int .i64 x5) ∧ (cellH h13 (Addr.add r_1 0) = some (.slice x2.1 x2.2.1 x2.2.2) ∧ br (r12 != x11)
  (K (.bool false) h13)
  (K1 () h13)))))) h10) h10))))) h7) h7)))) h4) h4))) h14) h14) (fun (_s15 : Unit) _ h16 =>
  loopT [.sc (.int .i64)] (fun (s18 : Int) _ (K17 : Int → Heap → Prop) h19 =>
  ldW .slice (Addr.add r_1 0) (fun (x20 : Option Addr × Nat × Nat) =>
  br (decide (s18 ≤ (((x20.2.1 : Nat) : Int))))
  (callT Tryd.prog 64 [.pointer (some d_0), .int .i64 s18] [.sc (.int .i64)] (fun (r21 : Int) h22 =>
  callT Tryd.prog 76 [.pointer (some r_1), .int .i64 s18] [.sc (.int .i64)] (fun (r23 : Int) h24 =>
  br (r21 != r23)
  (K (.bool false) h24)
  (callT Tryd.prog 32 [.pointer (some d_0), .int .i64 s18] [.sc (.int .i64)] (fun (r25 : Int) h26 =>
  callT Tryd.prog 77 [.pointer (some r_1), .int .i64 s18] [.sc (.int .i64)] (fun (r27 : Int) h28 =>
  br (r25 != r27)
  (K (.bool false) h28)
  (callT Tryd.prog 31 [.pointer (some d_0), .int .i64 s18] [.sc (.int .i64)] (fun (r29 : Int) h30 =>
  callT Tryd.prog 78 [.pointer (some r_1), .int .i64 s18] [.sc (.int .i64)] (fun (r31 : Int) h32 =>
  br (r29 != r31)
  (K (.bool false) h32)
  (K17 (IntKind.wrap .i64 (s18 + (1 : Int))) h32)) h30) h28)) h26) h24)) h22) h19)
  (K (.bool true) h19)) h19) (-1 : Int) h16) h0)
set_option maxRecDepth 100000 in
theorem F29_eq (d_0 : Addr) (r_1 : Addr) (K : Value → Heap → Prop) (h0 : Heap) : funWE Tryd.prog 29 (.seq (.leaf) (.cut [] (.seq (.draw (odp [0, 2, 3, 4, 5, 6, 1, 7, 8, 9, 11, 12, 13, 14, 10, 15, 16, 17, 18, 20, 21, 22, 23, 19, 24, 25, 26, 27, 29, 30, 31, 32, 28, 33, 34] .nil) [200005, 200014, 200023, 200032]) (.cond (.seq (.leaf) (.leaf)) (.leaf))) (.seq (.seq (.leaf) (.block (.loop [(5, .sc (.int .i64))] (.seq (.seq (.leaf) (.cond (.leaf) (.leaf))) (.seq (.block (.seq (.leaf) (.cond (.seq (.leaf) (.leaf)) (.leaf)))) (.leaf)))))) (.seq (.leaf) (.leaf))))) [.pointer (some d_0), .pointer (some r_1)] K h0 = F29 d_0 r_1 K h0 := by kernel_rfl

-- function 30
set_option maxRecDepth 100000 in
def F30 (d_0 : Addr) (r_1 : Addr) (K : Value → Heap → Prop) (h0 : Heap) : Prop := (
  ldW .slice (Addr.add r_1 0) (fun (x1 : Option Addr × Nat × Nat) =>
  loopT [.sc (.int .i64)] (fun (s3 : Int) _ (K2 : Int → Heap → Prop) h4 =>
  br (decide (s3 < (((x1.2.1 : Nat) : Int))))
  (ldW (.int .i64) (Addr.add r_1 1) (fun (x5 : Int) =>
  loopT [.sc (.int .i64)] (fun (s7 : Int) _ (K6 : Int → Heap → Prop) h8 =>
  br (decide (s7 < x5))
  (callT Tryd.prog 33 [.pointer (some d_0), .int .i64 s3, .int .i64 s7] [.sc .slice, .sc .any] (fun (r9 : (Option Addr × Nat × Nat) × Value) h10 =>
  callT Tryd.prog 70 [.pointer (some r_1), .int .i64 s3, .int .i64 s7] [.sc .slice, .sc (.int .i64)] (fun (r11 : (Option Addr × Nat × Nat) × Int) h12 =>
  callT Tryd.prog 19 [.slice r9.1.1 r9.1.2.1 r9.1.2.2, .slice r11.1.1 r11.1.2.1 r11.1.2.2] [.sc .bool] (fun (r13 : Bool) h14 =>
  br (!r13)
  (K (.bool false) h14)
  (callT Tryd.prog 20 [r9.2] [.sc (.int .i64)] (fun (r15 : Int) h16 =>
  br (r15 != r11.2)
  (K (.bool false) h16)
  (K6 (IntKind.wrap .i64 (s7 + (1 : Int))) h16)) h14)) h12) h10) h8)
  (K2 (IntKind.wrap .i64 (s3 + (1 : Int))) h8)) (0 : Int) h4) h4)
  (K (.bool true) h4)) (0 : Int) h0) h0)
set_option maxRecDepth 100000 in
theorem F30_eq (d_0 : Addr) (r_1 : Addr) (K : Value → Heap → Prop) (h0 : Heap) : funWE Tryd.prog 30 (.seq (.leaf) (.seq (.seq (.leaf) (.block (.loop [(16, .sc (.int .i64))] (.seq (.leaf) (.seq (.cond (.leaf) (.leaf)) (.seq (.block (.seq (.leaf) (.seq (.leaf) (.block (.loop [(23, .sc (.int .i64))] (.seq (.leaf) (.seq (.cond (.leaf) (.leaf)) (.seq (.block (.seq (.leaf) (.seq (.leaf) (.seq (.leaf) (.seq (.leaf) (.cond (.seq (.leaf) (.leaf)) (.leaf))))))) (.leaf))))))))) (.leaf))))))) (.seq (.leaf) (.leaf)))) [.pointer (some d_0), .pointer (some r_1)] K h0 = F30 d_0 r_1 K h0 := by kernel_rfl

-- function 39
set_option maxRecDepth 100000 in
def F39 (d_0 : Addr) (zone_1 : Int) (K : Value → Heap → Prop) (h0 : Heap) : Prop := (
  newW (.cells (zeroC Tryd.prog 74) 74) (fun a1 h2 =>
  callT Tryd.prog 32 [.pointer (some d_0), .int .i64 zone_1] [.sc (.int .i64)] (fun (r3 : Int) h4 =>
  loopT [.sc .slice, .sc (.int .i64)] (fun (s6 : (Option Addr × Nat × Nat) × Int) _ (K5 : ((Option Addr × Nat × Nat) × Int) → Heap → Prop) h7 =>
  br (decide (s6.2 < r3))
  (callT Tryd.prog 33 [.pointer (some d_0), .int .i64 zone_1, .int .i64 s6.2] [.sc .slice, .sc .any] (fun (r8 : (Option Addr × Nat × Nat) × Value) h9 =>
  newW (.cells #[.int .u8 (IntKind.wrap .u8 (((r8.1.2.1 : Nat) : Int)))] 5) (fun a10 h11 =>
  apW Tryd.prog #[25, 25] #[.slice s6.1.1 s6.1.2.1 s6.1.2.2, .slice (some a10) 1 1] (fun b12 n13 c14 h15 =>
  apW Tryd.prog #[25, 25] #[.slice b12 n13 c14, .slice r8.1.1 r8.1.2.1 r8.1.2.2] (fun b16 n17 c18 h19 =>
  K5 ((b16, n17, c18), (IntKind.wrap .i64 (s6.2 + (1 : Int)))) h19) h15) h11) h9) h7)
  (callT Tryd.prog 64 [.pointer (some d_0), .int .i64 zone_1] [.sc (.int .i64)] (fun (r20 : Int) h21 =>
  callT Tryd.prog 32 [.pointer (some d_0), .int .i64 zone_1] [.sc (.int .i64)] (fun (r22 : Int) h23 =>
  callT Tryd.prog 31 [.pointer (some d_0), .int .i64 zone_1] [.sc (.int .i64)] (fun (r24 : Int) h25 =>
  stLW a1 [.int .i64 r20, .int .i64 r22, .int .i64 r24] (fun h26 =>
  ldAggW [.int .i64, .int .i64, .int .i64] a1 (fun (x27 : Int × Int × Int) =>
  K (.tuple #[.slice s6.1.1 s6.1.2.1 s6.1.2.2, .agg #[.int .i64 x27.1, .int .i64 x27.2.1, .int .i64 x27.2.2]]) h26) h26) h25) h23) h21) h7)) ((none, 0, 0), (0 : Int)) h4) h2) h0)
set_option maxRecDepth 100000 in
theorem F39_eq (d_0 : Addr) (zone_1 : Int) (K : Value → Heap → Prop) (h0 : Heap) : funWE Tryd.prog 39 (.seq (.leaf) (.seq (.leaf) (.seq (.seq (.leaf) (.block (.loop [(6, .sc .slice), (13, .sc (.int .i64))] (.seq (.leaf) (.seq (.cond (.leaf) (.leaf)) (.seq (.block (.seq (.leaf) (.seq (.leaf) (.leaf)))) (.leaf))))))) (.seq (.leaf) (.leaf))))) [.pointer (some d_0), .int .i64 zone_1] K h0 = F39 d_0 zone_1 K h0 := by kernel_rfl

-- function 6
set_option maxRecDepth 100000 in
def F6 (zones_0 : Int) (pageCount_1 : Int) (l_2 : Option Addr) (l_2l l_2c : Nat) (K : Value → Heap → Prop) (h0 : Heap) : Prop := (
  callT Tryd.prog 23 [] [.sc .bool] (fun (r1 : Bool) h2 =>
  br (!r1)
  (K (.bool false) h2)
  (callT Tryd.prog 24 [.slice l_2 l_2l l_2c] [.sc .bool] (fun (r3 : Bool) h4 =>
  br r3
  (K (.bool true) h4)
  (callT Tryd.prog 25 [.int .i64 zones_0, .int .i64 pageCount_1] [.sc .ptr, .sc .any] (fun (r5 : (Option Addr) × Value) h6 =>
  callT Tryd.prog 26 [.int .i64 zones_0, .int .i64 pageCount_1] [.sc .ptr, .sc (.int .i64)] (fun (r7 : (Option Addr) × Int) h8 =>
  cutT [] (fun (K9 : Unit → Heap → Prop) h12 =>
  callT Tryd.prog 20 [r5.2] [.sc (.int .i64)] (fun (r10 : Int) h11 =>
  br (r10 != r7.2)
  (K (.bool false) h11)
  (br (!((Option.isNone r5.1) == (Option.isNone r7.1)))
  (K (.bool false) h11)
  (K9 () h11))) h12) (fun (_s13 : Unit) _ h14 =>
  br (Option.isNone r5.1)
  (K (.bool true) h14)
  (loopT [.sc (.int .i64)] (fun (s16 : Int) _ (K15 : Int → Heap → Prop) h17 =>
  br (decide (s16 < (((l_2l : Nat) : Int))))
  (ptrW l_2 (fun a18 =>
  idxW s16 l_2l true (ldAggW [.int .i64, .int .i64, .int .i64, .slice, .slice, .slice] (Addr.add a18 (Int.toNat s16 * 6)) (fun (x19 : Int × Int × Int × (Option Addr × Nat × Nat) × (Option Addr × Nat × Nat) × (Option Addr × Nat × Nat)) =>
  newW (.cells (zeroC Tryd.prog 56) 56) (fun a20 h21 =>
  stLW a20 [.int .i64 x19.1, .int .i64 x19.2.1, .int .i64 x19.2.2.1, .slice x19.2.2.2.1.1 x19.2.2.2.1.2.1 x19.2.2.2.1.2.2, .slice x19.2.2.2.2.1.1 x19.2.2.2.2.1.2.1 x19.2.2.2.2.1.2.2, .slice x19.2.2.2.2.2.1 x19.2.2.2.2.2.2.1 x19.2.2.2.2.2.2.2] (fun h22 =>
  cutT [.sc .ptr, .sc .ptr] (fun (K23 : ((Option Addr) × (Option Addr)) → Heap → Prop) h118 =>
  ldAggW [.int .i64, .int .i64, .int .i64, .slice, .slice, .slice] a20 (fun (x24 : Int × Int × Int × (Option Addr × Nat × Nat) × (Option Addr × Nat × Nat) × (Option Addr × Nat × Nat)) =>
  ldAggW [.int .i64, .int .i64, .int .i64, .slice, .slice, .slice] a20 (fun (x25 : Int × Int × Int × (Option Addr × Nat × Nat) × (Option Addr × Nat × Nat) × (Option Addr × Nat × Nat)) =>
  (callT Tryd.prog 27 [.pointer r5.1, .agg #[.int .i64 x24.1, .int .i64 x24.2.1, .int .i64 x24.2.2.1, .slice x24.2.2.2.1.1 x24.2.2.2.1.2.1 x24.2.2.2.1.2.2, .slice x24.2.2.2.2.1.1 x24.2.2.2.2.1.2.1 x24.2.2.2.2.1.2.2, .slice x24.2.2.2.2.2.1 x24.2.2.2.2.2.2.1 x24.2.2.2.2.2.2.2]] [.agg [.int .i64, .int .i64, .slice]] (fun (r26 : (Int × Int × (Option Addr × Nat × Nat))) h27 =>
  (cellH h27 (Addr.add a20 0) = some (.int .i64 x25.1) ∧ (cellH h27 (Addr.add a20 1) = some (.int .i64 x25.2.1) ∧ (cellH h27 (Addr.add a20 2) = some (.int .i64 x25.2.2.1) ∧ (cellH h27 (Addr.add a20 3) = some (.slice x25.2.2.2.1.1 x25.2.2.2.1.2.1 x25.2.2.2.1.2.2) ∧ (cellH h27 (Addr.add a20 4) = some (.slice x25.2.2.2.2.1.1 x25.2.2.2.2.1.2.1 x25.2.2.2.2.1.2.2) ∧ (cellH h27 (Addr.add a20 5) = some (.slice x25.2.2.2.2.2.1 x25.2.2.2.2.2.2.1 x25.2.2.2.2.2.2.2) ∧ (callT Tryd.prog 28 [.pointer r7.1, .agg #[.int .i64 x25.1, .int .i64 x25.2.1, .int .i64 x25.2.2.1, .slice x25.2.2.2.1.1 x25.2.2.2.1.2.1 x25.2.2.2.1.2.2, .slice x25.2.2.2.2.1.1 x25.2.2.2.2.1.2.1 x25.2.2.2.2.1.2.2, .slice x25.2.2.2.2.2.1 x25.2.2.2.2.2.2.1 x25.2.2.2.2.2.2.2]] [.agg [.int .i64, .int .i64, .slice]] (fun (r28 : (Int × Int × (Option Addr × Nat × Nat))) h29 =>
  (newW (.cells (zeroC Tryd.prog 58) 58) (fun a30 h31 =>
  newW (.cells (zeroC Tryd.prog 58) 58) (fun a32 h33 =>
  stLW a30 [.int .i64 r26.1, .int .i64 r26.2.1, .slice r26.2.2.1 r26.2.2.2.1 r26.2.2.2.2] (fun h34 =>
  stLW a32 [.int .i64 r28.1, .int .i64 r28.2.1, .slice r28.2.2.1 r28.2.2.2.1 r28.2.2.2.2] (fun h35 =>
  K23 ((some a30), (some a32)) h35) h34) h33) h31) h29) ∧
  (newW (.cells (zeroC Tryd.prog 58) 58) (fun a36 h37 =>
  newW (.cells (zeroC Tryd.prog 58) 58) (fun a38 h39 =>
  stLW a38 [.int .i64 r26.1, .int .i64 r26.2.1, .slice r26.2.2.1 r26.2.2.2.1 r26.2.2.2.2] (fun h40 =>
  stLW a36 [.int .i64 r28.1, .int .i64 r28.2.1, .slice r28.2.2.1 r28.2.2.2.1 r28.2.2.2.2] (fun h41 =>
  K23 ((some a38), (some a36)) h41) h40) h39) h37) h29)) h27) ∧
  (newW (.cells (zeroC Tryd.prog 58) 58) (fun a42 h43 =>
  (callT Tryd.prog 28 [.pointer r7.1, .agg #[.int .i64 x25.1, .int .i64 x25.2.1, .int .i64 x25.2.2.1, .slice x25.2.2.2.1.1 x25.2.2.2.1.2.1 x25.2.2.2.1.2.2, .slice x25.2.2.2.2.1.1 x25.2.2.2.2.1.2.1 x25.2.2.2.2.1.2.2, .slice x25.2.2.2.2.2.1 x25.2.2.2.2.2.2.1 x25.2.2.2.2.2.2.2]] [.agg [.int .i64, .int .i64, .slice]] (fun (r44 : (Int × Int × (Option Addr × Nat × Nat))) h45 =>
  newW (.cells (zeroC Tryd.prog 58) 58) (fun a46 h47 =>
  stLW a42 [.int .i64 r26.1, .int .i64 r26.2.1, .slice r26.2.2.1 r26.2.2.2.1 r26.2.2.2.2] (fun h48 =>
  stLW a46 [.int .i64 r44.1, .int .i64 r44.2.1, .slice r44.2.2.1 r44.2.2.2.1 r44.2.2.2.2] (fun h49 =>
  K23 ((some a42), (some a46)) h49) h48) h47) h45) h43) ∧
  (newW (.cells (zeroC Tryd.prog 58) 58) (fun a50 h51 =>
  callT Tryd.prog 28 [.pointer r7.1, .agg #[.int .i64 x25.1, .int .i64 x25.2.1, .int .i64 x25.2.2.1, .slice x25.2.2.2.1.1 x25.2.2.2.1.2.1 x25.2.2.2.1.2.2, .slice x25.2.2.2.2.1.1 x25.2.2.2.2.1.2.1 x25.2.2.2.2.1.2.2, .slice x25.2.2.2.2.2.1 x25.2.2.2.2.2.2.1 x25.2.2.2.2.2.2.2]] [.agg [.int .i64, .int .i64, .slice]] (fun (r52 : (Int × Int × (Option Addr × Nat × Nat))) h53 =>
  stLW a42 [.int .i64 r26.1, .int .i64 r26.2.1, .slice r26.2.2.1 r26.2.2.2.1 r26.2.2.2.2] (fun h54 =>
  stLW a50 [.int .i64 r52.1, .int .i64 r52.2.1, .slice r52.2.2.1 r52.2.2.2.1 r52.2.2.2.2] (fun h55 =>
  K23 ((some a42), (some a50)) h55) h54) h53) h51) h43)) h27) ∧
  (newW (.cells (zeroC Tryd.prog 58) 58) (fun a56 h57 =>
  (callT Tryd.prog 28 [.pointer r7.1, .agg #[.int .i64 x25.1, .int .i64 x25.2.1, .int .i64 x25.2.2.1, .slice x25.2.2.2.1.1 x25.2.2.2.1.2.1 x25.2.2.2.1.2.2, .slice x25.2.2.2.2.1.1 x25.2.2.2.2.1.2.1 x25.2.2.2.2.1.2.2, .slice x25.2.2.2.2.2.1 x25.2.2.2.2.2.2.1 x25.2.2.2.2.2.2.2]] [.agg [.int .i64, .int .i64, .slice]] (fun (r58 : (Int × Int × (Option Addr × Nat × Nat))) h59 =>
  newW (.cells (zeroC Tryd.prog 58) 58) (fun a60 h61 =>
  stLW a60 [.int .i64 r26.1, .int .i64 r26.2.1, .slice r26.2.2.1 r26.2.2.2.1 r26.2.2.2.2] (fun h62 =>
  stLW a56 [.int .i64 r58.1, .int .i64 r58.2.1, .slice r58.2.2.1 r58.2.2.2.1 r58.2.2.2.2] (fun h63 =>
  K23 ((some a60), (some a56)) h63) h62) h61) h59) h57) ∧
  (newW (.cells (zeroC Tryd.prog 58) 58) (fun a64 h65 =>
  callT Tryd.prog 28 [.pointer r7.1, .agg #[.int .i64 x25.1, .int .i64 x25.2.1, .int .i64 x25.2.2.1, .slice x25.2.2.2.1.1 x25.2.2.2.1.2.1 x25.2.2.2.1.2.2, .slice x25.2.2.2.2.1.1 x25.2.2.2.2.1.2.1 x25.2.2.2.2.1.2.2, .slice x25.2.2.2.2.2.1 x25.2.2.2.2.2.2.1 x25.2.2.2.2.2.2.2]] [.agg [.int .i64, .int .i64, .slice]] (fun (r66 : (Int × Int × (Option Addr × Nat × Nat))) h67 =>
  stLW a64 [.int .i64 r26.1, .int .i64 r26.2.1, .slice r26.2.2.1 r26.2.2.2.1 r26.2.2.2.2] (fun h68 =>
  stLW a56 [.int .i64 r66.1, .int .i64 r66.2.1, .slice r66.2.2.1 r66.2.2.2.1 r66.2.2.2.2] (fun h69 =>
  K23 ((some a64), (some a56)) h69) h68) h67) h65) h57)) h27)))))))) h118) ∧
  (newW (.cells (zeroC Tryd.prog 58) 58) (fun a70 h71 =>
  (callT Tryd.prog 27 [.pointer r5.1, .agg #[.int .i64 x24.1, .int .i64 x24.2.1, .int .i64 x24.2.2.1, .slice x24.2.2.2.1.1 x24.2.2.2.1.2.1 x24.2.2.2.1.2.2, .slice x24.2.2.2.2.1.1 x24.2.2.2.2.1.2.1 x24.2.2.2.2.1.2.2, .slice x24.2.2.2.2.2.1 x24.2.2.2.2.2.2.1 x24.2.2.2.2.2.2.2]] [.agg [.int .i64, .int .i64, .slice]] (fun (r72 : (Int × Int × (Option Addr × Nat × Nat))) h73 =>
  (cellH h73 (Addr.add a20 0) = some (.int .i64 x25.1) ∧ (cellH h73 (Addr.add a20 1) = some (.int .i64 x25.2.1) ∧ (cellH h73 (Addr.add a20 2) = some (.int .i64 x25.2.2.1) ∧ (cellH h73 (Addr.add a20 3) = some (.slice x25.2.2.2.1.1 x25.2.2.2.1.2.1 x25.2.2.2.1.2.2) ∧ (cellH h73 (Addr.add a20 4) = some (.slice x25.2.2.2.2.1.1 x25.2.2.2.2.1.2.1 x25.2.2.2.2.1.2.2) ∧ (cellH h73 (Addr.add a20 5) = some (.slice x25.2.2.2.2.2.1 x25.2.2.2.2.2.2.1 x25.2.2.2.2.2.2.2) ∧ (callT Tryd.prog 28 [.pointer r7.1, .agg #[.int .i64 x25.1, .int .i64 x25.2.1, .int .i64 x25.2.2.1, .slice x25.2.2.2.1.1 x25.2.2.2.1.2.1 x25.2.2.2.1.2.2, .slice x25.2.2.2.2.1.1 x25.2.2.2.2.1.2.1 x25.2.2.2.2.1.2.2, .slice x25.2.2.2.2.2.1 x25.2.2.2.2.2.2.1 x25.2.2.2.2.2.2.2]] [.agg [.int .i64, .int .i64, .slice]] (fun (r74 : (Int × Int × (Option Addr × Nat × Nat))) h75 =>
  newW (.cells (zeroC Tryd.prog 58) 58) (fun a76 h77 =>
  stLW a70 [.int .i64 r72.1, .int .i64 r72.2.1, .slice r72.2.2.1 r72.2.2.2.1 r72.2.2.2.2] (fun h78 =>
  stLW a76 [.int .i64 r74.1, .int .i64 r74.2.1, .slice r74.2.2.1 r74.2.2.2.1 r74.2.2.2.2] (fun h79 =>
  K23 ((some a70), (some a76)) h79) h78) h77) h75) h73) ∧
  (newW (.cells (zeroC Tryd.prog 58) 58) (fun a80 h81 =>
  callT Tryd.prog 28 [.pointer r7.1, .agg #[.int .i64 x25.1, .int .i64 x25.2.1, .int .i64 x25.2.2.1, .slice x25.2.2.2.1.1 x25.2.2.2.1.2.1 x25.2.2.2.1.2.2, .slice x25.2.2.2.2.1.1 x25.2.2.2.2.1.2.1 x25.2.2.2.2.1.2.2, .slice x25.2.2.2.2.2.1 x25.2.2.2.2.2.2.1 x25.2.2.2.2.2.2.2]] [.agg [.int .i64, .int .i64, .slice]] (fun (r82 : (Int × Int × (Option Addr × Nat × Nat))) h83 =>
  stLW a70 [.int .i64 r72.1, .int .i64 r72.2.1, .slice r72.2.2.1 r72.2.2.2.1 r72.2.2.2.2] (fun h84 =>
  stLW a80 [.int .i64 r82.1, .int .i64 r82.2.1, .slice r82.2.2.1 r82.2.2.2.1 r82.2.2.2.2] (fun h85 =>
  K23 ((some a70), (some a80)) h85) h84) h83) h81) h73)))))))) h71) ∧
  (newW (.cells (zeroC Tryd.prog 58) 58) (fun a86 h87 =>
  callT Tryd.prog 27 [.pointer r5.1, .agg #[.int .i64 x24.1, .int .i64 x24.2.1, .int .i64 x24.2.2.1, .slice x24.2.2.2.1.1 x24.2.2.2.1.2.1 x24.2.2.2.1.2.2, .slice x24.2.2.2.2.1.1 x24.2.2.2.2.1.2.1 x24.2.2.2.2.1.2.2, .slice x24.2.2.2.2.2.1 x24.2.2.2.2.2.2.1 x24.2.2.2.2.2.2.2]] [.agg [.int .i64, .int .i64, .slice]] (fun (r88 : (Int × Int × (Option Addr × Nat × Nat))) h89 =>
  (cellH h89 (Addr.add a20 0) = some (.int .i64 x25.1) ∧ (cellH h89 (Addr.add a20 1) = some (.int .i64 x25.2.1) ∧ (cellH h89 (Addr.add a20 2) = some (.int .i64 x25.2.2.1) ∧ (cellH h89 (Addr.add a20 3) = some (.slice x25.2.2.2.1.1 x25.2.2.2.1.2.1 x25.2.2.2.1.2.2) ∧ (cellH h89 (Addr.add a20 4) = some (.slice x25.2.2.2.2.1.1 x25.2.2.2.2.1.2.1 x25.2.2.2.2.1.2.2) ∧ (cellH h89 (Addr.add a20 5) = some (.slice x25.2.2.2.2.2.1 x25.2.2.2.2.2.2.1 x25.2.2.2.2.2.2.2) ∧ callT Tryd.prog 28 [.pointer r7.1, .agg #[.int .i64 x25.1, .int .i64 x25.2.1, .int .i64 x25.2.2.1, .slice x25.2.2.2.1.1 x25.2.2.2.1.2.1 x25.2.2.2.1.2.2, .slice x25.2.2.2.2.1.1 x25.2.2.2.2.1.2.1 x25.2.2.2.2.1.2.2, .slice x25.2.2.2.2.2.1 x25.2.2.2.2.2.2.1 x25.2.2.2.2.2.2.2]] [.agg [.int .i64, .int .i64, .slice]] (fun (r90 : (Int × Int × (Option Addr × Nat × Nat))) h91 =>
  stLW a70 [.int .i64 r88.1, .int .i64 r88.2.1, .slice r88.2.2.1 r88.2.2.2.1 r88.2.2.2.2] (fun h92 =>
  stLW a86 [.int .i64 r90.1, .int .i64 r90.2.1, .slice r90.2.2.1 r90.2.2.2.1 r90.2.2.2.2] (fun h93 =>
  K23 ((some a70), (some a86)) h93) h92) h91) h89))))))) h87) h71)) h118) ∧
  (newW (.cells (zeroC Tryd.prog 58) 58) (fun a94 h95 =>
  (callT Tryd.prog 27 [.pointer r5.1, .agg #[.int .i64 x24.1, .int .i64 x24.2.1, .int .i64 x24.2.2.1, .slice x24.2.2.2.1.1 x24.2.2.2.1.2.1 x24.2.2.2.1.2.2, .slice x24.2.2.2.2.1.1 x24.2.2.2.2.1.2.1 x24.2.2.2.2.1.2.2, .slice x24.2.2.2.2.2.1 x24.2.2.2.2.2.2.1 x24.2.2.2.2.2.2.2]] [.agg [.int .i64, .int .i64, .slice]] (fun (r96 : (Int × Int × (Option Addr × Nat × Nat))) h97 =>
  (cellH h97 (Addr.add a20 0) = some (.int .i64 x25.1) ∧ (cellH h97 (Addr.add a20 1) = some (.int .i64 x25.2.1) ∧ (cellH h97 (Addr.add a20 2) = some (.int .i64 x25.2.2.1) ∧ (cellH h97 (Addr.add a20 3) = some (.slice x25.2.2.2.1.1 x25.2.2.2.1.2.1 x25.2.2.2.1.2.2) ∧ (cellH h97 (Addr.add a20 4) = some (.slice x25.2.2.2.2.1.1 x25.2.2.2.2.1.2.1 x25.2.2.2.2.1.2.2) ∧ (cellH h97 (Addr.add a20 5) = some (.slice x25.2.2.2.2.2.1 x25.2.2.2.2.2.2.1 x25.2.2.2.2.2.2.2) ∧ (callT Tryd.prog 28 [.pointer r7.1, .agg #[.int .i64 x25.1, .int .i64 x25.2.1, .int .i64 x25.2.2.1, .slice x25.2.2.2.1.1 x25.2.2.2.1.2.1 x25.2.2.2.1.2.2, .slice x25.2.2.2.2.1.1 x25.2.2.2.2.1.2.1 x25.2.2.2.2.1.2.2, .slice x25.2.2.2.2.2.1 x25.2.2.2.2.2.2.1 x25.2.2.2.2.2.2.2]] [.agg [.int .i64, .int .i64, .slice]] (fun (r98 : (Int × Int × (Option Addr × Nat × Nat))) h99 =>
  newW (.cells (zeroC Tryd.prog 58) 58) (fun a100 h101 =>
  stLW a100 [.int .i64 r96.1, .int .i64 r96.2.1, .slice r96.2.2.1 r96.2.2.2.1 r96.2.2.2.2] (fun h102 =>
  stLW a94 [.int .i64 r98.1, .int .i64 r98.2.1, .slice r98.2.2.1 r98.2.2.2.1 r98.2.2.2.2] (fun h103 =>
  K23 ((some a100), (some a94)) h103) h102) h101) h99) h97) ∧
  (newW (.cells (zeroC Tryd.prog 58) 58) (fun a104 h105 =>
  callT Tryd.prog 28 [.pointer r7.1, .agg #[.int .i64 x25.1, .int .i64 x25.2.1, .int .i64 x25.2.2.1, .slice x25.2.2.2.1.1 x25.2.2.2.1.2.1 x25.2.2.2.1.2.2, .slice x25.2.2.2.2.1.1 x25.2.2.2.2.1.2.1 x25.2.2.2.2.1.2.2, .slice x25.2.2.2.2.2.1 x25.2.2.2.2.2.2.1 x25.2.2.2.2.2.2.2]] [.agg [.int .i64, .int .i64, .slice]] (fun (r106 : (Int × Int × (Option Addr × Nat × Nat))) h107 =>
  stLW a104 [.int .i64 r96.1, .int .i64 r96.2.1, .slice r96.2.2.1 r96.2.2.2.1 r96.2.2.2.2] (fun h108 =>
  stLW a94 [.int .i64 r106.1, .int .i64 r106.2.1, .slice r106.2.2.1 r106.2.2.2.1 r106.2.2.2.2] (fun h109 =>
  K23 ((some a104), (some a94)) h109) h108) h107) h105) h97)))))))) h95) ∧
  (newW (.cells (zeroC Tryd.prog 58) 58) (fun a110 h111 =>
  callT Tryd.prog 27 [.pointer r5.1, .agg #[.int .i64 x24.1, .int .i64 x24.2.1, .int .i64 x24.2.2.1, .slice x24.2.2.2.1.1 x24.2.2.2.1.2.1 x24.2.2.2.1.2.2, .slice x24.2.2.2.2.1.1 x24.2.2.2.2.1.2.1 x24.2.2.2.2.1.2.2, .slice x24.2.2.2.2.2.1 x24.2.2.2.2.2.2.1 x24.2.2.2.2.2.2.2]] [.agg [.int .i64, .int .i64, .slice]] (fun (r112 : (Int × Int × (Option Addr × Nat × Nat))) h113 =>
  (cellH h113 (Addr.add a20 0) = some (.int .i64 x25.1) ∧ (cellH h113 (Addr.add a20 1) = some (.int .i64 x25.2.1) ∧ (cellH h113 (Addr.add a20 2) = some (.int .i64 x25.2.2.1) ∧ (cellH h113 (Addr.add a20 3) = some (.slice x25.2.2.2.1.1 x25.2.2.2.1.2.1 x25.2.2.2.1.2.2) ∧ (cellH h113 (Addr.add a20 4) = some (.slice x25.2.2.2.2.1.1 x25.2.2.2.2.1.2.1 x25.2.2.2.2.1.2.2) ∧ (cellH h113 (Addr.add a20 5) = some (.slice x25.2.2.2.2.2.1 x25.2.2.2.2.2.2.1 x25.2.2.2.2.2.2.2) ∧ callT Tryd.prog 28 [.pointer r7.1, .agg #[.int .i64 x25.1, .int .i64 x25.2.1, .int .i64 x25.2.2.1, .slice x25.2.2.2.1.1 x25.2.2.2.1.2.1 x25.2.2.2.1.2.2, .slice x25.2.2.2.2.1.1 x25.2.2.2.2.1.2.1 x25.2.2.2.2.1.2.2, .slice x25.2.2.2.2.2.1 x25.2.2.2.2.2.2.1 x25.2.2.2.2.2.2.2]] [.agg [.int .i64, .int .i64, .slice]] (fun (r114 : (Int × Int × (Option Addr × Nat × Nat))) h115 =>
  stLW a110 [.int .i64 r112.1, .int .i64 r112.2.1, .slice r112.2.2.1 r112.2.2.2.1 r112.2.2.2.2] (fun h116 =>
  stLW a94 [.int .i64 r114.1, .int .i64 r114.2.1, .slice r114.2.2.1 r114.2.2.2.1 r114.2.2.2.2] (fun h117 =>
  K23 ((some a110), (some a94)) h117) h116) h115) h113))))))) h111) h95)) h118)) h118) h118) (fun (s119 : (Option Addr) × (Option Addr)) _ h120 =>
  ptrW s119.1 (fun a121 =>
  ldW (.int .i64) (Addr.add a121 0) (fun (x122 : Int) =>
  ptrW s119.2 (fun a123 =>
  ldW (.int .i64) (Addr.add a123 0) (fun (x124 : Int) =>
  br (x122 != x124)
  (K (.bool false) h120)
  (ptrW s119.1 (fun a125 =>
  ldW (.int .i64) (Addr.add a125 1) (fun (x126 : Int) =>
  ptrW s119.2 (fun a127 =>
  ldW (.int .i64) (Addr.add a127 1) (fun (x128 : Int) =>
  br (x126 != x128)
  (K (.bool false) h120)
  (ptrW s119.1 (fun a129 =>
  ldW .slice (Addr.add a129 2) (fun (x130 : Option Addr × Nat × Nat) =>
  ptrW s119.2 (fun a131 =>
  ldW .slice (Addr.add a131 2) (fun (x132 : Option Addr × Nat × Nat) =>
  callT Tryd.prog 19 [.slice x130.1 x130.2.1 x130.2.2, .slice x132.1 x132.2.1 x132.2.2] [.sc .bool] (fun (r133 : Bool) h134 =>
  br (!r133)
  (K (.bool false) h134)
  (callT Tryd.prog 29 [.pointer r5.1, .pointer r7.1] [.sc .bool] (fun (r135 : Bool) h136 =>
  br (!r135)
  (K (.bool false) h136)
  (K15 (IntKind.wrap .i64 (s16 + (1 : Int))) h136)) h134)) h120) h120)) h120))) h120)) h120))) h120)) h120)) h22) h21) h17) h17)))
  (callT Tryd.prog 30 [.pointer r5.1, .pointer r7.1] [.sc .bool] (fun (r137 : Bool) h138 =>
  K (.bool r137) h138) h17)) (0 : Int) h14)) h8) h6) h4)) h2)) h0)
set_option maxRecDepth 100000 in
theorem F6_eq (zones_0 : Int) (pageCount_1 : Int) (l_2 : Option Addr) (l_2l l_2c : Nat) (K : Value → Heap → Prop) (h0 : Heap) : funWE Tryd.prog 6 (.seq (.leaf) (.seq (.seq (.leaf) (.cond (.seq (.leaf) (.leaf)) (.leaf))) (.seq (.seq (.leaf) (.cond (.seq (.leaf) (.leaf)) (.leaf))) (.seq (.leaf) (.seq (.leaf) (.cut [] (.seq (.leaf) (.cond (.seq (.leaf) (.leaf)) (.leaf))) (.seq (.seq (.leaf) (.cond (.seq (.leaf) (.leaf)) (.leaf))) (.seq (.seq (.leaf) (.block (.loop [(46, .sc (.int .i64))] (.seq (.leaf) (.seq (.cond (.leaf) (.leaf)) (.seq (.block (.seq (.leaf) (.cut [(13, .sc .ptr), (14, .sc .ptr)] (.draw (odp [0, 1, 3, 4] (.fork 2 (.fork 5 (.fork 6 (odp [7, 8, 9] .nil) (.one 7 (odp [6, 8, 9] .nil))) (.fork 6 (.fork 5 (odp [7, 8, 9] .nil) (.one 7 (odp [5, 8, 9] .nil))) (.one 7 (.fork 5 (odp [6, 8, 9] .nil) (.one 6 (odp [5, 8, 9] .nil)))))) (.fork 6 (.fork 2 (.fork 5 (odp [7, 8, 9] .nil) (.one 7 (odp [5, 8, 9] .nil))) (.one 7 (odp [2, 5, 8, 9] .nil))) (.one 7 (.fork 2 (.fork 5 (odp [6, 8, 9] .nil) (.one 6 (odp [5, 8, 9] .nil))) (.one 6 (odp [2, 5, 8, 9] .nil))))))) [200004]) (.seq (.leaf) (.cond (.seq (.leaf) (.leaf)) (.leaf)))))) (.leaf))))))) (.seq (.leaf) (.leaf)))))))))) [.int .i64 zones_0, .int .i64 pageCount_1, .slice l_2 l_2l l_2c] K h0 = F6 zones_0 pageCount_1 l_2 l_2l l_2c K h0 := by kernel_rfl

-- function 7
set_option maxRecDepth 100000 in
def F7 (zones_0 : Int) (pageCount_1 : Int) (l_2 : Option Addr) (l_2l l_2c : Nat) (keep_3 : Option Addr) (keep_3l keep_3c : Nat) (tear_4 : Option Addr) (tear_4l tear_4c : Nat) (K : Value → Heap → Prop) (h0 : Heap) : Prop := (
  callT Tryd.prog 23 [] [.sc .bool] (fun (r1 : Bool) h2 =>
  br (!r1)
  (K (.bool false) h2)
  (callT Tryd.prog 25 [.int .i64 zones_0, .int .i64 pageCount_1] [.sc .ptr, .sc .any] (fun (r3 : (Option Addr) × Value) h4 =>
  cutT [] (fun (K5 : Unit → Heap → Prop) h8 =>
  br (Option.isNone r3.1)
  (K (.bool true) h8)
  (br (decide (zones_0 > (24 : Int)))
  (K (.bool true) h8)
  (callT Tryd.prog 24 [.slice l_2 l_2l l_2c] [.sc .bool] (fun (r6 : Bool) h7 =>
  br r6
  (K (.bool true) h7)
  (br (decide ((((keep_3l : Nat) : Int)) > (100 : Int)))
  (K (.bool true) h7)
  (br (decide ((((tear_4l : Nat) : Int)) > (100 : Int)))
  (K (.bool true) h7)
  (K5 () h7)))) h8))) (fun (_s9 : Unit) _ h10 =>
  newW (.cells #[] 56) (fun a11 h12 =>
  apW Tryd.prog #[45, 45] #[.slice (some a11) 0 0, .slice l_2 l_2l l_2c] (fun b13 n14 c15 h16 =>
  newW (.cells #[.int .i64 6, .int .i64 0, .int .i64 0, .slice none 0 0, .slice keep_3 keep_3l keep_3c, .slice tear_4 tear_4l tear_4c] 56) (fun a17 h18 =>
  apW Tryd.prog #[45, 45] #[.slice b13 n14 c15, .slice (some a17) 1 1] (fun b19 n20 _c21 h22 =>
  loopT [.sc .slice, .sc (.int .i64)] (fun (s24 : (Option Addr × Nat × Nat) × Int) _ (K23 : ((Option Addr × Nat × Nat) × Int) → Heap → Prop) h25 =>
  br (decide (s24.2 < (((n20 : Nat) : Int))))
  (ptrW b19 (fun a26 =>
  idxW s24.2 n20 true (ldAggW [.int .i64, .int .i64, .int .i64, .slice, .slice, .slice] (Addr.add a26 (Int.toNat s24.2 * 6)) (fun (x27 : Int × Int × Int × (Option Addr × Nat × Nat) × (Option Addr × Nat × Nat) × (Option Addr × Nat × Nat)) =>
  newW (.cells (zeroC Tryd.prog 56) 56) (fun a28 h29 =>
  stLW a28 [.int .i64 x27.1, .int .i64 x27.2.1, .int .i64 x27.2.2.1, .slice x27.2.2.2.1.1 x27.2.2.2.1.2.1 x27.2.2.2.1.2.2, .slice x27.2.2.2.2.1.1 x27.2.2.2.2.1.2.1 x27.2.2.2.2.1.2.2, .slice x27.2.2.2.2.2.1 x27.2.2.2.2.2.2.1 x27.2.2.2.2.2.2.2] (fun h30 =>
  mkW Tryd.prog 3 zones_0 zones_0 (fun b31 n32 _c33 h34 =>
  loopT [.sc (.int .i64)] (fun (s36 : Int) _ (K35 : Int → Heap → Prop) h37 =>
  br (decide (s36 < zones_0))
  (callT Tryd.prog 31 [.pointer r3.1, .int .i64 s36] [.sc (.int .i64)] (fun (r38 : Int) h39 =>
  ptrW b31 (fun a40 =>
  idxW s36 n32 true (stW (Addr.add a40 (Int.toNat s36 * 1)) (.int .i64 r38) (fun h41 =>
  K35 (IntKind.wrap .i64 (s36 + (1 : Int))) h41) h39))) h37)
  (ldAggW [.int .i64, .int .i64, .int .i64, .slice, .slice, .slice] a28 (fun (x42 : Int × Int × Int × (Option Addr × Nat × Nat) × (Option Addr × Nat × Nat) × (Option Addr × Nat × Nat)) =>
  callT Tryd.prog 27 [.pointer r3.1, .agg #[.int .i64 x42.1, .int .i64 x42.2.1, .int .i64 x42.2.2.1, .slice x42.2.2.2.1.1 x42.2.2.2.1.2.1 x42.2.2.2.1.2.2, .slice x42.2.2.2.2.1.1 x42.2.2.2.2.1.2.1 x42.2.2.2.2.1.2.2, .slice x42.2.2.2.2.2.1 x42.2.2.2.2.2.2.1 x42.2.2.2.2.2.2.2]] [.agg [.int .i64, .int .i64, .slice]] (fun (r43 : (Int × Int × (Option Addr × Nat × Nat))) h44 =>
  newW (.cells (zeroC Tryd.prog 58) 58) (fun a45 h46 =>
  stLW a45 [.int .i64 r43.1, .int .i64 r43.2.1, .slice r43.2.2.1 r43.2.2.2.1 r43.2.2.2.2] (fun h47 =>
  cutT [.sc .slice] (fun (K48 : ((Option Addr × Nat × Nat)) → Heap → Prop) h70 =>
  cutT [.sc .bool] (fun (K49 : Bool → Heap → Prop) h52 =>
  ldW (.int .i64) (Addr.add a28 0) (fun (x50 : Int) =>
  br (x50 == (0 : Int))
  (ldW (.int .i64) (Addr.add a45 1) (fun (x51 : Int) =>
  K49 (x51 == (0 : Int)) h52) h52)
  (K49 false h52)) h52) (fun (s53 : Bool) _ h54 =>
  br s53
  (ldW (.int .i64) (Addr.add a28 1) (fun (x55 : Int) =>
  ldW (.int .i64) (Addr.add a45 0) (fun (x56 : Int) =>
  ldW .slice (Addr.add a28 3) (fun (x57 : Option Addr × Nat × Nat) =>
  newW (.cells #[] 5) (fun a58 h59 =>
  apW Tryd.prog #[25, 25] #[.slice (some a58) 0 0, .slice x57.1 x57.2.1 x57.2.2] (fun b60 n61 c62 h63 =>
  (cellH h63 (Addr.add a45 0) = some (.int .i64 x56) ∧ (cellH h63 (Addr.add a28 1) = some (.int .i64 x55) ∧ newW (.cells #[.int .i64 x55, .int .i64 x56, .slice b60 n61 c62] 66) (fun a64 h65 =>
  apW Tryd.prog #[63, 63] #[.slice s24.1.1 s24.1.2.1 s24.1.2.2, .slice (some a64) 1 1] (fun b66 n67 c68 h69 =>
  (cellH h69 (Addr.add a45 0) = some (.int .i64 x56) ∧ (cellH h69 (Addr.add a28 1) = some (.int .i64 x55) ∧ K48 (b66, n67, c68) h69))) h65) h63))) h59) h54) h54) h54) h54)
  (K48 (s24.1.1, s24.1.2.1, s24.1.2.2) h54)) h70) (fun (s71 : (Option Addr × Nat × Nat)) _ h72 =>
  newW (.cells #[] 66) (fun a73 h74 =>
  loopT [.sc .slice, .sc (.int .i64)] (fun (s76 : (Option Addr × Nat × Nat) × Int) _ (K75 : ((Option Addr × Nat × Nat) × Int) → Heap → Prop) h77 =>
  br (decide (s76.2 < (((s71.2.1 : Nat) : Int))))
  (ptrW s71.1 (fun a78 =>
  idxW s76.2 s71.2.1 true (ldAggW [.int .i64, .int .i64, .slice] (Addr.add a78 (Int.toNat s76.2 * 3)) (fun (x79 : Int × Int × (Option Addr × Nat × Nat)) =>
  newW (.cells (zeroC Tryd.prog 66) 66) (fun a80 h81 =>
  stLW a80 [.int .i64 x79.1, .int .i64 x79.2.1, .slice x79.2.2.1 x79.2.2.2.1 x79.2.2.2.2] (fun h82 =>
  cutT [.sc .bool] (fun (K83 : Bool → Heap → Prop) h100 =>
  ldW (.int .i64) (Addr.add a28 0) (fun (x84 : Int) =>
  br (x84 != (2 : Int))
  (ldW (.int .i64) (Addr.add a80 1) (fun (x85 : Int) =>
  ldW (.int .i64) (Addr.add a80 0) (fun (x86 : Int) =>
  callT Tryd.prog 32 [.pointer r3.1, .int .i64 x86] [.sc (.int .i64)] (fun (r87 : Int) h88 =>
  (cellH h88 (Addr.add a80 1) = some (.int .i64 x85) ∧ K83 (decide (x85 < r87)) h88)) h100) h100) h100)
  (ldW (.int .i64) (Addr.add a45 1) (fun (x89 : Int) =>
  br (x89 != (0 : Int))
  (ldW (.int .i64) (Addr.add a80 1) (fun (x90 : Int) =>
  ldW (.int .i64) (Addr.add a80 0) (fun (x91 : Int) =>
  callT Tryd.prog 32 [.pointer r3.1, .int .i64 x91] [.sc (.int .i64)] (fun (r92 : Int) h93 =>
  (cellH h93 (Addr.add a80 1) = some (.int .i64 x90) ∧ K83 (decide (x90 < r92)) h93)) h100) h100) h100)
  (ldW (.int .i64) (Addr.add a80 0) (fun (x94 : Int) =>
  ldW (.int .i64) (Addr.add a28 1) (fun (x95 : Int) =>
  br (x94 != x95)
  (ldW (.int .i64) (Addr.add a80 1) (fun (x96 : Int) =>
  ldW (.int .i64) (Addr.add a80 0) (fun (x97 : Int) =>
  callT Tryd.prog 32 [.pointer r3.1, .int .i64 x97] [.sc (.int .i64)] (fun (r98 : Int) h99 =>
  (cellH h99 (Addr.add a80 1) = some (.int .i64 x96) ∧ K83 (decide (x96 < r98)) h99)) h100) h100) h100)
  (K83 false h100)) h100) h100)) h100)) h100) (fun (s101 : Bool) _ h102 =>
  br s101
  (ldAggW [.int .i64, .int .i64, .slice] a80 (fun (x103 : Int × Int × (Option Addr × Nat × Nat)) =>
  newW (.cells #[.int .i64 x103.1, .int .i64 x103.2.1, .slice x103.2.2.1 x103.2.2.2.1 x103.2.2.2.2] 66) (fun a104 h105 =>
  apW Tryd.prog #[63, 63] #[.slice s76.1.1 s76.1.2.1 s76.1.2.2, .slice (some a104) 1 1] (fun b106 n107 c108 h109 =>
  K75 ((b106, n107, c108), (IntKind.wrap .i64 (s76.2 + (1 : Int)))) h109) h105) h102) h102)
  (K75 ((s76.1.1, s76.1.2.1, s76.1.2.2), (IntKind.wrap .i64 (s76.2 + (1 : Int)))) h102)) h82) h81) h77) h77)))
  (loopT [.sc (.int .i64)] (fun (s111 : Int) _ (K110 : Int → Heap → Prop) h112 =>
  br (decide (s111 < zones_0))
  (ldW (.int .i64) (Addr.add a28 0) (fun (x113 : Int) =>
  br (x113 != (2 : Int))
  (ptrW b31 (fun a114 =>
  idxW s111 n32 true (ldW (.int .i64) (Addr.add a114 (Int.toNat s111 * 1)) (fun (x115 : Int) =>
  callT Tryd.prog 31 [.pointer r3.1, .int .i64 s111] [.sc (.int .i64)] (fun (r116 : Int) h117 =>
  (cellH h117 (Addr.add a114 (Int.toNat s111 * 1)) = some (.int .i64 x115) ∧ br (decide (r116 < x115))
  (K (.bool false) h117)
  (callT Tryd.prog 31 [.pointer r3.1, .int .i64 s111] [.sc (.int .i64)] (fun (r118 : Int) h119 =>
  (cellH h119 (Addr.add a114 (Int.toNat s111 * 1)) = some (.int .i64 x115) ∧ callT Tryd.prog 32 [.pointer r3.1, .int .i64 s111] [.sc (.int .i64)] (fun (r120 : Int) h121 =>
  (cellH h121 (Addr.add a114 (Int.toNat s111 * 1)) = some (.int .i64 x115) ∧ br (decide (r118 > r120))
  (K (.bool false) h121)
  (ldW (.int .i64) (Addr.add a28 0) (fun (x122 : Int) =>
  br (x122 == (6 : Int))
  (callT Tryd.prog 31 [.pointer r3.1, .int .i64 s111] [.sc (.int .i64)] (fun (r123 : Int) h124 =>
  (cellH h124 (Addr.add a114 (Int.toNat s111 * 1)) = some (.int .i64 x115) ∧ callT Tryd.prog 32 [.pointer r3.1, .int .i64 s111] [.sc (.int .i64)] (fun (r125 : Int) h126 =>
  (cellH h126 (Addr.add a114 (Int.toNat s111 * 1)) = some (.int .i64 x115) ∧ br (r123 != r125)
  (K (.bool false) h126)
  (K110 (IntKind.wrap .i64 (s111 + (1 : Int))) h126))) h124)) h121)
  (K110 (IntKind.wrap .i64 (s111 + (1 : Int))) h121)) h121))) h119)) h117))) h112) h112)))
  (callT Tryd.prog 31 [.pointer r3.1, .int .i64 s111] [.sc (.int .i64)] (fun (r127 : Int) h128 =>
  callT Tryd.prog 32 [.pointer r3.1, .int .i64 s111] [.sc (.int .i64)] (fun (r129 : Int) h130 =>
  br (decide (r127 > r129))
  (K (.bool false) h130)
  (ldW (.int .i64) (Addr.add a28 0) (fun (x131 : Int) =>
  br (x131 == (6 : Int))
  (callT Tryd.prog 31 [.pointer r3.1, .int .i64 s111] [.sc (.int .i64)] (fun (r132 : Int) h133 =>
  callT Tryd.prog 32 [.pointer r3.1, .int .i64 s111] [.sc (.int .i64)] (fun (r134 : Int) h135 =>
  br (r132 != r134)
  (K (.bool false) h135)
  (K110 (IntKind.wrap .i64 (s111 + (1 : Int))) h135)) h133) h130)
  (K110 (IntKind.wrap .i64 (s111 + (1 : Int))) h130)) h130)) h128) h112)) h112)
  (K23 ((s76.1.1, s76.1.2.1, s76.1.2.2), (IntKind.wrap .i64 (s24.2 + (1 : Int)))) h112)) (0 : Int) h77)) (((some a73), 0, 0), (0 : Int)) h74) h72) h47) h46) h44) h37) h37)) (0 : Int) h34) h30) h29) h25) h25)))
  (loopT [.sc (.int .i64)] (fun (s137 : Int) _ (K136 : Int → Heap → Prop) h138 =>
  br (decide (s137 < (((s24.1.2.1 : Nat) : Int))))
  (ptrW s24.1.1 (fun a139 =>
  idxW s137 s24.1.2.1 true (ldAggW [.int .i64, .int .i64, .slice] (Addr.add a139 (Int.toNat s137 * 3)) (fun (x140 : Int × Int × (Option Addr × Nat × Nat)) =>
  newW (.cells (zeroC Tryd.prog 66) 66) (fun a141 h142 =>
  stLW a141 [.int .i64 x140.1, .int .i64 x140.2.1, .slice x140.2.2.1 x140.2.2.2.1 x140.2.2.2.2] (fun h143 =>
  ldW (.int .i64) (Addr.add a141 0) (fun (x144 : Int) =>
  ldW (.int .i64) (Addr.add a141 1) (fun (x145 : Int) =>
  callT Tryd.prog 33 [.pointer r3.1, .int .i64 x144, .int .i64 x145] [.sc .slice, .sc .any] (fun (r146 : (Option Addr × Nat × Nat) × Value) h147 =>
  callT Tryd.prog 20 [r146.2] [.sc (.int .i64)] (fun (r148 : Int) h149 =>
  br (r148 != (6 : Int))
  (br (r148 != (0 : Int))
  (K (.bool false) h149)
  (ldW .slice (Addr.add a141 2) (fun (x150 : Option Addr × Nat × Nat) =>
  callT Tryd.prog 19 [.slice r146.1.1 r146.1.2.1 r146.1.2.2, .slice x150.1 x150.2.1 x150.2.2] [.sc .bool] (fun (r151 : Bool) h152 =>
  br (!r151)
  (K (.bool false) h152)
  (K136 (IntKind.wrap .i64 (s137 + (1 : Int))) h152)) h149) h149))
  (K136 (IntKind.wrap .i64 (s137 + (1 : Int))) h149)) h147) h143) h143) h143) h142) h138) h138)))
  (callT Tryd.prog 34 [.pointer r3.1] [.sc .bool] (fun (r153 : Bool) h154 =>
  K (.bool (!r153)) h154) h138)) (0 : Int) h25)) ((none, 0, 0), (0 : Int)) h22) h18) h16) h12) h10) h4) h2)) h0)
set_option maxRecDepth 100000 in
theorem F7_eq (zones_0 : Int) (pageCount_1 : Int) (l_2 : Option Addr) (l_2l l_2c : Nat) (keep_3 : Option Addr) (keep_3l keep_3c : Nat) (tear_4 : Option Addr) (tear_4l tear_4c : Nat) (K : Value → Heap → Prop) (h0 : Heap) : funWE Tryd.prog 7 (.seq (.leaf) (.seq (.seq (.leaf) (.cond (.seq (.leaf) (.leaf)) (.leaf))) (.seq (.leaf) (.cut [] (.seq (.leaf) (.cond (.seq (.leaf) (.leaf)) (.leaf))) (.seq (.leaf) (.seq (.seq (.leaf) (.block (.loop [(13, .sc .slice), (65, .sc (.int .i64))] (.seq (.leaf) (.seq (.cond (.leaf) (.leaf)) (.seq (.block (.seq (.leaf) (.seq (.leaf) (.seq (.seq (.leaf) (.block (.loop [(72, .sc (.int .i64))] (.seq (.leaf) (.seq (.cond (.leaf) (.leaf)) (.seq (.block (.seq (.leaf) (.leaf))) (.leaf))))))) (.seq (.leaf) (.cut [(13, .sc .slice)] (.cut [(92, .sc .bool)] (.leaf) (.cond (.draw (odp [0, 1, 2, 3, 4, 6, 7, 5, 8, 9, 10, 11, 12] .nil) [200002, 200004]) (.leaf))) (.seq (.leaf) (.seq (.seq (.leaf) (.block (.loop [(19, .sc .slice), (108, .sc (.int .i64))] (.seq (.leaf) (.seq (.cond (.leaf) (.leaf)) (.seq (.block (.seq (.leaf) (.cut [(135, .sc .bool)] (.draw (odp [0, 1, 2, 3, 4, 5, 6, 7, 8, 9, 10, 11, 12, 13, 14, 15, 16, 17, 18, 19, 20, 21, 22, 23] .nil) [200017]) (.cond (.leaf) (.leaf))))) (.leaf))))))) (.seq (.leaf) (.seq (.leaf) (.block (.loop [(143, .sc (.int .i64))] (.seq (.leaf) (.seq (.cond (.leaf) (.leaf)) (.seq (.block (.seq (.leaf) (.seq (.draw (odp [0, 1, 2, 3, 4, 5, 7, 8, 9, 10, 6, 11, 12, 13, 14, 15, 17, 18, 16, 19, 20, 21, 22, 23, 24, 25, 26, 27, 28, 30, 31, 29, 32, 33, 34, 35] .nil) [200010]) (.cond (.seq (.leaf) (.leaf)) (.leaf))))) (.leaf)))))))))))))))) (.leaf))))))) (.seq (.seq (.leaf) (.block (.loop [(186, .sc (.int .i64))] (.seq (.leaf) (.seq (.cond (.leaf) (.leaf)) (.seq (.block (.seq (.leaf) (.seq (.leaf) (.seq (.leaf) (.seq (.leaf) (.cond (.seq (.leaf) (.leaf)) (.leaf))))))) (.leaf))))))) (.seq (.leaf) (.leaf))))))))) [.int .i64 zones_0, .int .i64 pageCount_1, .slice l_2 l_2l l_2c, .slice keep_3 keep_3l keep_3c, .slice tear_4 tear_4l tear_4c] K h0 = F7 zones_0 pageCount_1 l_2 l_2l l_2c keep_3 keep_3l keep_3c tear_4 tear_4l tear_4c K h0 := by kernel_rfl

-- function 8
set_option maxRecDepth 100000 in
def F8 (zones_0 : Int) (pageCount_1 : Int) (fuse_2 : Int) (l_3 : Option Addr) (l_3l l_3c : Nat) (K : Value → Heap → Prop) (h0 : Heap) : Prop := (
  callT Tryd.prog 23 [] [.sc .bool] (fun (r1 : Bool) h2 =>
  br (!r1)
  (K (.bool false) h2)
  (callT Tryd.prog 25 [.int .i64 zones_0, .int .i64 pageCount_1] [.sc .ptr, .sc .any] (fun (r3 : (Option Addr) × Value) h4 =>
  cutT [] (fun (K5 : Unit → Heap → Prop) h8 =>
  br (Option.isNone r3.1)
  (K (.bool true) h8)
  (callT Tryd.prog 24 [.slice l_3 l_3l l_3c] [.sc .bool] (fun (r6 : Bool) h7 =>
  br r6
  (K (.bool true) h7)
  (br (decide (fuse_2 < (0 : Int)))
  (K (.bool true) h7)
  (K5 () h7))) h8)) (fun (_s9 : Unit) _ h10 =>
  callT Tryd.prog 35 [.pointer r3.1, .int .i64 fuse_2] [] (fun (_r11 : Unit) h12 =>
  loopT [.sc (.int .i64), .sc (.int .i64)] (fun (s14 : Int × Int) _ (K13 : (Int × Int) → Heap → Prop) h15 =>
  br (decide (s14.2 < (((l_3l : Nat) : Int))))
  (ptrW l_3 (fun a16 =>
  idxW s14.2 l_3l true (ldAggW [.int .i64, .int .i64, .int .i64, .slice, .slice, .slice] (Addr.add a16 (Int.toNat s14.2 * 6)) (fun (x17 : Int × Int × Int × (Option Addr × Nat × Nat) × (Option Addr × Nat × Nat) × (Option Addr × Nat × Nat)) =>
  newW (.cells (zeroC Tryd.prog 56) 56) (fun a18 h19 =>
  stLW a18 [.int .i64 x17.1, .int .i64 x17.2.1, .int .i64 x17.2.2.1, .slice x17.2.2.2.1.1 x17.2.2.2.1.2.1 x17.2.2.2.1.2.2, .slice x17.2.2.2.2.1.1 x17.2.2.2.2.1.2.1 x17.2.2.2.2.1.2.2, .slice x17.2.2.2.2.2.1 x17.2.2.2.2.2.2.1 x17.2.2.2.2.2.2.2] (fun h20 =>
  cutT [] (fun (K21 : Unit → Heap → Prop) h24 =>
  ldW (.int .i64) (Addr.add a18 0) (fun (x22 : Int) =>
  br (decide (x22 < (0 : Int)))
  (K13 (s14.1, (IntKind.wrap .i64 (s14.2 + (1 : Int)))) h24)
  (ldW (.int .i64) (Addr.add a18 0) (fun (x23 : Int) =>
  br (decide (x23 > (4 : Int)))
  (K13 (s14.1, (IntKind.wrap .i64 (s14.2 + (1 : Int)))) h24)
  (K21 () h24)) h24)) h24) (fun (_s25 : Unit) _ h26 =>
  callT Tryd.prog 34 [.pointer r3.1] [.sc .bool] (fun (r27 : Bool) h28 =>
  loopT [.sc (.int .i64), .sc (.int .i64)] (fun (s30 : Int × Int) _ (K29 : (Int × Int) → Heap → Prop) h31 =>
  br (decide (s30.2 < zones_0))
  (callT Tryd.prog 32 [.pointer r3.1, .int .i64 s30.2] [.sc (.int .i64)] (fun (r32 : Int) h33 =>
  K29 ((IntKind.wrap .i64 (s30.1 + r32)), (IntKind.wrap .i64 (s30.2 + (1 : Int)))) h33) h31)
  (ldAggW [.int .i64, .int .i64, .int .i64, .slice, .slice, .slice] a18 (fun (x34 : Int × Int × Int × (Option Addr × Nat × Nat) × (Option Addr × Nat × Nat) × (Option Addr × Nat × Nat)) =>
  callT Tryd.prog 27 [.pointer r3.1, .agg #[.int .i64 x34.1, .int .i64 x34.2.1, .int .i64 x34.2.2.1, .slice x34.2.2.2.1.1 x34.2.2.2.1.2.1 x34.2.2.2.1.2.2, .slice x34.2.2.2.2.1.1 x34.2.2.2.2.1.2.1 x34.2.2.2.2.1.2.2, .slice x34.2.2.2.2.2.1 x34.2.2.2.2.2.2.1 x34.2.2.2.2.2.2.2]] [.agg [.int .i64, .int .i64, .slice]] (fun (r35 : (Int × Int × (Option Addr × Nat × Nat))) h36 =>
  newW (.cells (zeroC Tryd.prog 58) 58) (fun a37 h38 =>
  stLW a37 [.int .i64 r35.1, .int .i64 r35.2.1, .slice r35.2.2.1 r35.2.2.2.1 r35.2.2.2.2] (fun h39 =>
  cutT [.sc (.int .i64)] (fun (K40 : Int → Heap → Prop) h43 =>
  ldW (.int .i64) (Addr.add a18 0) (fun (x41 : Int) =>
  br (x41 != (1 : Int))
  (ldW (.int .i64) (Addr.add a37 1) (fun (x42 : Int) =>
  br (x42 == (0 : Int))
  (K40 (IntKind.wrap .i64 (s14.1 + (1 : Int))) h43)
  (K40 s14.1 h43)) h43)
  (K40 s14.1 h43)) h43) (fun (s44 : Int) _ h45 =>
  cutT [] (fun (K46 : Unit → Heap → Prop) h58 =>
  br r27
  (ldW (.int .i64) (Addr.add a37 1) (fun (x47 : Int) =>
  br (x47 != (7 : Int))
  (K (.bool false) h58)
  (br (decide (s44 > fuse_2))
  (K (.bool false) h58)
  (callT Tryd.prog 36 [.pointer r3.1] [.sc (.int .i64)] (fun (r48 : Int) h49 =>
  br (r48 != s44)
  (K (.bool false) h49)
  (ldW (.int .i64) (Addr.add a37 1) (fun (x50 : Int) =>
  br (x50 == (7 : Int))
  (callT Tryd.prog 34 [.pointer r3.1] [.sc .bool] (fun (r51 : Bool) h52 =>
  br (!r51)
  (K (.bool false) h52)
  (br (s44 != fuse_2)
  (K (.bool false) h52)
  (K46 () h52))) h49)
  (K46 () h49)) h49)) h58))) h58)
  (br (decide (s44 > fuse_2))
  (K (.bool false) h58)
  (callT Tryd.prog 36 [.pointer r3.1] [.sc (.int .i64)] (fun (r53 : Int) h54 =>
  br (r53 != s44)
  (K (.bool false) h54)
  (ldW (.int .i64) (Addr.add a37 1) (fun (x55 : Int) =>
  br (x55 == (7 : Int))
  (callT Tryd.prog 34 [.pointer r3.1] [.sc .bool] (fun (r56 : Bool) h57 =>
  br (!r56)
  (K (.bool false) h57)
  (br (s44 != fuse_2)
  (K (.bool false) h57)
  (K46 () h57))) h54)
  (K46 () h54)) h54)) h58))) (fun (_s59 : Unit) _ h60 =>
  loopT [.sc (.int .i64), .sc (.int .i64)] (fun (s62 : Int × Int) _ (K61 : (Int × Int) → Heap → Prop) h63 =>
  br (decide (s62.2 < zones_0))
  (callT Tryd.prog 32 [.pointer r3.1, .int .i64 s62.2] [.sc (.int .i64)] (fun (r64 : Int) h65 =>
  K61 ((IntKind.wrap .i64 (s62.1 + r64)), (IntKind.wrap .i64 (s62.2 + (1 : Int)))) h65) h63)
  (ldW (.int .i64) (Addr.add a37 1) (fun (x66 : Int) =>
  br (x66 != (0 : Int))
  (br (s62.1 != s30.1)
  (K (.bool false) h63)
  (K13 (s44, (IntKind.wrap .i64 (s14.2 + (1 : Int)))) h63))
  (K13 (s44, (IntKind.wrap .i64 (s14.2 + (1 : Int)))) h63)) h63)) ((0 : Int), (0 : Int)) h60) h45) h39) h38) h36) h31) h31)) ((0 : Int), (0 : Int)) h28) h26) h20) h19) h15) h15)))
  (callT Tryd.prog 37 [.pointer r3.1, .slice none 0 0, .slice none 0 0] [] (fun (_r67 : Unit) h68 =>
  callT Tryd.prog 34 [.pointer r3.1] [.sc .bool] (fun (r69 : Bool) h70 =>
  br (!r69)
  (callT Tryd.prog 38 [.pointer r3.1] [.sc .any] (fun (r71 : Value) h72 =>
  ifW r71 (K (.bool (isNilV r71)) h72)) h70)
  (K (.bool false) h70)) h68) h15)) ((0 : Int), (0 : Int)) h12) h10) h4) h2)) h0)
set_option maxRecDepth 100000 in
theorem F8_eq (zones_0 : Int) (pageCount_1 : Int) (fuse_2 : Int) (l_3 : Option Addr) (l_3l l_3c : Nat) (K : Value → Heap → Prop) (h0 : Heap) : funWE Tryd.prog 8 (.seq (.leaf) (.seq (.seq (.leaf) (.cond (.seq (.leaf) (.leaf)) (.leaf))) (.seq (.leaf) (.cut [] (.seq (.leaf) (.cond (.seq (.leaf) (.leaf)) (.leaf))) (.seq (.leaf) (.seq (.leaf) (.seq (.seq (.leaf) (.block (.loop [(11, .sc (.int .i64)), (43, .sc (.int .i64))] (.seq (.leaf) (.seq (.cond (.leaf) (.leaf)) (.seq (.block (.seq (.leaf) (.cut [] (.seq (.leaf) (.cond (.leaf) (.leaf))) (.seq (.leaf) (.seq (.leaf) (.seq (.seq (.leaf) (.block (.loop [(15, .sc (.int .i64)), (58, .sc (.int .i64))] (.seq (.leaf) (.seq (.cond (.leaf) (.leaf)) (.seq (.block (.seq (.leaf) (.leaf))) (.leaf))))))) (.seq (.leaf) (.cut [(11, .sc (.int .i64))] (.seq (.leaf) (.cond (.leaf) (.leaf))) (.cut [] (.seq (.leaf) (.cond (.seq (.leaf) (.leaf)) (.leaf))) (.seq (.leaf) (.seq (.seq (.leaf) (.block (.loop [(18, .sc (.int .i64)), (113, .sc (.int .i64))] (.seq (.leaf) (.seq (.cond (.leaf) (.leaf)) (.seq (.block (.seq (.leaf) (.leaf))) (.leaf))))))) (.seq (.leaf) (.cond (.seq (.leaf) (.leaf)) (.leaf)))))))))))))) (.leaf))))))) (.seq (.leaf) (.seq (.leaf) (.leaf)))))))))) [.int .i64 zones_0, .int .i64 pageCount_1, .int .i64 fuse_2, .slice l_3 l_3l l_3c] K h0 = F8 zones_0 pageCount_1 fuse_2 l_3 l_3l l_3c K h0 := by kernel_rfl

-- function 9
set_option maxRecDepth 100000 in
def F9 (zones_0 : Int) (pageCount_1 : Int) (l_2 : Option Addr) (l_2l l_2c : Nat) (one_3_0 : Int) (one_3_1 : Int) (one_3_2 : Int) (one_3_3 : Option Addr) (one_3_3l one_3_3c : Nat) (one_3_4 : Option Addr) (one_3_4l one_3_4c : Nat) (one_3_5 : Option Addr) (one_3_5l one_3_5c : Nat) (two_4_0 : Int) (two_4_1 : Int) (two_4_2 : Int) (two_4_3 : Option Addr) (two_4_3l two_4_3c : Nat) (two_4_4 : Option Addr) (two_4_4l two_4_4c : Nat) (two_4_5 : Option Addr) (two_4_5l two_4_5c : Nat) (K : Value → Heap → Prop) (h0 : Heap) : Prop := (
  newW (.cells #[.int .i64 one_3_0, .int .i64 one_3_1, .int .i64 one_3_2, .slice one_3_3 one_3_3l one_3_3c, .slice one_3_4 one_3_4l one_3_4c, .slice one_3_5 one_3_5l one_3_5c] 56) (fun a1 h2 =>
  newW (.cells #[.int .i64 two_4_0, .int .i64 two_4_1, .int .i64 two_4_2, .slice two_4_3 two_4_3l two_4_3c, .slice two_4_4 two_4_4l two_4_4c, .slice two_4_5 two_4_5l two_4_5c] 56) (fun a3 h4 =>
  callT Tryd.prog 23 [] [.sc .bool] (fun (r5 : Bool) h6 =>
  br (!r5)
  (K (.bool false) h6)
  (callT Tryd.prog 25 [.int .i64 zones_0, .int .i64 pageCount_1] [.sc .ptr, .sc .any] (fun (r7 : (Option Addr) × Value) h8 =>
  cutT [] (fun (K9 : Unit → Heap → Prop) h18 =>
  br (Option.isNone r7.1)
  (K (.bool true) h18)
  (callT Tryd.prog 24 [.slice l_2 l_2l l_2c] [.sc .bool] (fun (r10 : Bool) h11 =>
  br r10
  (K (.bool true) h11)
  (ldAggW [.int .i64, .int .i64, .int .i64, .slice, .slice, .slice] a1 (fun (x12 : Int × Int × Int × (Option Addr × Nat × Nat) × (Option Addr × Nat × Nat) × (Option Addr × Nat × Nat)) =>
  ldAggW [.int .i64, .int .i64, .int .i64, .slice, .slice, .slice] a3 (fun (x13 : Int × Int × Int × (Option Addr × Nat × Nat) × (Option Addr × Nat × Nat) × (Option Addr × Nat × Nat)) =>
  newW (.cells #[.int .i64 x12.1, .int .i64 x12.2.1, .int .i64 x12.2.2.1, .slice x12.2.2.2.1.1 x12.2.2.2.1.2.1 x12.2.2.2.1.2.2, .slice x12.2.2.2.2.1.1 x12.2.2.2.2.1.2.1 x12.2.2.2.2.1.2.2, .slice x12.2.2.2.2.2.1 x12.2.2.2.2.2.2.1 x12.2.2.2.2.2.2.2, .int .i64 x13.1, .int .i64 x13.2.1, .int .i64 x13.2.2.1, .slice x13.2.2.2.1.1 x13.2.2.2.1.2.1 x13.2.2.2.1.2.2, .slice x13.2.2.2.2.1.1 x13.2.2.2.2.1.2.1 x13.2.2.2.2.1.2.2, .slice x13.2.2.2.2.2.1 x13.2.2.2.2.2.2.1 x13.2.2.2.2.2.2.2] 56) (fun a14 h15 =>
  callT Tryd.prog 24 [.slice (some a14) 2 2] [.sc .bool] (fun (r16 : Bool) h17 =>
  br r16
  (K (.bool true) h17)
  (K9 () h17)) h15) h11) h11) h11)) h18)) (fun (_s19 : Unit) _ h20 =>
  loopT [.sc (.int .i64)] (fun (s22 : Int) _ (K21 : Int → Heap → Prop) h23 =>
  br (decide (s22 < (((l_2l : Nat) : Int))))
  (ptrW l_2 (fun a24 =>
  idxW s22 l_2l true (ldAggW [.int .i64, .int .i64, .int .i64, .slice, .slice, .slice] (Addr.add a24 (Int.toNat s22 * 6)) (fun (x25 : Int × Int × Int × (Option Addr × Nat × Nat) × (Option Addr × Nat × Nat) × (Option Addr × Nat × Nat)) =>
  newW (.cells (zeroC Tryd.prog 56) 56) (fun a26 h27 =>
  stLW a26 [.int .i64 x25.1, .int .i64 x25.2.1, .int .i64 x25.2.2.1, .slice x25.2.2.2.1.1 x25.2.2.2.1.2.1 x25.2.2.2.1.2.2, .slice x25.2.2.2.2.1.1 x25.2.2.2.2.1.2.1 x25.2.2.2.2.1.2.2, .slice x25.2.2.2.2.2.1 x25.2.2.2.2.2.2.1 x25.2.2.2.2.2.2.2] (fun h28 =>
  ldAggW [.int .i64, .int .i64, .int .i64, .slice, .slice, .slice] a26 (fun (x29 : Int × Int × Int × (Option Addr × Nat × Nat) × (Option Addr × Nat × Nat) × (Option Addr × Nat × Nat)) =>
  callT Tryd.prog 27 [.pointer r7.1, .agg #[.int .i64 x29.1, .int .i64 x29.2.1, .int .i64 x29.2.2.1, .slice x29.2.2.2.1.1 x29.2.2.2.1.2.1 x29.2.2.2.1.2.2, .slice x29.2.2.2.2.1.1 x29.2.2.2.2.1.2.1 x29.2.2.2.2.1.2.2, .slice x29.2.2.2.2.2.1 x29.2.2.2.2.2.2.1 x29.2.2.2.2.2.2.2]] [.agg [.int .i64, .int .i64, .slice]] (fun (_r30 : (Int × Int × (Option Addr × Nat × Nat))) h31 =>
  K21 (IntKind.wrap .i64 (s22 + (1 : Int))) h31) h28) h28) h27) h23) h23)))
  (ldW .slice (Addr.add a1 4) (fun (x32 : Option Addr × Nat × Nat) =>
  ldW .slice (Addr.add a1 5) (fun (x33 : Option Addr × Nat × Nat) =>
  callT Tryd.prog 37 [.pointer r7.1, .slice x32.1 x32.2.1 x32.2.2, .slice x33.1 x33.2.1 x33.2.2] [] (fun (_r34 : Unit) h35 =>
  loopT [.sc (.int .i64)] (fun (s37 : Int) _ (K36 : Int → Heap → Prop) h38 =>
  br (decide (s37 < zones_0))
  (callT Tryd.prog 39 [.pointer r7.1, .int .i64 s37] [.sc .slice, .agg [.int .i64, .int .i64, .int .i64]] (fun (r39 : (Option Addr × Nat × Nat) × (Int × Int × Int)) h40 =>
  newW (.cells (zeroC Tryd.prog 74) 74) (fun a41 h42 =>
  stLW a41 [.int .i64 r39.2.1, .int .i64 r39.2.2.1, .int .i64 r39.2.2.2] (fun h43 =>
  ldW .slice (Addr.add a3 4) (fun (x44 : Option Addr × Nat × Nat) =>
  ldW .slice (Addr.add a3 5) (fun (x45 : Option Addr × Nat × Nat) =>
  callT Tryd.prog 37 [.pointer r7.1, .slice x44.1 x44.2.1 x44.2.2, .slice x45.1 x45.2.1 x45.2.2] [] (fun (_r46 : Unit) h47 =>
  callT Tryd.prog 39 [.pointer r7.1, .int .i64 s37] [.sc .slice, .agg [.int .i64, .int .i64, .int .i64]] (fun (r48 : (Option Addr × Nat × Nat) × (Int × Int × Int)) h49 =>
  newW (.cells (zeroC Tryd.prog 74) 74) (fun a50 h51 =>
  stLW a50 [.int .i64 r48.2.1, .int .i64 r48.2.2.1, .int .i64 r48.2.2.2] (fun h52 =>
  callT Tryd.prog 19 [.slice r39.1.1 r39.1.2.1 r39.1.2.2, .slice r48.1.1 r48.1.2.1 r48.1.2.2] [.sc .bool] (fun (r53 : Bool) h54 =>
  br (!r53)
  (K (.bool false) h54)
  (ldAggW [.int .i64, .int .i64, .int .i64] a41 (fun (x55 : Int × Int × Int) =>
  ldAggW [.int .i64, .int .i64, .int .i64] a50 (fun (x56 : Int × Int × Int) =>
  eqGen Tryd.prog 74 (.agg #[.int .i64 x55.1, .int .i64 x55.2.1, .int .i64 x55.2.2]) (.agg #[.int .i64 x56.1, .int .i64 x56.2.1, .int .i64 x56.2.2]) (fun b57 =>
  br (!b57)
  (K (.bool false) h54)
  (K36 (IntKind.wrap .i64 (s37 + (1 : Int))) h54))) h54) h54)) h52) h51) h49) h47) h43) h43) h43) h42) h40) h38)
  (K (.bool true) h38)) (0 : Int) h35) h23) h23) h23)) (0 : Int) h20) h8) h6)) h4) h2) h0)
set_option maxRecDepth 100000 in
theorem F9_eq (zones_0 : Int) (pageCount_1 : Int) (l_2 : Option Addr) (l_2l l_2c : Nat) (one_3_0 : Int) (one_3_1 : Int) (one_3_2 : Int) (one_3_3 : Option Addr) (one_3_3l one_3_3c : Nat) (one_3_4 : Option Addr) (one_3_4l one_3_4c : Nat) (one_3_5 : Option Addr) (one_3_5l one_3_5c : Nat) (two_4_0 : Int) (two_4_1 : Int) (two_4_2 : Int) (two_4_3 : Option Addr) (two_4_3l two_4_3c : Nat) (two_4_4 : Option Addr) (two_4_4l two_4_4c : Nat) (two_4_5 : Option Addr) (two_4_5l two_4_5c : Nat) (K : Value → Heap → Prop) (h0 : Heap) : funWE Tryd.prog 9 (.seq (.leaf) (.seq (.seq (.leaf) (.cond (.seq (.leaf) (.leaf)) (.leaf))) (.seq (.leaf) (.cut [] (.seq (.leaf) (.cond (.seq (.leaf) (.leaf)) (.leaf))) (.seq (.seq (.leaf) (.block (.loop [(42, .sc (.int .i64))] (.seq (.leaf) (.seq (.cond (.leaf) (.leaf)) (.seq (.block (.seq (.leaf) (.leaf))) (.leaf))))))) (.seq (.leaf) (.seq (.seq (.leaf) (.block (.loop [(57, .sc (.int .i64))] (.seq (.leaf) (.seq (.cond (.leaf) (.leaf)) (.seq (.block (.seq (.leaf) (.seq (.leaf) (.seq (.leaf) (.seq (.leaf) (.seq (.leaf) (.cond (.seq (.leaf) (.leaf)) (.leaf)))))))) (.leaf))))))) (.seq (.leaf) (.leaf))))))))) [.int .i64 zones_0, .int .i64 pageCount_1, .slice l_2 l_2l l_2c, .agg #[.int .i64 one_3_0, .int .i64 one_3_1, .int .i64 one_3_2, .slice one_3_3 one_3_3l one_3_3c, .slice one_3_4 one_3_4l one_3_4c, .slice one_3_5 one_3_5l one_3_5c], .agg #[.int .i64 two_4_0, .int .i64 two_4_1, .int .i64 two_4_2, .slice two_4_3 two_4_3l two_4_3c, .slice two_4_4 two_4_4l two_4_4c, .slice two_4_5 two_4_5l two_4_5c]] K h0 = F9 zones_0 pageCount_1 l_2 l_2l l_2c one_3_0 one_3_1 one_3_2 one_3_3 one_3_3l one_3_3c one_3_4 one_3_4l one_3_4c one_3_5 one_3_5l one_3_5c two_4_0 two_4_1 two_4_2 two_4_3 two_4_3l two_4_3c two_4_4 two_4_4l two_4_4c two_4_5 two_4_5l two_4_5c K h0 := by kernel_rfl

-- function 10
set_option maxRecDepth 100000 in
def F10 (zones_0 : Int) (pageCount_1 : Int) (l_2 : Option Addr) (l_2l l_2c : Nat) (x_3_0 : Int) (x_3_1 : Int) (x_3_2 : Int) (x_3_3 : Option Addr) (x_3_3l x_3_3c : Nat) (x_3_4 : Option Addr) (x_3_4l x_3_4c : Nat) (x_3_5 : Option Addr) (x_3_5l x_3_5c : Nat) (K : Value → Heap → Prop) (h0 : Heap) : Prop := (
  newW (.cells #[.int .i64 x_3_0, .int .i64 x_3_1, .int .i64 x_3_2, .slice x_3_3 x_3_3l x_3_3c, .slice x_3_4 x_3_4l x_3_4c, .slice x_3_5 x_3_5l x_3_5c] 56) (fun a1 h2 =>
  callT Tryd.prog 23 [] [.sc .bool] (fun (r3 : Bool) h4 =>
  br (!r3)
  (K (.bool false) h4)
  (callT Tryd.prog 25 [.int .i64 zones_0, .int .i64 pageCount_1] [.sc .ptr, .sc .any] (fun (r5 : (Option Addr) × Value) h6 =>
  cutT [] (fun (K7 : Unit → Heap → Prop) h16 =>
  br (Option.isNone r5.1)
  (K (.bool true) h16)
  (callT Tryd.prog 24 [.slice l_2 l_2l l_2c] [.sc .bool] (fun (r8 : Bool) h9 =>
  br r8
  (K (.bool true) h9)
  (ldAggW [.int .i64, .int .i64, .int .i64, .slice, .slice, .slice] a1 (fun (x10 : Int × Int × Int × (Option Addr × Nat × Nat) × (Option Addr × Nat × Nat) × (Option Addr × Nat × Nat)) =>
  newW (.cells #[.int .i64 x10.1, .int .i64 x10.2.1, .int .i64 x10.2.2.1, .slice x10.2.2.2.1.1 x10.2.2.2.1.2.1 x10.2.2.2.1.2.2, .slice x10.2.2.2.2.1.1 x10.2.2.2.2.1.2.1 x10.2.2.2.2.1.2.2, .slice x10.2.2.2.2.2.1 x10.2.2.2.2.2.2.1 x10.2.2.2.2.2.2.2] 56) (fun a11 h12 =>
  callT Tryd.prog 24 [.slice (some a11) 1 1] [.sc .bool] (fun (r13 : Bool) h14 =>
  br r13
  (K (.bool true) h14)
  (ldW (.int .i64) (Addr.add a1 0) (fun (x15 : Int) =>
  br (x15 == (6 : Int))
  (K (.bool true) h14)
  (K7 () h14)) h14)) h12) h9) h9)) h16)) (fun (_s17 : Unit) _ h18 =>
  loopT [.sc (.int .i64)] (fun (s20 : Int) _ (K19 : Int → Heap → Prop) h21 =>
  br (decide (s20 < (((l_2l : Nat) : Int))))
  (ptrW l_2 (fun a22 =>
  idxW s20 l_2l true (ldAggW [.int .i64, .int .i64, .int .i64, .slice, .slice, .slice] (Addr.add a22 (Int.toNat s20 * 6)) (fun (x23 : Int × Int × Int × (Option Addr × Nat × Nat) × (Option Addr × Nat × Nat) × (Option Addr × Nat × Nat)) =>
  newW (.cells (zeroC Tryd.prog 56) 56) (fun a24 h25 =>
  stLW a24 [.int .i64 x23.1, .int .i64 x23.2.1, .int .i64 x23.2.2.1, .slice x23.2.2.2.1.1 x23.2.2.2.1.2.1 x23.2.2.2.1.2.2, .slice x23.2.2.2.2.1.1 x23.2.2.2.2.1.2.1 x23.2.2.2.2.1.2.2, .slice x23.2.2.2.2.2.1 x23.2.2.2.2.2.2.1 x23.2.2.2.2.2.2.2] (fun h26 =>
  ldAggW [.int .i64, .int .i64, .int .i64, .slice, .slice, .slice] a24 (fun (x27 : Int × Int × Int × (Option Addr × Nat × Nat) × (Option Addr × Nat × Nat) × (Option Addr × Nat × Nat)) =>
  callT Tryd.prog 27 [.pointer r5.1, .agg #[.int .i64 x27.1, .int .i64 x27.2.1, .int .i64 x27.2.2.1, .slice x27.2.2.2.1.1 x27.2.2.2.1.2.1 x27.2.2.2.1.2.2, .slice x27.2.2.2.2.1.1 x27.2.2.2.2.1.2.1 x27.2.2.2.2.1.2.2, .slice x27.2.2.2.2.2.1 x27.2.2.2.2.2.2.1 x27.2.2.2.2.2.2.2]] [.agg [.int .i64, .int .i64, .slice]] (fun (_r28 : (Int × Int × (Option Addr × Nat × Nat))) h29 =>
  K19 (IntKind.wrap .i64 (s20 + (1 : Int))) h29) h26) h26) h25) h21) h21)))
  (cutT [] (fun (K30 : Unit → Heap → Prop) h35 =>
  callT Tryd.prog 34 [.pointer r5.1] [.sc .bool] (fun (r31 : Bool) h32 =>
  br r31
  (callT Tryd.prog 37 [.pointer r5.1, .slice none 0 0, .slice none 0 0] [] (fun (_r33 : Unit) h34 =>
  K30 () h34) h32)
  (K30 () h32)) h35) (fun (_s36 : Unit) _ h37 =>
  loopT [.sc .slice, .sc (.int .i64)] (fun (s39 : (Option Addr × Nat × Nat) × Int) _ (K38 : ((Option Addr × Nat × Nat) × Int) → Heap → Prop) h40 =>
  br (decide (s39.2 < zones_0))
  (callT Tryd.prog 39 [.pointer r5.1, .int .i64 s39.2] [.sc .slice, .agg [.int .i64, .int .i64, .int .i64]] (fun (r41 : (Option Addr × Nat × Nat) × (Int × Int × Int)) h42 =>
  newW (.cells (zeroC Tryd.prog 74) 74) (fun a43 h44 =>
  stLW a43 [.int .i64 r41.2.1, .int .i64 r41.2.2.1, .int .i64 r41.2.2.2] (fun h45 =>
  newW (.cells #[.slice r41.1.1 r41.1.2.1 r41.1.2.2] 25) (fun a46 h47 =>
  apW Tryd.prog #[78, 78] #[.slice s39.1.1 s39.1.2.1 s39.1.2.2, .slice (some a46) 1 1] (fun b48 n49 c50 h51 =>
  K38 ((b48, n49, c50), (IntKind.wrap .i64 (s39.2 + (1 : Int)))) h51) h47) h45) h44) h42) h40)
  (ldAggW [.int .i64, .int .i64, .int .i64, .slice, .slice, .slice] a1 (fun (x52 : Int × Int × Int × (Option Addr × Nat × Nat) × (Option Addr × Nat × Nat) × (Option Addr × Nat × Nat)) =>
  callT Tryd.prog 27 [.pointer r5.1, .agg #[.int .i64 x52.1, .int .i64 x52.2.1, .int .i64 x52.2.2.1, .slice x52.2.2.2.1.1 x52.2.2.2.1.2.1 x52.2.2.2.1.2.2, .slice x52.2.2.2.2.1.1 x52.2.2.2.2.1.2.1 x52.2.2.2.2.1.2.2, .slice x52.2.2.2.2.2.1 x52.2.2.2.2.2.2.1 x52.2.2.2.2.2.2.2]] [.agg [.int .i64, .int .i64, .slice]] (fun (_r53 : (Int × Int × (Option Addr × Nat × Nat))) h54 =>
  callT Tryd.prog 34 [.pointer r5.1] [.sc .bool] (fun (r55 : Bool) h56 =>
  br r55
  (callT Tryd.prog 37 [.pointer r5.1, .slice none 0 0, .slice none 0 0] [] (fun (_r57 : Unit) h58 =>
  K (.bool true) h58) h56)
  (loopT [.sc (.int .i64)] (fun (s60 : Int) _ (K59 : Int → Heap → Prop) h61 =>
  br (decide (s60 < zones_0))
  (callT Tryd.prog 39 [.pointer r5.1, .int .i64 s60] [.sc .slice, .agg [.int .i64, .int .i64, .int .i64]] (fun (r62 : (Option Addr × Nat × Nat) × (Int × Int × Int)) h63 =>
  newW (.cells (zeroC Tryd.prog 74) 74) (fun a64 h65 =>
  stLW a64 [.int .i64 r62.2.1, .int .i64 r62.2.2.1, .int .i64 r62.2.2.2] (fun h66 =>
  ldW (.int .i64) (Addr.add a1 1) (fun (x67 : Int) =>
  br (s60 != x67)
  (ptrW s39.1.1 (fun a68 =>
  idxW s60 s39.1.2.1 true (ldW .slice (Addr.add a68 (Int.toNat s60 * 1)) (fun (x69 : Option Addr × Nat × Nat) =>
  callT Tryd.prog 19 [.slice r62.1.1 r62.1.2.1 r62.1.2.2, .slice x69.1 x69.2.1 x69.2.2] [.sc .bool] (fun (r70 : Bool) h71 =>
  br (!r70)
  (K (.bool false) h71)
  (K59 (IntKind.wrap .i64 (s60 + (1 : Int))) h71)) h66) h66)))
  (K59 (IntKind.wrap .i64 (s60 + (1 : Int))) h66)) h66) h65) h63) h61)
  (K (.bool true) h61)) (0 : Int) h56)) h54) h40) h40)) ((none, 0, 0), (0 : Int)) h37) h21)) (0 : Int) h18) h6) h4)) h2) h0)
set_option maxRecDepth 100000 in
theorem F10_eq (zones_0 : Int) (pageCount_1 : Int) (l_2 : Option Addr) (l_2l l_2c : Nat) (x_3_0 : Int) (x_3_1 : Int) (x_3_2 : Int) (x_3_3 : Option Addr) (x_3_3l x_3_3c : Nat) (x_3_4 : Option Addr) (x_3_4l x_3_4c : Nat) (x_3_5 : Option Addr) (x_3_5l x_3_5c : Nat) (K : Value → Heap → Prop) (h0 : Heap) : funWE Tryd.prog 10 (.seq (.leaf) (.seq (.seq (.leaf) (.cond (.seq (.leaf) (.leaf)) (.leaf))) (.seq (.leaf) (.cut [] (.seq (.leaf) (.cond (.seq (.leaf) (.leaf)) (.leaf))) (.seq (.seq (.leaf) (.block (.loop [(46, .sc (.int .i64))] (.seq (.leaf) (.seq (.cond (.leaf) (.leaf)) (.seq (.block (.seq (.leaf) (.leaf))) (.leaf))))))) (.cut [] (.seq (.leaf) (.cond (.leaf) (.leaf))) (.seq (.leaf) (.seq (.seq (.leaf) (.block (.loop [(13, .sc .slice), (59, .sc (.int .i64))] (.seq (.leaf) (.seq (.cond (.leaf) (.leaf)) (.seq (.block (.seq (.leaf) (.seq (.leaf) (.leaf)))) (.leaf))))))) (.seq (.leaf) (.seq (.seq (.leaf) (.cond (.seq (.leaf) (.seq (.leaf) (.leaf))) (.leaf))) (.seq (.seq (.leaf) (.block (.loop [(81, .sc (.int .i64))] (.seq (.leaf) (.seq (.cond (.leaf) (.leaf)) (.seq (.block (.seq (.leaf) (.seq (.leaf) (.seq (.leaf) (.cond (.seq (.leaf) (.leaf)) (.leaf)))))) (.leaf))))))) (.seq (.leaf) (.leaf))))))))))))) [.int .i64 zones_0, .int .i64 pageCount_1, .slice l_2 l_2l l_2c, .agg #[.int .i64 x_3_0, .int .i64 x_3_1, .int .i64 x_3_2, .slice x_3_3 x_3_3l x_3_3c, .slice x_3_4 x_3_4l x_3_4c, .slice x_3_5 x_3_5l x_3_5c]] K h0 = F10 zones_0 pageCount_1 l_2 l_2l l_2c x_3_0 x_3_1 x_3_2 x_3_3 x_3_3l x_3_3c x_3_4 x_3_4l x_3_4c x_3_5 x_3_5l x_3_5c K h0 := by kernel_rfl

-- function 11
set_option maxRecDepth 100000 in
def F11 (pageCount_0 : Int) (l_1 : Option Addr) (l_1l l_1c : Nat) (acts_2 : Option Addr) (acts_2l acts_2c : Nat) (K : Value → Heap → Prop) (h0 : Heap) : Prop := (
  callT Tryd.prog 23 [] [.sc .bool] (fun (r1 : Bool) h2 =>
  br (!r1)
  (K (.bool false) h2)
  (cutT [] (fun (K3 : Unit → Heap → Prop) h6 =>
  callT Tryd.prog 24 [.slice acts_2 acts_2l acts_2c] [.sc .bool] (fun (r4 : Bool) h5 =>
  br r4
  (K (.bool true) h5)
  (br (decide ((((l_1l : Nat) : Int)) > (30 : Int)))
  (K (.bool true) h5)
  (K3 () h5))) h6) (fun (_s7 : Unit) _ h8 =>
  loopT [.sc (.int .i64)] (fun (s10 : Int) _ (K9 : Int → Heap → Prop) h11 =>
  br (decide (s10 < (((l_1l : Nat) : Int))))
  (ptrW l_1 (fun a12 =>
  idxW s10 l_1l true (ldW .slice (Addr.add a12 (Int.toNat s10 * 1)) (fun (x13 : Option Addr × Nat × Nat) =>
  br (decide ((((x13.2.1 : Nat) : Int)) > (30 : Int)))
  (K (.bool true) h11)
  (loopT [.sc (.int .i64)] (fun (s15 : Int) _ (K14 : Int → Heap → Prop) h16 =>
  br (decide (s15 < (((x13.2.1 : Nat) : Int))))
  (ptrW x13.1 (fun a17 =>
  idxW s15 x13.2.1 true (ldW .slice (Addr.add a17 (Int.toNat s15 * 1)) (fun (x18 : Option Addr × Nat × Nat) =>
  br (decide ((((x18.2.1 : Nat) : Int)) > (100 : Int)))
  (K (.bool true) h16)
  (K14 (IntKind.wrap .i64 (s15 + (1 : Int))) h16)) h16)))
  (K9 (IntKind.wrap .i64 (s10 + (1 : Int))) h16)) (0 : Int) h11)) h11)))
  (callT Tryd.prog 40 [.int .i64 pageCount_0, .slice l_1 l_1l l_1c] [.sc .ptr, .sc .any] (fun (r19 : (Option Addr) × Value) h20 =>
  callT Tryd.prog 41 [.int .i64 pageCount_0, .slice l_1 l_1l l_1c] [.sc .ptr, .sc (.int .i64)] (fun (r21 : (Option Addr) × Int) h22 =>
  cutT [] (fun (K23 : Unit → Heap → Prop) h26 =>
  callT Tryd.prog 20 [r19.2] [.sc (.int .i64)] (fun (r24 : Int) h25 =>
  br (r24 != r21.2)
  (K (.bool false) h25)
  (br (!((Option.isNone r19.1) == (Option.isNone r21.1)))
  (K (.bool false) h25)
  (K23 () h25))) h26) (fun (_s27 : Unit) _ h28 =>
  br (Option.isNone r19.1)
  (K (.bool true) h28)
  (cutT [] (fun (K29 : Unit → Heap → Prop) h34 =>
  callT Tryd.prog 29 [.pointer r19.1, .pointer r21.1] [.sc .bool] (fun (r30 : Bool) h31 =>
  br (!r30)
  (K (.bool false) h31)
  (callT Tryd.prog 30 [.pointer r19.1, .pointer r21.1] [.sc .bool] (fun (r32 : Bool) h33 =>
  br (!r32)
  (K (.bool false) h33)
  (K29 () h33)) h31)) h34) (fun (_s35 : Unit) _ h36 =>
  loopT [.sc (.int .i64)] (fun (s38 : Int) _ (K37 : Int → Heap → Prop) h39 =>
  br (decide (s38 < (((acts_2l : Nat) : Int))))
  (ptrW acts_2 (fun a40 =>
  idxW s38 acts_2l true (ldAggW [.int .i64, .int .i64, .int .i64, .slice, .slice, .slice] (Addr.add a40 (Int.toNat s38 * 6)) (fun (x41 : Int × Int × Int × (Option Addr × Nat × Nat) × (Option Addr × Nat × Nat) × (Option Addr × Nat × Nat)) =>
  newW (.cells (zeroC Tryd.prog 56) 56) (fun a42 h43 =>
  stLW a42 [.int .i64 x41.1, .int .i64 x41.2.1, .int .i64 x41.2.2.1, .slice x41.2.2.2.1.1 x41.2.2.2.1.2.1 x41.2.2.2.1.2.2, .slice x41.2.2.2.2.1.1 x41.2.2.2.2.1.2.1 x41.2.2.2.2.1.2.2, .slice x41.2.2.2.2.2.1 x41.2.2.2.2.2.2.1 x41.2.2.2.2.2.2.2] (fun h44 =>
  cutT [.sc .ptr, .sc .ptr] (fun (K45 : ((Option Addr) × (Option Addr)) → Heap → Prop) h140 =>
  ldAggW [.int .i64, .int .i64, .int .i64, .slice, .slice, .slice] a42 (fun (x46 : Int × Int × Int × (Option Addr × Nat × Nat) × (Option Addr × Nat × Nat) × (Option Addr × Nat × Nat)) =>
  ldAggW [.int .i64, .int .i64, .int .i64, .slice, .slice, .slice] a42 (fun (x47 : Int × Int × Int × (Option Addr × Nat × Nat) × (Option Addr × Nat × Nat) × (Option Addr × Nat × Nat)) =>
  (callT Tryd.prog 27 [.pointer r19.1, .agg #[.int .i64 x46.1, .int .i64 x46.2.1, .int .i64 x46.2.2.1, .slice x46.2.2.2.1.1 x46.2.2.2.1.2.1 x46.2.2.2.1.2.2, .slice x46.2.2.2.2.1.1 x46.2.2.2.2.1.2.1 x46.2.2.2.2.1.2.2, .slice x46.2.2.2.2.2.1 x46.2.2.2.2.2.2.1 x46.2.2.2.2.2.2.2]] [.agg [.int .i64, .int .i64, .slice]] (fun (r48 : (Int × Int × (Option Addr × Nat × Nat))) h49 =>
  (cellH h49 (Addr.add a42 0) = some (.int .i64 x47.1) ∧ (cellH h49 (Addr.add a42 1) = some (.int .i64 x47.2.1) ∧ (cellH h49 (Addr.add a42 2) = some (.int .i64 x47.2.2.1) ∧ (cellH h49 (Addr.add a42 3) = some (.slice x47.2.2.2.1.1 x47.2.2.2.1.2.1 x47.2.2.2.1.2.2) ∧ (cellH h49 (Addr.add a42 4) = some (.slice x47.2.2.2.2.1.1 x47.2.2.2.2.1.2.1 x47.2.2.2.2.1.2.2) ∧ (cellH h49 (Addr.add a42 5) = some (.slice x47.2.2.2.2.2.1 x47.2.2.2.2.2.2.1 x47.2.2.2.2.2.2.2) ∧ (callT Tryd.prog 28 [.pointer r21.1, .agg #[.int .i64 x47.1, .int .i64 x47.2.1, .int .i64 x47.2.2.1, .slice x47.2.2.2.1.1 x47.2.2.2.1.2.1 x47.2.2.2.1.2.2, .slice x47.2.2.2.2.1.1 x47.2.2.2.2.1.2.1 x47.2.2.2.2.1.2.2, .slice x47.2.2.2.2.2.1 x47.2.2.2.2.2.2.1 x47.2.2.2.2.2.2.2]] [.agg [.int .i64, .int .i64, .slice]] (fun (r50 : (Int × Int × (Option Addr × Nat × Nat))) h51 =>
  (newW (.cells (zeroC Tryd.prog 58) 58) (fun a52 h53 =>
  newW (.cells (zeroC Tryd.prog 58) 58) (fun a54 h55 =>
  stLW a52 [.int .i64 r48.1, .int .i64 r48.2.1, .slice r48.2.2.1 r48.2.2.2.1 r48.2.2.2.2] (fun h56 =>
  stLW a54 [.int .i64 r50.1, .int .i64 r50.2.1, .slice r50.2.2.1 r50.2.2.2.1 r50.2.2.2.2] (fun h57 =>
  K45 ((some a52), (some a54)) h57) h56) h55) h53) h51) ∧
  (newW (.cells (zeroC Tryd.prog 58) 58) (fun a58 h59 =>
  newW (.cells (zeroC Tryd.prog 58) 58) (fun a60 h61 =>
  stLW a60 [.int .i64 r48.1, .int .i64 r48.2.1, .slice r48.2.2.1 r48.2.2.2.1 r48.2.2.2.2] (fun h62 =>
  stLW a58 [.int .i64 r50.1, .int .i64 r50.2.1, .slice r50.2.2.1 r50.2.2.2.1 r50.2.2.2.2] (fun h63 =>
  K45 ((some a60), (some a58)) h63) h62) h61) h59) h51)) h49) ∧
  (newW (.cells (zeroC Tryd.prog 58) 58) (fun a64 h65 =>
  (callT Tryd.prog 28 [.pointer r21.1, .agg #[.int .i64 x47.1, .int .i64 x47.2.1, .int .i64 x47.2.2.1, .slice x47.2.2.2.1.1 x47.2.2.2.1.2.1 x47.2.2.2.1.2.2, .slice x47.2.2.2.2.1.1 x47.2.2.2.2.1.2.1 x47.2.2.2.2.1.2.2, .slice x47.2.2.2.2.2.1 x47.2.2.2.2.2.2.1 x47.2.2.2.2.2.2.2]] [.agg [.int .i64, .int .i64, .slice]] (fun (r66 : (Int × Int × (Option Addr × Nat × Nat))) h67 =>
  newW (.cells (zeroC Tryd.prog 58) 58) (fun a68 h69 =>
  stLW a64 [.int .i64 r48.1, .int .i64 r48.2.1, .slice r48.2.2.1 r48.2.2.2.1 r48.2.2.2.2] (fun h70 =>
  stLW a68 [.int .i64 r66.1, .int .i64 r66.2.1, .slice r66.2.2.1 r66.2.2.2.1 r66.2.2.2.2] (fun h71 =>
  K45 ((some a64), (some a68)) h71) h70) h69) h67) h65) ∧
  (newW (.cells (zeroC Tryd.prog 58) 58) (fun a72 h73 =>
  callT Tryd.prog 28 [.pointer r21.1, .agg #[.int .i64 x47.1, .int .i64 x47.2.1, .int .i64 x47.2.2.1, .slice x47.2.2.2.1.1 x47.2.2.2.1.2.1 x47.2.2.2.1.2.2, .slice x47.2.2.2.2.1.1 x47.2.2.2.2.1.2.1 x47.2.2.2.2.1.2.2, .slice x47.2.2.2.2.2.1 x47.2.2.2.2.2.2.1 x47.2.2.2.2.2.2.2]] [.agg [.int .i64, .int .i64, .slice]] (fun (r74 : (Int × Int × (Option Addr × Nat × Nat))) h75 =>
  stLW a64 [.int .i64 r48.1, .int .i64 r48.2.1, .slice r48.2.2.1 r48.2.2.2.1 r48.2.2.2.2] (fun h76 =>
  stLW a72 [.int .i64 r74.1, .int .i64 r74.2.1, .slice r74.2.2.1 r74.2.2.2.1 r74.2.2.2.2] (fun h77 =>
  K45 ((some a64), (some a72)) h77) h76) h75) h73) h65)) h49) ∧
  (newW (.cells (zeroC Tryd.prog 58) 58) (fun a78 h79 =>
  (callT Tryd.prog 28 [.pointer r21.1, .agg #[.int .i64 x47.1, .int .i64 x47.2.1, .int .i64 x47.2.2.1, .slice x47.2.2.2.1.1 x47.2.2.2.1.2.1 x47.2.2.2.1.2.2, .slice x47.2.2.2.2.1.1 x47.2.2.2.2.1.2.1 x47.2.2.2.2.1.2.2, .slice x47.2.2.2.2.2.1 x47.2.2.2.2.2.2.1 x47.2.2.2.2.2.2.2]] [.agg [.int .i64, .int .i64, .slice]] (fun (r80 : (Int × Int × (Option Addr × Nat × Nat))) h81 =>
  newW (.cells (zeroC Tryd.prog 58) 58) (fun a82 h83 =>
  stLW a82 [.int .i64 r48.1, .int .i64 r48.2.1, .slice r48.2.2.1 r48.2.2.2.1 r48.2.2.2.2] (fun h84 =>
  stLW a78 [.int .i64 r80.1, .int .i64 r80.2.1, .slice r80.2.2.1 r80.2.2.2.1 r80.2.2.2.2] (fun h85 =>
  K45 ((some a82), (some a78)) h85) h84) h83) h81) h79) ∧
  (newW (.cells (zeroC Tryd.prog 58) 58) (fun a86 h87 =>
  callT Tryd.prog 28 [.pointer r21.1, .agg #[.int .i64 x47.1, .int .i64 x47.2.1, .int .i64 x47.2.2.1, .slice x47.2.2.2.1.1 x47.2.2.2.1.2.1 x47.2.2.2.1.2.2, .slice x47.2.2.2.2.1.1 x47.2.2.2.2.1.2.1 x47.2.2.2.2.1.2.2, .slice x47.2.2.2.2.2.1 x47.2.2.2.2.2.2.1 x47.2.2.2.2.2.2.2]] [.agg [.int .i64, .int .i64, .slice]] (fun (r88 : (Int × Int × (Option Addr × Nat × Nat))) h89 =>
  stLW a86 [.int .i64 r48.1, .int .i64 r48.2.1, .slice r48.2.2.1 r48.2.2.2.1 r48.2.2.2.2] (fun h90 =>
  stLW a78 [.int .i64 r88.1, .int .i64 r88.2.1, .slice r88.2.2.1 r88.2.2.2.1 r88.2.2.2.2] (fun h91 =>
  K45 ((some a86), (some a78)) h91) h90) h89) h87) h79)) h49)))))))) h140) ∧
  (newW (.cells (zeroC Tryd.prog 58) 58) (fun a92 h93 =>
  (callT Tryd.prog 27 [.pointer r19.1, .agg #[.int .i64 x46.1, .int .i64 x46.2.1, .int .i64 x46.2.2.1, .slice x46.2.2.2.1.1 x46.2.2.2.1.2.1 x46.2.2.2.1.2.2, .slice x46.2.2.2.2.1.1 x46.2.2.2.2.1.2.1 x46.2.2.2.2.1.2.2, .slice x46.2.2.2.2.2.1 x46.2.2.2.2.2.2.1 x46.2.2.2.2.2.2.2]] [.agg [.int .i64, .int .i64, .slice]] (fun (r94 : (Int × Int × (Option Addr × Nat × Nat))) h95 =>
  (cellH h95 (Addr.add a42 0) = some (.int .i64 x47.1) ∧ (cellH h95 (Addr.add a42 1) = some (.int .i64 x47.2.1) ∧ (cellH h95 (Addr.add a42 2) = some (.int .i64 x47.2.2.1) ∧ (cellH h95 (Addr.add a42 3) = some (.slice x47.2.2.2.1.1 x47.2.2.2.1.2.1 x47.2.2.2.1.2.2) ∧ (cellH h95 (Addr.add a42 4) = some (.slice x47.2.2.2.2.1.1 x47.2.2.2.2.1.2.1 x47.2.2.2.2.1.2.2) ∧ (cellH h95 (Addr.add a42 5) = some (.slice x47.2.2.2.2.2.1 x47.2.2.2.2.2.2.1 x47.2.2.2.2.2.2.2) ∧ (callT Tryd.prog 28 [.pointer r21.1, .agg #[.int .i64 x47.1, .int .i64 x47.2.1, .int .i64 x47.2.2.1, .slice x47.2.2.2.1.1 x47.2.2.2.1.2.1 x47.2.2.2.1.2.2, .slice x47.2.2.2.2.1.1 x47.2.2.2.2.1.2.1 x47.2.2.2.2.1.2.2, .slice x47.2.2.2.2.2.1 x47.2.2.2.2.2.2.1 x47.2.2.2.2.2.2.2]] [.agg [.int .i64, .int .i64, .slice]] (fun (r96 : (Int × Int × (Option Addr × Nat × Nat))) h97 =>
  newW (.cells (zeroC Tryd.prog 58) 58) (fun a98 h99 =>
  stLW a92 [.int .i64 r94.1, .int .i64 r94.2.1, .slice r94.2.2.1 r94.2.2.2.1 r94.2.2.2.2] (fun h100 =>
  stLW a98 [.int .i64 r96.1, .int .i64 r96.2.1, .slice r96.2.2.1 r96.2.2.2.1 r96.2.2.2.2] (fun h101 =>
  K45 ((some a92), (some a98)) h101) h100) h99) h97) h95) ∧
  (newW (.cells (zeroC Tryd.prog 58) 58) (fun a102 h103 =>
  callT Tryd.prog 28 [.pointer r21.1, .agg #[.int .i64 x47.1, .int .i64 x47.2.1, .int .i64 x47.2.2.1, .slice x47.2.2.2.1.1 x47.2.2.2.1.2.1 x47.2.2.2.1.2.2, .slice x47.2.2.2.2.1.1 x47.2.2.2.2.1.2.1 x47.2.2.2.2.1.2.2, .slice x47.2.2.2.2.2.1 x47.2.2.2.2.2.2.1 x47.2.2.2.2.2.2.2]] [.agg [.int .i64, .int .i64, .slice]] (fun (r104 : (Int × Int × (Option Addr × Nat × Nat))) h105 =>
  stLW a92 [.int .i64 r94.1, .int .i64 r94.2.1, .slice r94.2.2.1 r94.2.2.2.1 r94.2.2.2.2] (fun h106 =>
  stLW a102 [.int .i64 r104.1, .int .i64 r104.2.1, .slice r104.2.2.1 r104.2.2.2.1 r104.2.2.2.2] (fun h107 =>
  K45 ((some a92), (some a102)) h107) h106) h105) h103) h95)))))))) h93) ∧
  (newW (.cells (zeroC Tryd.prog 58) 58) (fun a108 h109 =>
  callT Tryd.prog 27 [.pointer r19.1, .agg #[.int .i64 x46.1, .int .i64 x46.2.1, .int .i64 x46.2.2.1, .slice x46.2.2.2.1.1 x46.2.2.2.1.2.1 x46.2.2.2.1.2.2, .slice x46.2.2.2.2.1.1 x46.2.2.2.2.1.2.1 x46.2.2.2.2.1.2.2, .slice x46.2.2.2.2.2.1 x46.2.2.2.2.2.2.1 x46.2.2.2.2.2.2.2]] [.agg [.int .i64, .int .i64, .slice]] (fun (r110 : (Int × Int × (Option Addr × Nat × Nat))) h111 =>
  (cellH h111 (Addr.add a42 0) = some (.int .i64 x47.1) ∧ (cellH h111 (Addr.add a42 1) = some (.int .i64 x47.2.1) ∧ (cellH h111 (Addr.add a42 2) = some (.int .i64 x47.2.2.1) ∧ (cellH h111 (Addr.add a42 3) = some (.slice x47.2.2.2.1.1 x47.2.2.2.1.2.1 x47.2.2.2.1.2.2) ∧ (cellH h111 (Addr.add a42 4) = some (.slice x47.2.2.2.2.1.1 x47.2.2.2.2.1.2.1 x47.2.2.2.2.1.2.2) ∧ (cellH h111 (Addr.add a42 5) = some (.slice x47.2.2.2.2.2.1 x47.2.2.2.2.2.2.1 x47.2.2.2.2.2.2.2) ∧ callT Tryd.prog 28 [.pointer r21.1, .agg #[.int .i64 x47.1, .int .i64 x47.2.1, .int .i64 x47.2.2.1, .slice x47.2.2.2.1.1 x47.2.2.2.1.2.1 x47.2.2.2.1.2.2, .slice x47.2.2.2.2.1.1 x47.2.2.2.2.1.2.1 x47.2.2.2.2.1.2.2, .slice x47.2.2.2.2.2.1 x47.2.2.2.2.2.2.1 x47.2.2.2.2.2.2.2]] [.agg [.int .i64, .int .i64, .slice]] (fun (r112 : (Int × Int × (Option Addr × Nat × Nat))) h113 =>
  stLW a92 [.int .i64 r110.1, .int .i64 r110.2.1, .slice r110.2.2.1 r110.2.2.2.1 r110.2.2.2.2] (fun h114 =>
  stLW a108 [.int .i64 r112.1, .int .i64 r112.2.1, .slice r112.2.2.1 r112.2.2.2.1 r112.2.2.2.2] (fun h115 =>
  K45 ((some a92), (some a108)) h115) h114) h113) h111))))))) h109) h93)) h140) ∧
  (newW (.cells (zeroC Tryd.prog 58) 58) (fun a116 h117 =>
  (callT Tryd.prog 27 [.pointer r19.1, .agg #[.int .i64 x46.1, .int .i64 x46.2.1, .int .i64 x46.2.2.1, .slice x46.2.2.2.1.1 x46.2.2.2.1.2.1 x46.2.2.2.1.2.2, .slice x46.2.2.2.2.1.1 x46.2.2.2.2.1.2.1 x46.2.2.2.2.1.2.2, .slice x46.2.2.2.2.2.1 x46.2.2.2.2.2.2.1 x46.2.2.2.2.2.2.2]] [.agg [.int .i64, .int .i64, .slice]] (fun (r118 : (Int × Int × (Option Addr × Nat × Nat))) h119 =>
  (cellH h119 (Addr.add a42 0) = some (.int .i64 x47.1) ∧ (cellH h119 (Addr.add a42 1) = some (.int .i64 x47.2.1) ∧ (cellH h119 (Addr.add a42 2) = some (.int .i64 x47.2.2.1) ∧ (cellH h119 (Addr.add a42 3) = some (.slice x47.2.2.2.1.1 x47.2.2.2.1.2.1 x47.2.2.2.1.2.2) ∧ (cellH h119 (Addr.add a42 4) = some (.slice x47.2.2.2.2.1.1 x47.2.2.2.2.1.2.1 x47.2.2.2.2.1.2.2) ∧ (cellH h119 (Addr.add a42 5) = some (.slice x47.2.2.2.2.2.1 x47.2.2.2.2.2.2.1 x47.2.2.2.2.2.2.2) ∧ (callT Tryd.prog 28 [.pointer r21.1, .agg #[.int .i64 x47.1, .int .i64 x47.2.1, .int .i64 x47.2.2.1, .slice x47.2.2.2.1.1 x47.2.2.2.1.2.1 x47.2.2.2.1.2.2, .slice x47.2.2.2.2.1.1 x47.2.2.2.2.1.2.1 x47.2.2.2.2.1.2.2, .slice x47.2.2.2.2.2.1 x47.2.2.2.2.2.2.1 x47.2.2.2.2.2.2.2]] [.agg [.int .i64, .int .i64, .slice]] (fun (r120 : (Int × Int × (Option Addr × Nat × Nat))) h121 =>
  newW (.cells (zeroC Tryd.prog 58) 58) (fun a122 h123 =>
  stLW a122 [.int .i64 r118.1, .int .i64 r118.2.1, .slice r118.2.2.1 r118.2.2.2.1 r118.2.2.2.2] (fun h124 =>
  stLW a116 [.int .i64 r120.1, .int .i64 r120.2.1, .slice r120.2.2.1 r120.2.2.2.1 r120.2.2.2.2] (fun h125 =>
  K45 ((some a122), (some a116)) h125) h124) h123) h121) h119) ∧
  (newW (.cells (zeroC Tryd.prog 58) 58) (fun a126 h127 =>
  callT Tryd.prog 28 [.pointer r21.1, .agg #[.int .i64 x47.1, .int .i64 x47.2.1, .int .i64 x47.2.2.1, .slice x47.2.2.2.1.1 x47.2.2.2.1.2.1 x47.2.2.2.1.2.2, .slice x47.2.2.2.2.1.1 x47.2.2.2.2.1.2.1 x47.2.2.2.2.1.2.2, .slice x47.2.2.2.2.2.1 x47.2.2.2.2.2.2.1 x47.2.2.2.2.2.2.2]] [.agg [.int .i64, .int .i64, .slice]] (fun (r128 : (Int × Int × (Option Addr × Nat × Nat))) h129 =>
  stLW a126 [.int .i64 r118.1, .int .i64 r118.2.1, .slice r118.2.2.1 r118.2.2.2.1 r118.2.2.2.2] (fun h130 =>
  stLW a116 [.int .i64 r128.1, .int .i64 r128.2.1, .slice r128.2.2.1 r128.2.2.2.1 r128.2.2.2.2] (fun h131 =>
  K45 ((some a126), (some a116)) h131) h130) h129) h127) h119)))))))) h117) ∧
  (newW (.cells (zeroC Tryd.prog 58) 58) (fun a132 h133 =>
  callT Tryd.prog 27 [.pointer r19.1, .agg #[.int .i64 x46.1, .int .i64 x46.2.1, .int .i64 x46.2.2.1, .slice x46.2.2.2.1.1 x46.2.2.2.1.2.1 x46.2.2.2.1.2.2, .slice x46.2.2.2.2.1.1 x46.2.2.2.2.1.2.1 x46.2.2.2.2.1.2.2, .slice x46.2.2.2.2.2.1 x46.2.2.2.2.2.2.1 x46.2.2.2.2.2.2.2]] [.agg [.int .i64, .int .i64, .slice]] (fun (r134 : (Int × Int × (Option Addr × Nat × Nat))) h135 =>
  (cellH h135 (Addr.add a42 0) = some (.int .i64 x47.1) ∧ (cellH h135 (Addr.add a42 1) = some (.int .i64 x47.2.1) ∧ (cellH h135 (Addr.add a42 2) = some (.int .i64 x47.2.2.1) ∧ (cellH h135 (Addr.add a42 3) = some (.slice x47.2.2.2.1.1 x47.2.2.2.1.2.1 x47.2.2.2.1.2.2) ∧ (cellH h135 (Addr.add a42 4) = some (.slice x47.2.2.2.2.1.1 x47.2.2.2.2.1.2.1 x47.2.2.2.2.1.2.2) ∧ (cellH h135 (Addr.add a42 5) = some (.slice x47.2.2.2.2.2.1 x47.2.2.2.2.2.2.1 x47.2.2.2.2.2.2.2) ∧ callT Tryd.prog 28 [.pointer r21.1, .agg #[.int .i64 x47.1, .int .i64 x47.2.1, .int .i64 x47.2.2.1, .slice x47.2.2.2.1.1 x47.2.2.2.1.2.1 x47.2.2.2.1.2.2, .slice x47.2.2.2.2.1.1 x47.2.2.2.2.1.2.1 x47.2.2.2.2.1.2.2, .slice x47.2.2.2.2.2.1 x47.2.2.2.2.2.2.1 x47.2.2.2.2.2.2.2]] [.agg [.int .i64, .int .i64, .slice]] (fun (r136 : (Int × Int × (Option Addr × Nat × Nat))) h137 =>
  stLW a132 [.int .i64 r134.1, .int .i64 r134.2.1, .slice r134.2.2.1 r134.2.2.2.1 r134.2.2.2.2] (fun h138 =>
  stLW a116 [.int .i64 r136.1, .int .i64 r136.2.1, .slice r136.2.2.1 r136.2.2.2.1 r136.2.2.2.2] (fun h139 =>
  K45 ((some a132), (some a116)) h139) h138) h137) h135))))))) h133) h117)) h140)) h140) h140) (fun (s141 : (Option Addr) × (Option Addr)) _ h142 =>
  ptrW s141.1 (fun a143 =>
  ldW (.int .i64) (Addr.add a143 0) (fun (x144 : Int) =>
  ptrW s141.2 (fun a145 =>
  ldW (.int .i64) (Addr.add a145 0) (fun (x146 : Int) =>
  br (x144 != x146)
  (K (.bool false) h142)
  (ptrW s141.1 (fun a147 =>
  ldW (.int .i64) (Addr.add a147 1) (fun (x148 : Int) =>
  ptrW s141.2 (fun a149 =>
  ldW (.int .i64) (Addr.add a149 1) (fun (x150 : Int) =>
  br (x148 != x150)
  (K (.bool false) h142)
  (ptrW s141.1 (fun a151 =>
  ldW .slice (Addr.add a151 2) (fun (x152 : Option Addr × Nat × Nat) =>
  ptrW s141.2 (fun a153 =>
  ldW .slice (Addr.add a153 2) (fun (x154 : Option Addr × Nat × Nat) =>
  callT Tryd.prog 19 [.slice x152.1 x152.2.1 x152.2.2, .slice x154.1 x154.2.1 x154.2.2] [.sc .bool] (fun (r155 : Bool) h156 =>
  br (!r155)
  (K (.bool false) h156)
  (callT Tryd.prog 29 [.pointer r19.1, .pointer r21.1] [.sc .bool] (fun (r157 : Bool) h158 =>
  br (!r157)
  (K (.bool false) h158)
  (K37 (IntKind.wrap .i64 (s38 + (1 : Int))) h158)) h156)) h142) h142)) h142))) h142)) h142))) h142)) h142)) h44) h43) h39) h39)))
  (callT Tryd.prog 30 [.pointer r19.1, .pointer r21.1] [.sc .bool] (fun (r159 : Bool) h160 =>
  K (.bool r159) h160) h39)) (0 : Int) h36) h28)) h22) h20) h11)) (0 : Int) h8) h2)) h0)
set_option maxRecDepth 100000 in
theorem F11_eq (pageCount_0 : Int) (l_1 : Option Addr) (l_1l l_1c : Nat) (acts_2 : Option Addr) (acts_2l acts_2c : Nat) (K : Value → Heap → Prop) (h0 : Heap) : funWE Tryd.prog 11 (.seq (.leaf) (.seq (.seq (.leaf) (.cond (.seq (.leaf) (.leaf)) (.leaf))) (.cut [] (.seq (.leaf) (.cond (.seq (.leaf) (.leaf)) (.leaf))) (.seq (.seq (.leaf) (.block (.loop [(30, .sc (.int .i64))] (.seq (.leaf) (.seq (.cond (.leaf) (.leaf)) (.seq (.block (.seq (.leaf) (.seq (.seq (.leaf) (.cond (.seq (.leaf) (.leaf)) (.leaf))) (.seq (.leaf) (.block (.loop [(39, .sc (.int .i64))] (.seq (.leaf) (.seq (.cond (.leaf) (.leaf)) (.seq (.block (.seq (.leaf) (.seq (.leaf) (.cond (.seq (.leaf) (.leaf)) (.leaf))))) (.leaf)))))))))) (.leaf))))))) (.seq (.leaf) (.seq (.leaf) (.cut [] (.seq (.leaf) (.cond (.seq (.leaf) (.leaf)) (.leaf))) (.seq (.seq (.leaf) (.cond (.seq (.leaf) (.leaf)) (.leaf))) (.cut [] (.seq (.leaf) (.cond (.seq (.leaf) (.leaf)) (.leaf))) (.seq (.seq (.leaf) (.block (.loop [(85, .sc (.int .i64))] (.seq (.leaf) (.seq (.cond (.leaf) (.leaf)) (.seq (.block (.seq (.leaf) (.cut [(17, .sc .ptr), (18, .sc .ptr)] (.draw (odp [0, 1, 3, 4] (.fork 2 (.fork 5 (.fork 6 (odp [7, 8, 9] .nil) (.one 7 (odp [6, 8, 9] .nil))) (.fork 6 (.fork 5 (odp [7, 8, 9] .nil) (.one 7 (odp [5, 8, 9] .nil))) (.one 7 (.fork 5 (odp [6, 8, 9] .nil) (.one 6 (odp [5, 8, 9] .nil)))))) (.fork 6 (.fork 2 (.fork 5 (odp [7, 8, 9] .nil) (.one 7 (odp [5, 8, 9] .nil))) (.one 7 (odp [2, 5, 8, 9] .nil))) (.one 7 (.fork 2 (.fork 5 (odp [6, 8, 9] .nil) (.one 6 (odp [5, 8, 9] .nil))) (.one 6 (odp [2, 5, 8, 9] .nil))))))) [200004]) (.seq (.leaf) (.cond (.seq (.leaf) (.leaf)) (.leaf)))))) (.leaf))))))) (.seq (.leaf) (.leaf)))))))))))) [.int .i64 pageCount_0, .slice l_1 l_1l l_1c, .slice acts_2 acts_2l acts_2c] K h0 = F11 pageCount_0 l_1 l_1l l_1c acts_2 acts_2l acts_2c K h0 := by kernel_rfl

end Go.Proofs.YtgohecjnjadnpaaDoor.W
