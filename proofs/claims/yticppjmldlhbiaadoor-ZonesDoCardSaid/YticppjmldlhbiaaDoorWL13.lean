/-
  The formulas of the laws of zones. Each formula checked by the kernel. Printed by a program of this repo.
-/
import Derived.Test.YticppjmldlhbiaaDoorProg
import Derived.Test.YticppjmldlhbiaaDoorPl
namespace Go.Proofs.YticppjmldlhbiaaDoor.W
open Go.Pl

-- function 23
set_option maxRecDepth 100000 in
def F23  (K : Value → Heap → Prop) (h0 : Heap) : Prop := (
  callT Tryd.prog 24 [.int .i64 3] [.sc .ptr, .sc .any] (fun (r1 : (Option Addr) × Value) h2 =>
  cutT [] (fun (K3 : Unit → Heap → Prop) h4 =>
  br (Option.isNone r1.1)
  (K (.bool false) h4)
  (ifW r1.2 (br (!(isNilV r1.2))
  (K (.bool false) h4)
  (K3 () h4)))) (fun (_s5 : Unit) _ h6 =>
  callT Tryd.prog 44 [.pointer r1.1] [.sc (.int .i64), .sc .bool] (fun (r7 : Int × Bool) h8 =>
  callT Tryd.prog 44 [.pointer r1.1] [.sc (.int .i64), .sc .bool] (fun (r9 : Int × Bool) h10 =>
  cutT [.sc .bool] (fun (K11 : Bool → Heap → Prop) h20 =>
  callT Tryd.prog 45 [.pointer r1.1, .int .i64 1] [.sc .bool] (fun (r12 : Bool) h13 =>
  br r12
  (callT Tryd.prog 45 [.pointer r1.1, .int .i64 1] [.sc .bool] (fun (r14 : Bool) h15 =>
  br (!r14)
  (callT Tryd.prog 46 [.pointer r1.1, .int .i64 0] [.sc .bool] (fun (r16 : Bool) h17 =>
  br r16
  (callT Tryd.prog 46 [.pointer r1.1, .int .i64 0] [.sc .bool] (fun (r18 : Bool) h19 =>
  K11 (!r18) h19) h17)
  (K11 false h17)) h15)
  (K11 false h15)) h13)
  (K11 false h13)) h20) (fun (s21 : Bool) _ h22 =>
  callT Tryd.prog 28 [.pointer r1.1, .int .i64 1] [.sc (.int .i64), .sc .bool] (fun (r23 : Int × Bool) h24 =>
  br (r7.1 == (0 : Int))
  (br r7.2
  (br (r9.1 == (1 : Int))
  (br r9.2
  (br s21
  (br (r23.1 == (2 : Int))
  (br r23.2
  (callT Tryd.prog 32 [.pointer r1.1] [.sc .slice] (fun (r25 : (Option Addr × Nat × Nat)) h26 =>
  newW (.cells #[.int .i64 2, .int .i64 0] 3) (fun a27 h28 =>
  callT Tryd.prog 20 [.slice r25.1 r25.2.1 r25.2.2, .slice (some a27) 2 2] [.sc .bool] (fun (r29 : Bool) h30 =>
  br r29
  (callT Tryd.prog 33 [.pointer r1.1] [.sc .slice] (fun (r31 : (Option Addr × Nat × Nat)) h32 =>
  newW (.cells #[.int .i64 1] 3) (fun a33 h34 =>
  callT Tryd.prog 20 [.slice r31.1 r31.2.1 r31.2.2, .slice (some a33) 1 1] [.sc .bool] (fun (r35 : Bool) h36 =>
  br r35
  (callT Tryd.prog 30 [.pointer r1.1, .int .i64 1] [.sc (.int .u32)] (fun (r37 : Int) h38 =>
  K (.bool (r37 == (0 : Int))) h38) h36)
  (K (.bool false) h36)) h34) h32) h30)
  (K (.bool false) h30)) h28) h26) h24)
  (K (.bool false) h24))
  (K (.bool false) h24))
  (K (.bool false) h24))
  (K (.bool false) h24))
  (K (.bool false) h24))
  (K (.bool false) h24))
  (K (.bool false) h24)) h22) h10) h8) h6) h2) h0)
set_option maxRecDepth 100000 in
theorem F23_eq  (K : Value → Heap → Prop) (h0 : Heap) : funWE Tryd.prog 23 (.seq (.leaf) (.seq (.leaf) (.cut [] (.seq (.leaf) (.cond (.seq (.leaf) (.leaf)) (.leaf))) (.seq (.leaf) (.seq (.leaf) (.cut [(7, .sc .bool)] (.leaf) (.seq (.leaf) (.seq (.leaf) (.leaf))))))))) [] K h0 = F23  K h0 := by kernel_rfl

-- function 26
set_option maxRecDepth 100000 in
def F26 (t_0 : Addr) (x_1_0 : Int) (x_1_1 : Int) (K : Value → Heap → Prop) (h0 : Heap) : Prop := (
  newW (.cells #[.int .i64 x_1_0, .int .i64 x_1_1] 60) (fun a1 h2 =>
  ldW (.int .i64) (Addr.add a1 0) (fun (x3 : Int) =>
  br (x3 == (0 : Int))
  (callT Tryd.prog 44 [.pointer (some t_0)] [.sc (.int .i64), .sc .bool] (fun (r4 : Int × Bool) h5 =>
  K (.tuple #[.int .i64 r4.1, .bool r4.2]) h5) h2)
  (br (x3 == (1 : Int))
  (ldW (.int .i64) (Addr.add a1 1) (fun (x6 : Int) =>
  callT Tryd.prog 45 [.pointer (some t_0), .int .i64 x6] [.sc .bool] (fun (r7 : Bool) h8 =>
  K (.tuple #[.int .i64 (-1), .bool r7]) h8) h2) h2)
  (br (x3 == (2 : Int))
  (ldW (.int .i64) (Addr.add a1 1) (fun (x9 : Int) =>
  callT Tryd.prog 46 [.pointer (some t_0), .int .i64 x9] [.sc .bool] (fun (r10 : Bool) h11 =>
  K (.tuple #[.int .i64 (-1), .bool r10]) h11) h2) h2)
  (K (.tuple #[.int .i64 (-1), .bool false]) h2)))) h2) h0)
set_option maxRecDepth 100000 in
theorem F26_eq (t_0 : Addr) (x_1_0 : Int) (x_1_1 : Int) (K : Value → Heap → Prop) (h0 : Heap) : funWE Tryd.prog 26 (.seq (.leaf) (.seq (.seq (.leaf) (.block (.seq (.leaf) (.cond (.seq (.leaf) (.leaf)) (.seq (.leaf) (.cond (.seq (.leaf) (.leaf)) (.seq (.leaf) (.cond (.seq (.leaf) (.leaf)) (.leaf))))))))) (.seq (.leaf) (.leaf)))) [.pointer (some t_0), .agg #[.int .i64 x_1_0, .int .i64 x_1_1]] K h0 = F26 t_0 x_1_0 x_1_1 K h0 := by kernel_rfl

-- function 27
set_option maxRecDepth 100000 in
def F27 (t_0 : Addr) (x_1_0 : Int) (x_1_1 : Int) (K : Value → Heap → Prop) (h0 : Heap) : Prop := (
  newW (.cells #[.int .i64 x_1_0, .int .i64 x_1_1] 60) (fun a1 h2 =>
  ldW (.int .i64) (Addr.add a1 0) (fun (x3 : Int) =>
  br (x3 == (0 : Int))
  (callT Tryd.prog 50 [.pointer (some t_0)] [.sc (.int .i64), .sc .bool] (fun (r4 : Int × Bool) h5 =>
  K (.tuple #[.int .i64 r4.1, .bool r4.2]) h5) h2)
  (br (x3 == (1 : Int))
  (ldW (.int .i64) (Addr.add a1 1) (fun (x6 : Int) =>
  callT Tryd.prog 51 [.pointer (some t_0), .int .i64 x6] [.sc .bool] (fun (r7 : Bool) h8 =>
  K (.tuple #[.int .i64 (-1), .bool r7]) h8) h2) h2)
  (br (x3 == (2 : Int))
  (ldW (.int .i64) (Addr.add a1 1) (fun (x9 : Int) =>
  callT Tryd.prog 52 [.pointer (some t_0), .int .i64 x9] [.sc .bool] (fun (r10 : Bool) h11 =>
  K (.tuple #[.int .i64 (-1), .bool r10]) h11) h2) h2)
  (K (.tuple #[.int .i64 (-1), .bool false]) h2)))) h2) h0)
set_option maxRecDepth 100000 in
theorem F27_eq (t_0 : Addr) (x_1_0 : Int) (x_1_1 : Int) (K : Value → Heap → Prop) (h0 : Heap) : funWE Tryd.prog 27 (.seq (.leaf) (.seq (.seq (.leaf) (.block (.seq (.leaf) (.cond (.seq (.leaf) (.leaf)) (.seq (.leaf) (.cond (.seq (.leaf) (.leaf)) (.seq (.leaf) (.cond (.seq (.leaf) (.leaf)) (.leaf))))))))) (.seq (.leaf) (.leaf)))) [.pointer (some t_0), .agg #[.int .i64 x_1_0, .int .i64 x_1_1]] K h0 = F27 t_0 x_1_0 x_1_1 K h0 := by kernel_rfl

-- function 4
set_option maxRecDepth 100000 in
def F4 (many_0 : Int) (l_1 : Option Addr) (l_1l _l_1c : Nat) (zone_2 : Int) (K : Value → Heap → Prop) (h0 : Heap) : Prop := (
  callT Tryd.prog 23 [] [.sc .bool] (fun (r1 : Bool) h2 =>
  br (!r1)
  (K (.bool false) h2)
  (br (decide ((((l_1l : Nat) : Int)) > (200 : Int)))
  (K (.bool true) h2)
  (callT Tryd.prog 24 [.int .i64 many_0] [.sc .ptr, .sc .any] (fun (r3 : (Option Addr) × Value) h4 =>
  callT Tryd.prog 25 [.int .i64 many_0] [.sc .ptr, .sc (.int .i64)] (fun (r5 : (Option Addr) × Int) h6 =>
  cutT [] (fun (K7 : Unit → Heap → Prop) h10 =>
  callT Tryd.prog 8 [r3.2] [.sc (.int .i64)] (fun (r8 : Int) h9 =>
  br (r8 != r5.2)
  (K (.bool false) h9)
  (br (!((Option.isNone r3.1) == (Option.isNone r5.1)))
  (K (.bool false) h9)
  (K7 () h9))) h10) (fun (_s11 : Unit) _ h12 =>
  br (Option.isNone r3.1)
  (K (.bool true) h12)
  (loopT [.sc (.int .i64)] (fun (s14 : Int) _ (K13 : Int → Heap → Prop) h15 =>
  br (decide (s14 < (((l_1l : Nat) : Int))))
  (ptrW l_1 (fun a16 =>
  idxW s14 l_1l true (ldAggW [.int .i64, .int .i64] (Addr.add a16 (Int.toNat s14 * 2)) (fun (x17 : Int × Int) =>
  newW (.cells (zeroC Tryd.prog 60) 60) (fun a18 h19 =>
  stLW a18 [.int .i64 x17.1, .int .i64 x17.2] (fun h20 =>
  ldAggW [.int .i64, .int .i64] a18 (fun (x21 : Int × Int) =>
  callT Tryd.prog 26 [.pointer r3.1, .agg #[.int .i64 x21.1, .int .i64 x21.2]] [.sc (.int .i64), .sc .bool] (fun (r22 : Int × Bool) h23 =>
  ldAggW [.int .i64, .int .i64] a18 (fun (x24 : Int × Int) =>
  callT Tryd.prog 27 [.pointer r5.1, .agg #[.int .i64 x24.1, .int .i64 x24.2]] [.sc (.int .i64), .sc .bool] (fun (r25 : Int × Bool) h26 =>
  callT Tryd.prog 28 [.pointer r3.1, .int .i64 zone_2] [.sc (.int .i64), .sc .bool] (fun (r27 : Int × Bool) h28 =>
  callT Tryd.prog 29 [.pointer r5.1, .int .i64 zone_2] [.sc (.int .i64), .sc .bool] (fun (r29 : Int × Bool) h30 =>
  br (r22.1 != r25.1)
  (K (.bool false) h30)
  (br (!(r22.2 == r25.2))
  (K (.bool false) h30)
  (br (r27.1 != r29.1)
  (K (.bool false) h30)
  (br (!(r27.2 == r29.2))
  (K (.bool false) h30)
  (callT Tryd.prog 30 [.pointer r3.1, .int .i64 zone_2] [.sc (.int .u32)] (fun (r31 : Int) h32 =>
  callT Tryd.prog 31 [.pointer r5.1, .int .i64 zone_2] [.sc (.int .u32)] (fun (r33 : Int) h34 =>
  br (r31 != r33)
  (K (.bool false) h34)
  (ptrW r5.1 (fun a35 =>
  ldW .slice (Addr.add a35 1) (fun (x36 : Option Addr × Nat × Nat) =>
  callT Tryd.prog 32 [.pointer r3.1] [.sc .slice] (fun (r37 : (Option Addr × Nat × Nat)) h38 =>
  (cellH h38 (Addr.add a35 1) = some (.slice x36.1 x36.2.1 x36.2.2) ∧ callT Tryd.prog 20 [.slice r37.1 r37.2.1 r37.2.2, .slice x36.1 x36.2.1 x36.2.2] [.sc .bool] (fun (r39 : Bool) h40 =>
  br (!r39)
  (K (.bool false) h40)
  (callT Tryd.prog 33 [.pointer r3.1] [.sc .slice] (fun (r41 : (Option Addr × Nat × Nat)) h42 =>
  callT Tryd.prog 34 [.pointer r5.1] [.sc .slice] (fun (r43 : (Option Addr × Nat × Nat)) h44 =>
  callT Tryd.prog 20 [.slice r41.1 r41.2.1 r41.2.2, .slice r43.1 r43.2.1 r43.2.2] [.sc .bool] (fun (r45 : Bool) h46 =>
  br (!r45)
  (K (.bool false) h46)
  (K13 (IntKind.wrap .i64 (s14 + (1 : Int))) h46)) h44) h42) h40)) h38)) h34) h34))) h32) h30))))) h28) h26) h23) h23) h20) h20) h19) h15) h15)))
  (K (.bool true) h15)) (0 : Int) h12)) h6) h4) h2))) h0)
set_option maxRecDepth 100000 in
theorem F4_eq (many_0 : Int) (l_1 : Option Addr) (l_1l l_1c : Nat) (zone_2 : Int) (K : Value → Heap → Prop) (h0 : Heap) : funWE Tryd.prog 4 (.seq (.leaf) (.seq (.seq (.leaf) (.cond (.seq (.leaf) (.leaf)) (.leaf))) (.seq (.seq (.leaf) (.cond (.seq (.leaf) (.leaf)) (.leaf))) (.seq (.leaf) (.seq (.leaf) (.cut [] (.seq (.leaf) (.cond (.seq (.leaf) (.leaf)) (.leaf))) (.seq (.seq (.leaf) (.cond (.seq (.leaf) (.leaf)) (.leaf))) (.seq (.seq (.leaf) (.block (.loop [(51, .sc (.int .i64))] (.seq (.leaf) (.seq (.cond (.leaf) (.leaf)) (.seq (.block (.seq (.leaf) (.seq (.leaf) (.seq (.leaf) (.seq (.leaf) (.seq (.leaf) (.seq (.draw (odp [0, 1, 2, 3, 4, 5, 6, 7, 8, 9, 10, 11, 12, 13, 14, 15, 16, 17, 18, 19, 20, 22, 23, 21, 24, 25, 26, 27, 28, 30, 31, 32, 33, 29, 34, 35, 36, 37, 38, 40, 39, 41, 42, 43, 44] .nil) [200033]) (.cond (.seq (.leaf) (.leaf)) (.leaf))))))))) (.leaf))))))) (.seq (.leaf) (.leaf)))))))))) [.int .i64 many_0, .slice l_1 l_1l l_1c, .int .i64 zone_2] K h0 = F4 many_0 l_1 l_1l l_1c zone_2 K h0 := by kernel_rfl

end Go.Proofs.YticppjmldlhbiaaDoor.W
