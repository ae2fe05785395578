/-
  The formulas of the law LruDoes. Each formula checked by the kernel. Printed by a program of this repo.
-/
import Derived.Test.YtfanjfbenhocnaaDoorProg
import Derived.Test.YtfanjfbenhocnaaDoorPl
namespace Go.Proofs.YtfanjfbenhocnaaDoor.W
open Go.Pl

-- function 3
set_option maxRecDepth 100000 in
def F3 (slots_0 : Int) (l_1 : Option Addr) (l_1l _l_1c : Nat) (K : Value → Heap → Prop) (h0 : Heap) : Prop := (
  callT Tryd.prog 5 [] [.sc .bool] (fun (r1 : Bool) h2 =>
  br (!r1)
  (K (.bool false) h2)
  (br (decide ((((l_1l : Nat) : Int)) > (200 : Int)))
  (K (.bool true) h2)
  (callT Tryd.prog 6 [.int .i64 slots_0] [.sc .ptr, .sc .any] (fun (r3 : (Option Addr) × Value) h4 =>
  callT Tryd.prog 7 [.int .i64 slots_0] [.sc .ptr, .sc (.int .i64)] (fun (r5 : (Option Addr) × Int) h6 =>
  cutT [] (fun (K7 : Unit → Heap → Prop) h10 =>
  callT Tryd.prog 8 [r3.2] [.sc (.int .i64)] (fun (r8 : Int) h9 =>
  br (r8 != r5.2)
  (K (.bool false) h9)
  (br (!((Option.isNone r3.1) == (Option.isNone r5.1)))
  (K (.bool false) h9)
  (K7 () h9))) h10) (fun (_s11 : Unit) _ h12 =>
  br (Option.isNone r3.1)
  (K (.bool true) h12)
  (loopT [.sc (.int .i64)] (fun (s14 : Int) _ (K13 : Int → Heap → Prop) h15 =>
  br (decide (s14 < (((l_1l : Nat) : Int))))
  (ptrW l_1 (fun a16 =>
  idxW s14 l_1l true (ldAggW [.int .i64, .int .i64] (Addr.add a16 (Int.toNat s14 * 2)) (fun (x17 : Int × Int) =>
  newW (.cells (zeroC Tryd.prog 35) 35) (fun a18 h19 =>
  stLW a18 [.int .i64 x17.1, .int .i64 x17.2] (fun h20 =>
  cutT [] (fun (K21 : Unit → Heap → Prop) h40 =>
  ldAggW [.int .i64, .int .i64] a18 (fun (x22 : Int × Int) =>
  ldAggW [.int .i64, .int .i64] a18 (fun (x23 : Int × Int) =>
  callT Tryd.prog 9 [.pointer r3.1, .agg #[.int .i64 x22.1, .int .i64 x22.2]] [.sc .bool] (fun (r24 : Bool) h25 =>
  (cellH h25 (Addr.add a18 0) = some (.int .i64 x23.1) ∧ (cellH h25 (Addr.add a18 1) = some (.int .i64 x23.2) ∧ callT Tryd.prog 10 [.pointer r5.1, .agg #[.int .i64 x23.1, .int .i64 x23.2]] [.sc .bool] (fun (r26 : Bool) h27 =>
  br (!(r24 == r26))
  (K (.bool false) h27)
  (ptrW r5.1 (fun a28 =>
  ldW .slice (Addr.add a28 0) (fun (x29 : Option Addr × Nat × Nat) =>
  callT Tryd.prog 12 [.pointer r3.1] [.sc .slice] (fun (r30 : (Option Addr × Nat × Nat)) h31 =>
  (cellH h31 (Addr.add a28 0) = some (.slice x29.1 x29.2.1 x29.2.2) ∧ callT Tryd.prog 11 [.slice r30.1 r30.2.1 r30.2.2, .slice x29.1 x29.2.1 x29.2.2] [.sc .bool] (fun (r32 : Bool) h33 =>
  br (!r32)
  (K (.bool false) h33)
  (ptrW r5.1 (fun a34 =>
  ldW .slice (Addr.add a34 1) (fun (x35 : Option Addr × Nat × Nat) =>
  callT Tryd.prog 13 [.pointer r3.1] [.sc .slice] (fun (r36 : (Option Addr × Nat × Nat)) h37 =>
  (cellH h37 (Addr.add a34 1) = some (.slice x35.1 x35.2.1 x35.2.2) ∧ callT Tryd.prog 11 [.slice r36.1 r36.2.1 r36.2.2, .slice x35.1 x35.2.1 x35.2.2] [.sc .bool] (fun (r38 : Bool) h39 =>
  br (!r38)
  (K (.bool false) h39)
  (K21 () h39)) h37)) h33) h33))) h31)) h27) h27))) h25))) h40) h40) h40) (fun (_s41 : Unit) _ h42 =>
  callT Tryd.prog 14 [.pointer r3.1] [.sc (.int .i64), .sc .bool] (fun (r43 : Int × Bool) h44 =>
  callT Tryd.prog 15 [.pointer r5.1] [.sc (.int .i64), .sc .bool] (fun (r45 : Int × Bool) h46 =>
  br (r43.1 != r45.1)
  (K (.bool false) h46)
  (br (!(r43.2 == r45.2))
  (K (.bool false) h46)
  (K13 (IntKind.wrap .i64 (s14 + (1 : Int))) h46))) h44) h42) h20) h19) h15) h15)))
  (K (.bool true) h15)) (0 : Int) h12)) h6) h4) h2))) h0)
set_option maxRecDepth 100000 in
theorem F3_eq (slots_0 : Int) (l_1 : Option Addr) (l_1l l_1c : Nat) (K : Value → Heap → Prop) (h0 : Heap) : funWE Tryd.prog 3 (.seq (.leaf) (.seq (.seq (.leaf) (.cond (.seq (.leaf) (.leaf)) (.leaf))) (.seq (.seq (.leaf) (.cond (.seq (.leaf) (.leaf)) (.leaf))) (.seq (.leaf) (.seq (.leaf) (.cut [] (.seq (.leaf) (.cond (.seq (.leaf) (.leaf)) (.leaf))) (.seq (.seq (.leaf) (.cond (.seq (.leaf) (.leaf)) (.leaf))) (.seq (.seq (.leaf) (.block (.loop [(45, .sc (.int .i64))] (.seq (.leaf) (.seq (.cond (.leaf) (.leaf)) (.seq (.block (.seq (.leaf) (.cut [] (.seq (.draw (odp [0, 1, 3, 4, 2, 5, 6, 7, 8, 10, 11, 12, 13, 9, 14, 15, 16, 17, 18, 20, 21, 22, 23, 19, 24, 25, 26] .nil) [200004, 200013, 200023]) (.cond (.seq (.leaf) (.leaf)) (.leaf))) (.seq (.leaf) (.seq (.leaf) (.seq (.leaf) (.cond (.seq (.leaf) (.leaf)) (.leaf)))))))) (.leaf))))))) (.seq (.leaf) (.leaf)))))))))) [.int .i64 slots_0, .slice l_1 l_1l l_1c] K h0 = F3 slots_0 l_1 l_1l l_1c K h0 := by kernel_rfl

-- function 5
set_option maxRecDepth 100000 in
def F5  (K : Value → Heap → Prop) (h0 : Heap) : Prop := (
  callT Tryd.prog 6 [.int .i64 4] [.sc .ptr, .sc .any] (fun (r1 : (Option Addr) × Value) h2 =>
  cutT [] (fun (K3 : Unit → Heap → Prop) h4 =>
  br (Option.isNone r1.1)
  (K (.bool false) h4)
  (ifW r1.2 (br (!(isNilV r1.2))
  (K (.bool false) h4)
  (K3 () h4)))) (fun (_s5 : Unit) _ h6 =>
  cutT [.sc .bool] (fun (K7 : Bool → Heap → Prop) h16 =>
  callT Tryd.prog 29 [.pointer r1.1, .int .i64 0] [.sc .bool] (fun (r8 : Bool) h9 =>
  br r8
  (callT Tryd.prog 29 [.pointer r1.1, .int .i64 1] [.sc .bool] (fun (r10 : Bool) h11 =>
  br r10
  (callT Tryd.prog 29 [.pointer r1.1, .int .i64 2] [.sc .bool] (fun (r12 : Bool) h13 =>
  br r12
  (callT Tryd.prog 30 [.pointer r1.1, .int .i64 0] [.sc .bool] (fun (r14 : Bool) h15 =>
  K7 r14 h15) h13)
  (K7 false h13)) h11)
  (K7 false h11)) h9)
  (K7 false h9)) h16) (fun (s17 : Bool) _ h18 =>
  cutT [.sc .bool] (fun (K19 : Bool → Heap → Prop) h26 =>
  callT Tryd.prog 29 [.pointer r1.1, .int .i64 2] [.sc .bool] (fun (r20 : Bool) h21 =>
  br r20
  (K19 true h21)
  (callT Tryd.prog 30 [.pointer r1.1, .int .i64 3] [.sc .bool] (fun (r22 : Bool) h23 =>
  br r22
  (K19 true h23)
  (callT Tryd.prog 31 [.pointer r1.1, .int .i64 3] [.sc .bool] (fun (r24 : Bool) h25 =>
  K19 r24 h25) h23)) h21)) h26) (fun (s27 : Bool) _ h28 =>
  callT Tryd.prog 14 [.pointer r1.1] [.sc (.int .i64), .sc .bool] (fun (r29 : Int × Bool) h30 =>
  br s17
  (br (!s27)
  (br (r29.1 == (1 : Int))
  (br r29.2
  (callT Tryd.prog 12 [.pointer r1.1] [.sc .slice] (fun (r31 : (Option Addr × Nat × Nat)) h32 =>
  newW (.cells #[.int .i64 2, .int .i64 1] 3) (fun a33 h34 =>
  callT Tryd.prog 11 [.slice r31.1 r31.2.1 r31.2.2, .slice (some a33) 2 2] [.sc .bool] (fun (r35 : Bool) h36 =>
  br r35
  (callT Tryd.prog 13 [.pointer r1.1] [.sc .slice] (fun (r37 : (Option Addr × Nat × Nat)) h38 =>
  newW (.cells #[.int .i64 0] 3) (fun a39 h40 =>
  callT Tryd.prog 11 [.slice r37.1 r37.2.1 r37.2.2, .slice (some a39) 1 1] [.sc .bool] (fun (r41 : Bool) h42 =>
  K (.bool r41) h42) h40) h38) h36)
  (K (.bool false) h36)) h34) h32) h30)
  (K (.bool false) h30))
  (K (.bool false) h30))
  (K (.bool false) h30))
  (K (.bool false) h30)) h28) h18) h6) h2) h0)
set_option maxRecDepth 100000 in
theorem F5_eq  (K : Value → Heap → Prop) (h0 : Heap) : funWE Tryd.prog 5 (.seq (.leaf) (.seq (.leaf) (.cut [] (.seq (.leaf) (.cond (.seq (.leaf) (.leaf)) (.leaf))) (.cut [(3, .sc .bool)] (.leaf) (.cut [(4, .sc .bool)] (.leaf) (.seq (.leaf) (.seq (.leaf) (.leaf)))))))) [] K h0 = F5  K h0 := by kernel_rfl

-- function 9
set_option maxRecDepth 100000 in
def F9 (k_0 : Addr) (x_1_0 : Int) (x_1_1 : Int) (K : Value → Heap → Prop) (h0 : Heap) : Prop := (
  newW (.cells #[.int .i64 x_1_0, .int .i64 x_1_1] 35) (fun a1 h2 =>
  ldW (.int .i64) (Addr.add a1 0) (fun (x3 : Int) =>
  br (x3 == (0 : Int))
  (ldW (.int .i64) (Addr.add a1 1) (fun (x4 : Int) =>
  callT Tryd.prog 29 [.pointer (some k_0), .int .i64 x4] [.sc .bool] (fun (r5 : Bool) h6 =>
  K (.bool r5) h6) h2) h2)
  (br (x3 == (1 : Int))
  (ldW (.int .i64) (Addr.add a1 1) (fun (x7 : Int) =>
  callT Tryd.prog 30 [.pointer (some k_0), .int .i64 x7] [.sc .bool] (fun (r8 : Bool) h9 =>
  K (.bool r8) h9) h2) h2)
  (br (x3 == (2 : Int))
  (ldW (.int .i64) (Addr.add a1 1) (fun (x10 : Int) =>
  callT Tryd.prog 31 [.pointer (some k_0), .int .i64 x10] [.sc .bool] (fun (r11 : Bool) h12 =>
  K (.bool r11) h12) h2) h2)
  (br (x3 == (3 : Int))
  (callT Tryd.prog 14 [.pointer (some k_0)] [.sc (.int .i64), .sc .bool] (fun (r13 : Int × Bool) h14 =>
  br r13.2
  (callT Tryd.prog 31 [.pointer (some k_0), .int .i64 r13.1] [.sc .bool] (fun (r15 : Bool) h16 =>
  K (.bool r15) h16) h14)
  (K (.bool false) h14)) h2)
  (K (.bool false) h2))))) h2) h0)
set_option maxRecDepth 100000 in
theorem F9_eq (k_0 : Addr) (x_1_0 : Int) (x_1_1 : Int) (K : Value → Heap → Prop) (h0 : Heap) : funWE Tryd.prog 9 (.seq (.leaf) (.seq (.seq (.leaf) (.block (.seq (.leaf) (.cond (.seq (.leaf) (.leaf)) (.seq (.leaf) (.cond (.seq (.leaf) (.leaf)) (.seq (.leaf) (.cond (.seq (.leaf) (.leaf)) (.seq (.leaf) (.cond (.seq (.leaf) (.seq (.leaf) (.cond (.seq (.leaf) (.leaf)) (.leaf)))) (.leaf))))))))))) (.seq (.leaf) (.leaf)))) [.pointer (some k_0), .agg #[.int .i64 x_1_0, .int .i64 x_1_1]] K h0 = F9 k_0 x_1_0 x_1_1 K h0 := by kernel_rfl

-- function 10
set_option maxRecDepth 100000 in
def F10 (k_0 : Addr) (x_1_0 : Int) (x_1_1 : Int) (K : Value → Heap → Prop) (h0 : Heap) : Prop := (
  newW (.cells #[.int .i64 x_1_0, .int .i64 x_1_1] 35) (fun a1 h2 =>
  ldW (.int .i64) (Addr.add a1 0) (fun (x3 : Int) =>
  br (x3 == (0 : Int))
  (ldW (.int .i64) (Addr.add a1 1) (fun (x4 : Int) =>
  callT Tryd.prog 33 [.pointer (some k_0), .int .i64 x4] [.sc .bool] (fun (r5 : Bool) h6 =>
  K (.bool r5) h6) h2) h2)
  (br (x3 == (1 : Int))
  (ldW (.int .i64) (Addr.add a1 1) (fun (x7 : Int) =>
  callT Tryd.prog 34 [.pointer (some k_0), .int .i64 x7] [.sc .bool] (fun (r8 : Bool) h9 =>
  K (.bool r8) h9) h2) h2)
  (br (x3 == (2 : Int))
  (ldW (.int .i64) (Addr.add a1 1) (fun (x10 : Int) =>
  callT Tryd.prog 35 [.pointer (some k_0), .int .i64 x10] [.sc .bool] (fun (r11 : Bool) h12 =>
  K (.bool r11) h12) h2) h2)
  (br (x3 == (3 : Int))
  (callT Tryd.prog 15 [.pointer (some k_0)] [.sc (.int .i64), .sc .bool] (fun (r13 : Int × Bool) h14 =>
  br r13.2
  (callT Tryd.prog 35 [.pointer (some k_0), .int .i64 r13.1] [.sc .bool] (fun (r15 : Bool) h16 =>
  K (.bool r15) h16) h14)
  (K (.bool false) h14)) h2)
  (K (.bool false) h2))))) h2) h0)
set_option maxRecDepth 100000 in
theorem F10_eq (k_0 : Addr) (x_1_0 : Int) (x_1_1 : Int) (K : Value → Heap → Prop) (h0 : Heap) : funWE Tryd.prog 10 (.seq (.leaf) (.seq (.seq (.leaf) (.block (.seq (.leaf) (.cond (.seq (.leaf) (.leaf)) (.seq (.leaf) (.cond (.seq (.leaf) (.leaf)) (.seq (.leaf) (.cond (.seq (.leaf) (.leaf)) (.seq (.leaf) (.cond (.seq (.leaf) (.seq (.leaf) (.cond (.seq (.leaf) (.leaf)) (.leaf)))) (.leaf))))))))))) (.seq (.leaf) (.leaf)))) [.pointer (some k_0), .agg #[.int .i64 x_1_0, .int .i64 x_1_1]] K h0 = F10 k_0 x_1_0 x_1_1 K h0 := by kernel_rfl

end Go.Proofs.YtfanjfbenhocnaaDoor.W
