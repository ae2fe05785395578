/-
  The formulas that the calculus comes to at the functions of package index, each checked by the kernel. Printed by a program of this repo.
-/
import Derived.Test.YtfanjfbenhocnaaProg
import Derived.Test.YtfanjfbenhocnaaPl
namespace Go.Proofs.Ytfanjfbenhocnaa.W
open Go.Pl

-- function 3
set_option maxRecDepth 100000 in
def F3 (room_0 : Int) (l_1 : Option Addr) (l_1l _l_1c : Nat) (key_2 : Int) (K : Value → Heap → Prop) (h0 : Heap) : Prop := (
  callT Try.prog 10 [] [.sc .bool] (fun (r1 : Bool) h2 =>
  br (!r1)
  (K (.bool false) h2)
  (callT Try.prog 11 [.int .i64 room_0] [.sc .ptr, .sc .any] (fun (r3 : (Option Addr) × Value) h4 =>
  cutT [] (fun (K5 : Unit → Heap → Prop) h6 =>
  br (Option.isNone r3.1)
  (K (.bool true) h6)
  (br (decide ((((l_1l : Nat) : Int)) > (300 : Int)))
  (K (.bool true) h6)
  (K5 () h6))) (fun (_s7 : Unit) _ h8 =>
  loopT [.sc (.int .i64), .sc .bool, .sc (.int .i64)] (fun (s10 : Int × Bool × Int) _ (K9 : (Int × Bool × Int) → Heap → Prop) h11 =>
  br (decide (s10.2.2 < (((l_1l : Nat) : Int))))
  (ptrW l_1 (fun a12 =>
  idxW s10.2.2 l_1l true (ldAggW [.int .i64, .int .u32, .int .i64] (Addr.add a12 (Int.toNat s10.2.2 * 3)) (fun (x13 : Int × Int × Int) =>
  newW (.cells (zeroC Try.prog 31) 31) (fun a14 h15 =>
  stLW a14 [.int .i64 x13.1, .int .u32 x13.2.1, .int .i64 x13.2.2] (fun h16 =>
  callT Try.prog 12 [.pointer r3.1] [.sc (.int .i64)] (fun (r17 : Int) h18 =>
  cutT [.sc (.int .i64), .sc .bool] (fun (K19 : (Int × Bool) → Heap → Prop) h35 =>
  ldW (.int .i64) (Addr.add a14 0) (fun (x20 : Int) =>
  br (x20 == (0 : Int))
  (ldW (.int .u32) (Addr.add a14 1) (fun (x21 : Int) =>
  ldW (.int .i64) (Addr.add a14 2) (fun (x22 : Int) =>
  callT Try.prog 13 [.pointer r3.1, .int .u32 x21, .int .i64 x22] [.sc .bool] (fun (r23 : Bool) h24 =>
  cutT [.sc (.int .i64), .sc .bool] (fun (K25 : (Int × Bool) → Heap → Prop) h28 =>
  br r23
  (ldW (.int .u32) (Addr.add a14 1) (fun (x26 : Int) =>
  br (x26 == key_2)
  (ldW (.int .i64) (Addr.add a14 2) (fun (x27 : Int) =>
  K25 (x27, true) h28) h28)
  (K25 (s10.1, s10.2.1) h28)) h28)
  (K25 (s10.1, s10.2.1) h28)) (fun (s29 : Int × Bool) _ h30 =>
  br (!r23)
  (br (decide (r17 < room_0))
  (K (.bool false) h30)
  (K19 (s29.1, s29.2) h30))
  (K19 (s29.1, s29.2) h30)) h24) h35) h35) h35)
  (br (x20 == (1 : Int))
  (ldW (.int .u32) (Addr.add a14 1) (fun (x31 : Int) =>
  callT Try.prog 14 [.pointer r3.1, .int .u32 x31] [.sc .bool] (fun (r32 : Bool) h33 =>
  ldW (.int .u32) (Addr.add a14 1) (fun (x34 : Int) =>
  br (x34 == key_2)
  (br (!(r32 == s10.2.1))
  (K (.bool false) h33)
  (K19 ((0 : Int), false) h33))
  (K19 (s10.1, s10.2.1) h33)) h33) h35) h35)
  (K19 (s10.1, s10.2.1) h35))) h35) (fun (s36 : Int × Bool) _ h37 =>
  callT Try.prog 15 [.pointer r3.1, .int .u32 key_2] [.sc (.int .i64), .sc .bool] (fun (r38 : Int × Bool) h39 =>
  br (r38.1 != s36.1)
  (K (.bool false) h39)
  (br (!(r38.2 == s36.2))
  (K (.bool false) h39)
  (callT Try.prog 12 [.pointer r3.1] [.sc (.int .i64)] (fun (r40 : Int) h41 =>
  br (decide (r40 > room_0))
  (K (.bool false) h41)
  (K9 (s36.1, s36.2, (IntKind.wrap .i64 (s10.2.2 + (1 : Int)))) h41)) h39))) h37) h18) h16) h15) h11) h11)))
  (K (.bool true) h11)) ((0 : Int), false, (0 : Int)) h8) h4) h2)) h0)
set_option maxRecDepth 100000 in
theorem F3_eq (room_0 : Int) (l_1 : Option Addr) (l_1l l_1c : Nat) (key_2 : Int) (K : Value → Heap → Prop) (h0 : Heap) : funW Try.prog 3 (.seq (.leaf) (.seq (.seq (.leaf) (.cond (.seq (.leaf) (.leaf)) (.leaf))) (.seq (.leaf) (.cut [] (.seq (.leaf) (.cond (.seq (.leaf) (.leaf)) (.leaf))) (.seq (.leaf) (.seq (.seq (.leaf) (.block (.loop [(9, .sc (.int .i64)), (10, .sc .bool), (33, .sc (.int .i64))] (.seq (.leaf) (.seq (.cond (.leaf) (.leaf)) (.seq (.block (.seq (.leaf) (.seq (.leaf) (.seq (.leaf) (.cut [(9, .sc (.int .i64)), (10, .sc .bool)] (.seq (.leaf) (.block (.seq (.leaf) (.cond (.seq (.leaf) (.cut [(9, .sc (.int .i64)), (10, .sc .bool)] (.seq (.leaf) (.cond (.leaf) (.leaf))) (.seq (.leaf) (.cond (.seq (.leaf) (.leaf)) (.leaf))))) (.seq (.leaf) (.cond (.seq (.leaf) (.seq (.leaf) (.cond (.seq (.seq (.leaf) (.cond (.seq (.leaf) (.leaf)) (.leaf))) (.leaf)) (.leaf)))) (.leaf))))))) (.seq (.leaf) (.seq (.leaf) (.cond (.seq (.leaf) (.leaf)) (.leaf))))))))) (.leaf))))))) (.seq (.leaf) (.leaf)))))))) [.int .i64 room_0, .slice l_1 l_1l l_1c, .int .u32 key_2] K h0 = F3 room_0 l_1 l_1l l_1c key_2 K h0 := by kernel_rfl

-- function 10
set_option maxRecDepth 100000 in
def F10  (K : Value → Heap → Prop) (h0 : Heap) : Prop := (
  callT Try.prog 11 [.int .i64 1] [.sc .ptr, .sc .any] (fun (r1 : (Option Addr) × Value) h2 =>
  cutT [] (fun (K3 : Unit → Heap → Prop) h4 =>
  br (Option.isNone r1.1)
  (K (.bool false) h4)
  (ifW r1.2 (br (!(isNilV r1.2))
  (K (.bool false) h4)
  (K3 () h4)))) (fun (_s5 : Unit) _ h6 =>
  callT Try.prog 13 [.pointer r1.1, .int .u32 7, .int .i64 0] [.sc .bool] (fun (r7 : Bool) h8 =>
  callT Try.prog 13 [.pointer r1.1, .int .u32 8, .int .i64 1] [.sc .bool] (fun (r9 : Bool) h10 =>
  callT Try.prog 13 [.pointer r1.1, .int .u32 7, .int .i64 2] [.sc .bool] (fun (r11 : Bool) h12 =>
  callT Try.prog 15 [.pointer r1.1, .int .u32 7] [.sc (.int .i64), .sc .bool] (fun (r13 : Int × Bool) h14 =>
  callT Try.prog 15 [.pointer r1.1, .int .u32 8] [.sc (.int .i64), .sc .bool] (fun (r15 : Int × Bool) h16 =>
  br r7
  (br (!r9)
  (br r11
  (br (r13.1 == (2 : Int))
  (br r13.2
  (br (!r15.2)
  (callT Try.prog 12 [.pointer r1.1] [.sc (.int .i64)] (fun (r17 : Int) h18 =>
  br (r17 == (1 : Int))
  (callT Try.prog 14 [.pointer r1.1, .int .u32 7] [.sc .bool] (fun (r19 : Bool) h20 =>
  br r19
  (callT Try.prog 14 [.pointer r1.1, .int .u32 7] [.sc .bool] (fun (r21 : Bool) h22 =>
  br (!r21)
  (callT Try.prog 12 [.pointer r1.1] [.sc (.int .i64)] (fun (r23 : Int) h24 =>
  K (.bool (r23 == (0 : Int))) h24) h22)
  (K (.bool false) h22)) h20)
  (K (.bool false) h20)) h18)
  (K (.bool false) h18)) h16)
  (K (.bool false) h16))
  (K (.bool false) h16))
  (K (.bool false) h16))
  (K (.bool false) h16))
  (K (.bool false) h16))
  (K (.bool false) h16)) h14) h12) h10) h8) h6) h2) h0)
set_option maxRecDepth 100000 in
theorem F10_eq  (K : Value → Heap → Prop) (h0 : Heap) : funW Try.prog 10 (.seq (.leaf) (.seq (.leaf) (.cut [] (.seq (.leaf) (.cond (.seq (.leaf) (.leaf)) (.leaf))) (.seq (.leaf) (.seq (.leaf) (.seq (.leaf) (.seq (.leaf) (.leaf)))))))) [] K h0 = F10  K h0 := by kernel_rfl

-- function 11
set_option maxRecDepth 100000 in
def F11 (room_0 : Int) (K : Value → Heap → Prop) (h0 : Heap) : Prop := (
  cutT [.sc .bool] (fun (K1 : Bool → Heap → Prop) h2 =>
  br (decide (room_0 < (1 : Int)))
  (K1 true h2)
  (K1 (decide (room_0 > (64 : Int))) h2)) (fun (s3 : Bool) _ h4 =>
  br s3
  (K (.tuple #[.pointer none, .iface 82 (.int .i64 1)]) h4)
  (newW (.cells (repL 128 [.bool false, .int .u32 0, .int .i64 0] [.int .i64 0, .int .i64 room_0]) 87) (fun a5 h6 =>
  K (.tuple #[.pointer (some a5), .nilIface]) h6) h4)) h0)
set_option maxRecDepth 100000 in
theorem F11_eq (room_0 : Int) (K : Value → Heap → Prop) (h0 : Heap) : funW Try.prog 11 (.seq (.leaf) (.seq (.cut [(9, .sc .bool)] (.leaf) (.cond (.seq (.leaf) (.leaf)) (.leaf))) (.seq (.leaf) (.leaf)))) [.int .i64 room_0] K h0 = F11 room_0 K h0 := by kernel_rfl

-- function 12
set_option maxRecDepth 100000 in
def F12 (x_0 : Addr) (K : Value → Heap → Prop) (h0 : Heap) : Prop := (
  ldW (.int .i64) (Addr.add x_0 384) (fun (x1 : Int) =>
  K (.int .i64 x1) h0) h0)
set_option maxRecDepth 100000 in
theorem F12_eq (x_0 : Addr) (K : Value → Heap → Prop) (h0 : Heap) : funW Try.prog 12 (.seq (.leaf) (.seq (.leaf) (.leaf))) [.pointer (some x_0)] K h0 = F12 x_0 K h0 := by kernel_rfl

-- function 13
set_option maxRecDepth 100000 in
def F13 (x_0 : Addr) (key_1 : Int) (slot_2 : Int) (K : Value → Heap → Prop) (h0 : Heap) : Prop := (
  callT Try.prog 39 [.pointer (some x_0), .int .u32 key_1] [.sc (.int .i64)] (fun (r1 : Int) h2 =>
  cutT [] (fun (K3 : Unit → Heap → Prop) h9 =>
  idxW r1 128 true (ldW .bool (Addr.add (Addr.add (Addr.add x_0 0) (Int.toNat r1 * 3)) 0) (fun (x4 : Bool) =>
  br (!x4)
  (ldW (.int .i64) (Addr.add x_0 384) (fun (x5 : Int) =>
  ldW (.int .i64) (Addr.add x_0 385) (fun (x6 : Int) =>
  br (x5 == x6)
  (K (.bool false) h9)
  (ldW (.int .i64) (Addr.add x_0 384) (fun (x7 : Int) =>
  stW (Addr.add x_0 384) (.int .i64 (IntKind.wrap .i64 (x7 + (1 : Int)))) (fun h8 =>
  K3 () h8) h9) h9)) h9) h9)
  (K3 () h9)) h9)) (fun (_s10 : Unit) _ h11 =>
  idxW r1 128 true (stLW (Addr.add (Addr.add x_0 0) (Int.toNat r1 * 3)) [.bool true, .int .u32 key_1, .int .i64 slot_2] (fun h12 =>
  K (.bool true) h12) h11)) h2) h0)
set_option maxRecDepth 100000 in
theorem F13_eq (x_0 : Addr) (key_1 : Int) (slot_2 : Int) (K : Value → Heap → Prop) (h0 : Heap) : funW Try.prog 13 (.seq (.leaf) (.seq (.leaf) (.cut [] (.seq (.leaf) (.cond (.seq (.seq (.draw [0, 1, 2, 3, 4, 5, 6, 7, 8] []) (.cond (.seq (.leaf) (.leaf)) (.leaf))) (.leaf)) (.leaf))) (.seq (.leaf) (.seq (.leaf) (.leaf)))))) [.pointer (some x_0), .int .u32 key_1, .int .i64 slot_2] K h0 = F13 x_0 key_1 slot_2 K h0 := by kernel_rfl

-- function 14
set_option maxRecDepth 100000 in
def F14 (x_0 : Addr) (key_1 : Int) (K : Value → Heap → Prop) (h0 : Heap) : Prop := (
  callT Try.prog 39 [.pointer (some x_0), .int .u32 key_1] [.sc (.int .i64)] (fun (r1 : Int) h2 =>
  idxW r1 128 true (ldW .bool (Addr.add (Addr.add (Addr.add x_0 0) (Int.toNat r1 * 3)) 0) (fun (x3 : Bool) =>
  br (!x3)
  (K (.bool false) h2)
  (ldW (.int .i64) (Addr.add x_0 384) (fun (x4 : Int) =>
  stW (Addr.add x_0 384) (.int .i64 (IntKind.wrap .i64 (x4 - (1 : Int)))) (fun h5 =>
  loopT [.sc (.int .i64), .sc (.int .i64)] (fun (s7 : Int × Int) _ (K6 : (Int × Int) → Heap → Prop) h8 =>
  idxW s7.1 128 true (stLW (Addr.add (Addr.add x_0 0) (Int.toNat s7.1 * 3)) [.bool false, .int .u32 0, .int .i64 0] (fun h9 =>
  loopT [.sc (.int .i64), .sc (.int .i64)] (fun (s11 : Int × Int) _ (K10 : (Int × Int) → Heap → Prop) h12 =>
  idxW (Int.tmod (IntKind.wrap .i64 (s11.2 + (1 : Int))) (128 : Int)) 128 true (ldAggW [.bool, .int .u32, .int .i64] (Addr.add (Addr.add x_0 0) (Int.toNat (Int.tmod (IntKind.wrap .i64 (s11.2 + (1 : Int))) (128 : Int)) * 3)) (fun (x13 : Bool × Int × Int) =>
  newW (.cells (zeroC Try.prog 84) 84) (fun a14 h15 =>
  stLW a14 [.bool x13.1, .int .u32 x13.2.1, .int .i64 x13.2.2] (fun h16 =>
  ldW .bool (Addr.add a14 0) (fun (x17 : Bool) =>
  br (!x17)
  (K (.bool true) h16)
  (ldW (.int .u32) (Addr.add a14 1) (fun (x18 : Int) =>
  callT Try.prog 40 [.int .u32 x18] [.sc (.int .i64)] (fun (r19 : Int) h20 =>
  br (decide ((Int.tmod (IntKind.wrap .i64 ((IntKind.wrap .i64 ((Int.tmod (IntKind.wrap .i64 (s11.2 + (1 : Int))) (128 : Int)) - r19)) + (128 : Int))) (128 : Int)) ≥ (Int.tmod (IntKind.wrap .i64 ((IntKind.wrap .i64 ((Int.tmod (IntKind.wrap .i64 (s11.2 + (1 : Int))) (128 : Int)) - s11.1)) + (128 : Int))) (128 : Int))))
  (ldAggW [.bool, .int .u32, .int .i64] a14 (fun (x21 : Bool × Int × Int) =>
  idxW s11.1 128 true (stLW (Addr.add (Addr.add x_0 0) (Int.toNat s11.1 * 3)) [.bool x21.1, .int .u32 x21.2.1, .int .i64 x21.2.2] (fun h22 =>
  K6 ((Int.tmod (IntKind.wrap .i64 (s11.2 + (1 : Int))) (128 : Int)), (Int.tmod (IntKind.wrap .i64 (s11.2 + (1 : Int))) (128 : Int))) h22) h20)) h20)
  (K10 (s11.1, (Int.tmod (IntKind.wrap .i64 (s11.2 + (1 : Int))) (128 : Int))) h20)) h16) h16)) h16) h15) h12) h12)) (s7.1, s7.2) h9) h8)) (r1, r1) h5) h2) h2)) h2)) h0)
set_option maxRecDepth 100000 in
theorem F14_eq (x_0 : Addr) (key_1 : Int) (K : Value → Heap → Prop) (h0 : Heap) : funW Try.prog 14 (.seq (.leaf) (.block (.seq (.leaf) (.seq (.seq (.leaf) (.cond (.seq (.leaf) (.leaf)) (.leaf))) (.seq (.leaf) (.seq (.leaf) (.seq (.leaf) (.seq (.block (.loop [(5, .sc (.int .i64)), (6, .sc (.int .i64))] (.block (.seq (.leaf) (.block (.loop [(5, .sc (.int .i64)), (6, .sc (.int .i64))] (.block (.seq (.leaf) (.seq (.leaf) (.seq (.seq (.leaf) (.cond (.leaf) (.leaf))) (.seq (.leaf) (.seq (.leaf) (.cond (.seq (.draw [0, 1, 2, 3, 4, 5, 6, 7, 8] []) (.leaf)) (.leaf)))))))))))))) (.seq (.leaf) (.leaf)))))))))) [.pointer (some x_0), .int .u32 key_1] K h0 = F14 x_0 key_1 K h0 := by kernel_rfl

-- function 15
set_option maxRecDepth 100000 in
def F15 (x_0 : Addr) (key_1 : Int) (K : Value → Heap → Prop) (h0 : Heap) : Prop := (
  callQ Try.prog 39 [.pointer (some x_0), .int .u32 key_1] [.sc (.int .i64)] (fun (r1 : Int) =>
  idxW r1 128 true (ldAggW [.bool, .int .u32, .int .i64] (Addr.add (Addr.add x_0 0) (Int.toNat r1 * 3)) (fun (x2 : Bool × Int × Int) =>
  newW (.cells (zeroC Try.prog 84) 84) (fun a3 h4 =>
  stLW a3 [.bool x2.1, .int .u32 x2.2.1, .int .i64 x2.2.2] (fun h5 =>
  ldW .bool (Addr.add a3 0) (fun (x6 : Bool) =>
  br (!x6)
  (K (.tuple #[.int .i64 0, .bool false]) h5)
  (ldW (.int .i64) (Addr.add a3 2) (fun (x7 : Int) =>
  K (.tuple #[.int .i64 x7, .bool true]) h5) h5)) h5) h4) h0) h0)) h0)
set_option maxRecDepth 100000 in
theorem F15_eq (x_0 : Addr) (key_1 : Int) (K : Value → Heap → Prop) (h0 : Heap) : funW Try.prog 15 (.seq (.leaf) (.seq (.draw [0, 1, 2, 3, 4, 5, 6, 7, 8, 9] [3]) (.seq (.seq (.leaf) (.cond (.seq (.leaf) (.leaf)) (.leaf))) (.seq (.leaf) (.leaf))))) [.pointer (some x_0), .int .u32 key_1] K h0 = F15 x_0 key_1 K h0 := by kernel_rfl

-- function 39
set_option maxRecDepth 100000 in
def F39 (x_0 : Addr) (key_1 : Int) (K : Value → Heap → Prop) (h0 : Heap) : Prop := (
  callT Try.prog 40 [.int .u32 key_1] [.sc (.int .i64)] (fun (r1 : Int) h2 =>
  loopT [.sc (.int .i64)] (fun (s4 : Int) _ (K3 : Int → Heap → Prop) h5 =>
  idxW s4 128 true (ldW .bool (Addr.add (Addr.add (Addr.add x_0 0) (Int.toNat s4 * 3)) 0) (fun (x6 : Bool) =>
  br x6
  (idxW s4 128 true (ldW (.int .u32) (Addr.add (Addr.add (Addr.add x_0 0) (Int.toNat s4 * 3)) 1) (fun (x7 : Int) =>
  br (x7 != key_1)
  (K3 (Int.tmod (IntKind.wrap .i64 (s4 + (1 : Int))) (128 : Int)) h5)
  (K (.int .i64 s4) h5)) h5))
  (K (.int .i64 s4) h5)) h5)) r1 h2) h0)
set_option maxRecDepth 100000 in
theorem F39_eq (x_0 : Addr) (key_1 : Int) (K : Value → Heap → Prop) (h0 : Heap) : funW Try.prog 39 (.seq (.leaf) (.seq (.leaf) (.seq (.block (.loop [(5, .sc (.int .i64))] (.seq (.seq (.leaf) (.cond (.leaf) (.leaf))) (.block (.leaf))))) (.seq (.leaf) (.leaf))))) [.pointer (some x_0), .int .u32 key_1] K h0 = F39 x_0 key_1 K h0 := by kernel_rfl

-- function 40
set_option maxRecDepth 100000 in
def F40 (key_0 : Int) (K : Value → Heap → Prop) (h0 : Heap) : Prop := (
  K (.int .i64 (IntKind.wrap .i64 (Int.fdiv (IntKind.wrap .u32 (key_0 * (2654435761 : Int))) 33554432))) h0)
set_option maxRecDepth 100000 in
theorem F40_eq (key_0 : Int) (K : Value → Heap → Prop) (h0 : Heap) : funW Try.prog 40 (.seq (.leaf) (.seq (.leaf) (.leaf))) [.int .u32 key_0] K h0 = F40 key_0 K h0 := by kernel_rfl

end Go.Proofs.Ytfanjfbenhocnaa.W
