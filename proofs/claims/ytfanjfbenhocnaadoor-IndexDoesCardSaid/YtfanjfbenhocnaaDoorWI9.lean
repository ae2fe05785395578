/-
  The formulas of reference 09 and of the law IndexDoes. Each formula checked by the kernel. Printed by a program of this repo.
-/
import Derived.Test.YtfanjfbenhocnaaDoorProg
import Derived.Test.YtfanjfbenhocnaaDoorPl
namespace Go.Proofs.YtfanjfbenhocnaaDoor.W
open Go.Pl

-- function 4
set_option maxRecDepth 100000 in
def F4 (room_0 : Int) (l_1 : Option Addr) (l_1l _l_1c : Nat) (key_2 : Int) (K : Value → Heap → Prop) (h0 : Heap) : Prop := (
  callT Tryd.prog 16 [] [.sc .bool] (fun (r1 : Bool) h2 =>
  br (!r1)
  (K (.bool false) h2)
  (br (decide ((((l_1l : Nat) : Int)) > (300 : Int)))
  (K (.bool true) h2)
  (callT Tryd.prog 17 [.int .i64 room_0] [.sc .ptr, .sc .any] (fun (r3 : (Option Addr) × Value) h4 =>
  callT Tryd.prog 18 [.int .i64 room_0] [.sc .ptr, .sc (.int .i64)] (fun (r5 : (Option Addr) × Int) h6 =>
  cutT [] (fun (K7 : Unit → Heap → Prop) h10 =>
  callT Tryd.prog 8 [r3.2] [.sc (.int .i64)] (fun (r8 : Int) h9 =>
  br (r8 != r5.2)
  (K (.bool false) h9)
  (br (!((Option.isNone r3.1) == (Option.isNone r5.1)))
  (K (.bool false) h9)
  (K7 () h9))) h10) (fun (_s11 : Unit) _ h12 =>
  br (Option.isNone r3.1)
  (K (.bool true) h12)
  (loopT [.sc (.int .i64)] (fun (s14 : Int) _ (K13 : Int → Heap → Prop) h15 =>
  br (decide (s14 < (((l_1l : Nat) : Int))))
  (ptrW l_1 (fun a16 =>
  idxW s14 l_1l true (ldAggW [.int .i64, .int .u32, .int .i64] (Addr.add a16 (Int.toNat s14 * 3)) (fun (x17 : Int × Int × Int) =>
  newW (.cells (zeroC Tryd.prog 55) 55) (fun a18 h19 =>
  stLW a18 [.int .i64 x17.1, .int .u32 x17.2.1, .int .i64 x17.2.2] (fun h20 =>
  cutT [.sc .bool] (fun (K21 : Bool → Heap → Prop) h43 =>
  ldW (.int .i64) (Addr.add a18 0) (fun (x22 : Int) =>
  br (x22 == (0 : Int))
  (ldW (.int .u32) (Addr.add a18 1) (fun (x23 : Int) =>
  ldW (.int .i64) (Addr.add a18 2) (fun (x24 : Int) =>
  ldW (.int .u32) (Addr.add a18 1) (fun (x25 : Int) =>
  ldW (.int .i64) (Addr.add a18 2) (fun (x26 : Int) =>
  callT Tryd.prog 19 [.pointer r3.1, .int .u32 x23, .int .i64 x24] [.sc .bool] (fun (r27 : Bool) h28 =>
  (cellH h28 (Addr.add a18 2) = some (.int .i64 x26) ∧ (cellH h28 (Addr.add a18 1) = some (.int .u32 x25) ∧ callT Tryd.prog 20 [.pointer r5.1, .int .u32 x25, .int .i64 x26] [.sc .bool] (fun (r29 : Bool) h30 =>
  K21 (r27 == r29) h30) h28))) h43) h43) h43) h43) h43)
  (br (x22 == (1 : Int))
  (ldW (.int .u32) (Addr.add a18 1) (fun (x31 : Int) =>
  ldW (.int .u32) (Addr.add a18 1) (fun (x32 : Int) =>
  callT Tryd.prog 21 [.pointer r3.1, .int .u32 x31] [.sc .bool] (fun (r33 : Bool) h34 =>
  (cellH h34 (Addr.add a18 1) = some (.int .u32 x32) ∧ callT Tryd.prog 22 [.pointer r5.1, .int .u32 x32] [.sc .bool] (fun (r35 : Bool) h36 =>
  K21 (r33 == r35) h36) h34)) h43) h43) h43)
  (ldW (.int .u32) (Addr.add a18 1) (fun (x37 : Int) =>
  callT Tryd.prog 23 [.pointer r3.1, .int .u32 x37] [.sc (.int .i64), .sc .bool] (fun (r38 : Int × Bool) h39 =>
  ldW (.int .u32) (Addr.add a18 1) (fun (x40 : Int) =>
  callT Tryd.prog 24 [.pointer r5.1, .int .u32 x40] [.sc (.int .i64), .sc .bool] (fun (r41 : Int × Bool) h42 =>
  br (r38.1 == r41.1)
  (K21 (r38.2 == r41.2) h42)
  (K21 false h42)) h39) h39) h43) h43))) h43) (fun (s44 : Bool) _ h45 =>
  callT Tryd.prog 23 [.pointer r3.1, .int .u32 key_2] [.sc (.int .i64), .sc .bool] (fun (r46 : Int × Bool) h47 =>
  callT Tryd.prog 24 [.pointer r5.1, .int .u32 key_2] [.sc (.int .i64), .sc .bool] (fun (r48 : Int × Bool) h49 =>
  br (!s44)
  (K (.bool false) h49)
  (br (r46.1 != r48.1)
  (K (.bool false) h49)
  (br (!(r46.2 == r48.2))
  (K (.bool false) h49)
  (ptrW r5.1 (fun a50 =>
  ldW .slice (Addr.add a50 0) (fun (x51 : Option Addr × Nat × Nat) =>
  callT Tryd.prog 25 [.pointer r3.1] [.sc (.int .i64)] (fun (r52 : Int) h53 =>
  (cellH h53 (Addr.add a50 0) = some (.slice x51.1 x51.2.1 x51.2.2) ∧ br (r52 != (((x51.2.1 : Nat) : Int)))
  (K (.bool false) h53)
  (callT Tryd.prog 27 [.pointer r3.1] [.sc .slice] (fun (r54 : (Option Addr × Nat × Nat)) h55 =>
  (cellH h55 (Addr.add a50 0) = some (.slice x51.1 x51.2.1 x51.2.2) ∧ callT Tryd.prog 28 [.pointer r5.1] [.sc .slice] (fun (r56 : (Option Addr × Nat × Nat)) h57 =>
  (cellH h57 (Addr.add a50 0) = some (.slice x51.1 x51.2.1 x51.2.2) ∧ callT Tryd.prog 26 [.slice r54.1 r54.2.1 r54.2.2, .slice r56.1 r56.2.1 r56.2.2] [.sc .bool] (fun (r58 : Bool) h59 =>
  (cellH h59 (Addr.add a50 0) = some (.slice x51.1 x51.2.1 x51.2.2) ∧ br (!r58)
  (K (.bool false) h59)
  (K13 (IntKind.wrap .i64 (s14 + (1 : Int))) h59))) h57)) h55)) h53))) h49) h49))))) h47) h45) h20) h19) h15) h15)))
  (K (.bool true) h15)) (0 : Int) h12)) h6) h4) h2))) h0)
set_option maxRecDepth 100000 in
theorem F4_eq (room_0 : Int) (l_1 : Option Addr) (l_1l l_1c : Nat) (key_2 : Int) (K : Value → Heap → Prop) (h0 : Heap) : funWE Tryd.prog 4 (.seq (.leaf) (.seq (.seq (.leaf) (.cond (.seq (.leaf) (.leaf)) (.leaf))) (.seq (.seq (.leaf) (.cond (.seq (.leaf) (.leaf)) (.leaf))) (.seq (.leaf) (.seq (.leaf) (.cut [] (.seq (.leaf) (.cond (.seq (.leaf) (.leaf)) (.leaf))) (.seq (.seq (.leaf) (.cond (.seq (.leaf) (.leaf)) (.leaf))) (.seq (.seq (.leaf) (.block (.loop [(52, .sc (.int .i64))] (.seq (.leaf) (.seq (.cond (.leaf) (.leaf)) (.seq (.block (.seq (.leaf) (.seq (.leaf) (.cut [(13, .sc .bool)] (.seq (.leaf) (.block (.seq (.leaf) (.cond (.draw (odp [0, 1, 2, 3, 4, 6, 7, 8, 9, 10, 5, 11, 12, 13] .nil) [200008, 200010]) (.seq (.leaf) (.cond (.draw (odp [0, 1, 2, 4, 5, 6, 3, 7, 8, 9] .nil) [200006]) (.seq (.leaf) (.seq (.leaf) (.leaf))))))))) (.seq (.leaf) (.seq (.leaf) (.seq (.draw (odp [0, 1, 2, 3, 4, 5, 6, 7, 8, 9, 10, 11, 12, 13, 15, 16, 17, 18, 19, 14, 20, 21, 22, 23, 25, 24, 26, 27, 28, 29] .nil) [200018]) (.cond (.seq (.leaf) (.leaf)) (.leaf))))))))) (.leaf))))))) (.seq (.leaf) (.leaf)))))))))) [.int .i64 room_0, .slice l_1 l_1l l_1c, .int .u32 key_2] K h0 = F4 room_0 l_1 l_1l l_1c key_2 K h0 := by kernel_rfl

-- function 16
set_option maxRecDepth 100000 in
def F16  (K : Value → Heap → Prop) (h0 : Heap) : Prop := (
  callT Tryd.prog 17 [.int .i64 1] [.sc .ptr, .sc .any] (fun (r1 : (Option Addr) × Value) h2 =>
  cutT [] (fun (K3 : Unit → Heap → Prop) h4 =>
  br (Option.isNone r1.1)
  (K (.bool false) h4)
  (ifW r1.2 (br (!(isNilV r1.2))
  (K (.bool false) h4)
  (K3 () h4)))) (fun (_s5 : Unit) _ h6 =>
  callT Tryd.prog 19 [.pointer r1.1, .int .u32 7, .int .i64 0] [.sc .bool] (fun (r7 : Bool) h8 =>
  callT Tryd.prog 19 [.pointer r1.1, .int .u32 8, .int .i64 1] [.sc .bool] (fun (r9 : Bool) h10 =>
  callT Tryd.prog 19 [.pointer r1.1, .int .u32 7, .int .i64 2] [.sc .bool] (fun (r11 : Bool) h12 =>
  callT Tryd.prog 23 [.pointer r1.1, .int .u32 7] [.sc (.int .i64), .sc .bool] (fun (r13 : Int × Bool) h14 =>
  callT Tryd.prog 23 [.pointer r1.1, .int .u32 8] [.sc (.int .i64), .sc .bool] (fun (r15 : Int × Bool) h16 =>
  br r7
  (br (!r9)
  (br r11
  (br (r13.1 == (2 : Int))
  (br r13.2
  (br (!r15.2)
  (callT Tryd.prog 25 [.pointer r1.1] [.sc (.int .i64)] (fun (r17 : Int) h18 =>
  br (r17 == (1 : Int))
  (callT Tryd.prog 21 [.pointer r1.1, .int .u32 7] [.sc .bool] (fun (r19 : Bool) h20 =>
  br r19
  (callT Tryd.prog 21 [.pointer r1.1, .int .u32 7] [.sc .bool] (fun (r21 : Bool) h22 =>
  br (!r21)
  (callT Tryd.prog 25 [.pointer r1.1] [.sc (.int .i64)] (fun (r23 : Int) h24 =>
  K (.bool (r23 == (0 : Int))) h24) h22)
  (K (.bool false) h22)) h20)
  (K (.bool false) h20)) h18)
  (K (.bool false) h18)) h16)
  (K (.bool false) h16))
  (K (.bool false) h16))
  (K (.bool false) h16))
  (K (.bool false) h16))
  (K (.bool false) h16))
  (K (.bool false) h16)) h14) h12) h10) h8) h6) h2) h0)
set_option maxRecDepth 100000 in
theorem F16_eq  (K : Value → Heap → Prop) (h0 : Heap) : funWE Tryd.prog 16 (.seq (.leaf) (.seq (.leaf) (.cut [] (.seq (.leaf) (.cond (.seq (.leaf) (.leaf)) (.leaf))) (.seq (.leaf) (.seq (.leaf) (.seq (.leaf) (.seq (.leaf) (.leaf)))))))) [] K h0 = F16  K h0 := by kernel_rfl

-- function 18
set_option maxRecDepth 100000 in
def F18 (room_0 : Int) (K : Value → Heap → Prop) (h0 : Heap) : Prop := (
  cutT [.sc .bool] (fun (K1 : Bool → Heap → Prop) h2 =>
  br (decide (room_0 < (1 : Int)))
  (K1 true h2)
  (K1 (decide (room_0 > (64 : Int))) h2)) (fun (s3 : Bool) _ h4 =>
  br s3
  (K (.tuple #[.pointer none, .int .i64 1]) h4)
  (newW (.cells #[.slice none 0 0, .int .i64 room_0] 62) (fun a5 h6 =>
  K (.tuple #[.pointer (some a5), .int .i64 0]) h6) h4)) h0)
set_option maxRecDepth 100000 in
theorem F18_eq (room_0 : Int) (K : Value → Heap → Prop) (h0 : Heap) : funWE Tryd.prog 18 (.seq (.leaf) (.seq (.cut [(9, .sc .bool)] (.leaf) (.cond (.seq (.leaf) (.leaf)) (.leaf))) (.seq (.leaf) (.leaf)))) [.int .i64 room_0] K h0 = F18 room_0 K h0 := by kernel_rfl

-- function 20
set_option maxRecDepth 100000 in
def F20 (x_0 : Addr) (key_1 : Int) (slot_2 : Int) (K : Value → Heap → Prop) (h0 : Heap) : Prop := (
  callT Tryd.prog 24 [.pointer (some x_0), .int .u32 key_1] [.sc (.int .i64), .sc .bool] (fun (r1 : Int × Bool) h2 =>
  cutT [] (fun (K3 : Unit → Heap → Prop) h6 =>
  br (!r1.2)
  (ldW .slice (Addr.add x_0 0) (fun (x4 : Option Addr × Nat × Nat) =>
  ldW (.int .i64) (Addr.add x_0 1) (fun (x5 : Int) =>
  br (decide ((((x4.2.1 : Nat) : Int)) ≥ x5))
  (K (.bool false) h6)
  (K3 () h6)) h6) h6)
  (K3 () h6)) (fun (_s7 : Unit) _ h8 =>
  callT Tryd.prog 22 [.pointer (some x_0), .int .u32 key_1] [.sc .bool] (fun (_r9 : Bool) h10 =>
  newW (.cells #[] 83) (fun a11 h12 =>
  loopT [.sc .slice, .sc (.int .i64)] (fun (s14 : (Option Addr × Nat × Nat) × Int) _ (K13 : ((Option Addr × Nat × Nat) × Int) → Heap → Prop) h15 =>
  cutT [] (fun (K16 : Unit → Heap → Prop) h51 =>
  ldW .slice (Addr.add x_0 0) (fun (x17 : Option Addr × Nat × Nat) =>
  br (decide (s14.2 < (((x17.2.1 : Nat) : Int))))
  (ldW .slice (Addr.add x_0 0) (fun (x18 : Option Addr × Nat × Nat) =>
  ptrW x18.1 (fun a19 =>
  idxW s14.2 x18.2.1 true (ldW (.int .u32) (Addr.add (Addr.add a19 (Int.toNat s14.2 * 2)) 0) (fun (x20 : Int) =>
  br (decide (x20 < key_1))
  (K16 () h51)
  (ldW .slice (Addr.add x_0 0) (fun (x21 : Option Addr × Nat × Nat) =>
  slW x21.1 x21.2.2 2 s14.2 (((x21.2.1 : Nat) : Int)) (((x21.2.2 : Nat) : Int)) (fun b22 n23 c24 =>
  newW (.cells #[.int .u32 key_1, .int .i64 slot_2] 83) (fun a25 h26 =>
  apW Tryd.prog #[60, 60] #[.slice s14.1.1 s14.1.2.1 s14.1.2.2, .slice (some a25) 1 1] (fun b27 n28 c29 h30 =>
  (cellH h30 (Addr.add x_0 0) = some (.slice x21.1 x21.2.1 x21.2.2) ∧ apW Tryd.prog #[60, 60] #[.slice b27 n28 c29, .slice b22 n23 c24] (fun b31 n32 c33 h34 =>
  (cellH h34 (Addr.add x_0 0) = some (.slice x21.1 x21.2.1 x21.2.2) ∧ stW (Addr.add x_0 0) (.slice b31 n32 c33) (fun h35 =>
  K (.bool true) h35) h34)) h30)) h26) h51)) h51)) h51))) h51)
  (ldW .slice (Addr.add x_0 0) (fun (x36 : Option Addr × Nat × Nat) =>
  slW x36.1 x36.2.2 2 s14.2 (((x36.2.1 : Nat) : Int)) (((x36.2.2 : Nat) : Int)) (fun b37 n38 c39 =>
  newW (.cells #[.int .u32 key_1, .int .i64 slot_2] 83) (fun a40 h41 =>
  apW Tryd.prog #[60, 60] #[.slice s14.1.1 s14.1.2.1 s14.1.2.2, .slice (some a40) 1 1] (fun b42 n43 c44 h45 =>
  (cellH h45 (Addr.add x_0 0) = some (.slice x36.1 x36.2.1 x36.2.2) ∧ apW Tryd.prog #[60, 60] #[.slice b42 n43 c44, .slice b37 n38 c39] (fun b46 n47 c48 h49 =>
  (cellH h49 (Addr.add x_0 0) = some (.slice x36.1 x36.2.1 x36.2.2) ∧ stW (Addr.add x_0 0) (.slice b46 n47 c48) (fun h50 =>
  K (.bool true) h50) h49)) h45)) h41) h51)) h51)) h51) (fun (_s52 : Unit) _ h53 =>
  ldW .slice (Addr.add x_0 0) (fun (x54 : Option Addr × Nat × Nat) =>
  ptrW x54.1 (fun a55 =>
  idxW s14.2 x54.2.1 true (ldAggW [.int .u32, .int .i64] (Addr.add a55 (Int.toNat s14.2 * 2)) (fun (x56 : Int × Int) =>
  newW (.cells #[.int .u32 x56.1, .int .i64 x56.2] 83) (fun a57 h58 =>
  apW Tryd.prog #[60, 60] #[.slice s14.1.1 s14.1.2.1 s14.1.2.2, .slice (some a57) 1 1] (fun b59 n60 c61 h62 =>
  K13 ((b59, n60, c61), (IntKind.wrap .i64 (s14.2 + (1 : Int)))) h62) h58) h53) h53))) h53) h15) (((some a11), 0, 0), (0 : Int)) h12) h10) h8) h2) h0)
set_option maxRecDepth 100000 in
theorem F20_eq (x_0 : Addr) (key_1 : Int) (slot_2 : Int) (K : Value → Heap → Prop) (h0 : Heap) : funWE Tryd.prog 20 (.seq (.leaf) (.seq (.leaf) (.cut [] (.seq (.draw (odp [0, 1, 2, 3, 4, 5, 6, 7, 8, 9, 10, 11, 12, 13] .nil) []) (.cond (.seq (.leaf) (.leaf)) (.leaf))) (.seq (.leaf) (.seq (.leaf) (.seq (.leaf) (.seq (.block (.loop [(9, .sc .slice), (10, .sc (.int .i64))] (.cut [] (.seq (.leaf) (.cond (.leaf) (.leaf))) (.block (.seq (.leaf) (.leaf)))))) (.seq (.draw (odp [0, 1, 2, 3, 4, 7, 8, 9, 10, 11, 12, 5, 6, 13, 14, 15, 16] .nil) [200010]) (.seq (.leaf) (.leaf)))))))))) [.pointer (some x_0), .int .u32 key_1, .int .i64 slot_2] K h0 = F20 x_0 key_1 slot_2 K h0 := by kernel_rfl

-- function 22
set_option maxRecDepth 100000 in
def F22 (x_0 : Addr) (key_1 : Int) (K : Value → Heap → Prop) (h0 : Heap) : Prop := (
  newW (.cells #[] 83) (fun a1 h2 =>
  loopT [.sc .slice, .sc (.int .i64)] (fun (s4 : (Option Addr × Nat × Nat) × Int) _ (K3 : ((Option Addr × Nat × Nat) × Int) → Heap → Prop) h5 =>
  ldW .slice (Addr.add x_0 0) (fun (x6 : Option Addr × Nat × Nat) =>
  br (decide (s4.2 < (((x6.2.1 : Nat) : Int))))
  (ldW .slice (Addr.add x_0 0) (fun (x7 : Option Addr × Nat × Nat) =>
  ptrW x7.1 (fun a8 =>
  idxW s4.2 x7.2.1 true (ldW (.int .u32) (Addr.add (Addr.add a8 (Int.toNat s4.2 * 2)) 0) (fun (x9 : Int) =>
  br (x9 != key_1)
  (ldW .slice (Addr.add x_0 0) (fun (x10 : Option Addr × Nat × Nat) =>
  ptrW x10.1 (fun a11 =>
  idxW s4.2 x10.2.1 true (ldAggW [.int .u32, .int .i64] (Addr.add a11 (Int.toNat s4.2 * 2)) (fun (x12 : Int × Int) =>
  newW (.cells #[.int .u32 x12.1, .int .i64 x12.2] 83) (fun a13 h14 =>
  apW Tryd.prog #[60, 60] #[.slice s4.1.1 s4.1.2.1 s4.1.2.2, .slice (some a13) 1 1] (fun b15 n16 c17 h18 =>
  K3 ((b15, n16, c17), (IntKind.wrap .i64 (s4.2 + (1 : Int)))) h18) h14) h5) h5))) h5)
  (K3 ((s4.1.1, s4.1.2.1, s4.1.2.2), (IntKind.wrap .i64 (s4.2 + (1 : Int)))) h5)) h5))) h5)
  (ldW .slice (Addr.add x_0 0) (fun (x19 : Option Addr × Nat × Nat) =>
  stW (Addr.add x_0 0) (.slice s4.1.1 s4.1.2.1 s4.1.2.2) (fun h20 =>
  K (.bool (decide ((((s4.1.2.1 : Nat) : Int)) < (((x19.2.1 : Nat) : Int))))) h20) h5) h5)) h5) (((some a1), 0, 0), (0 : Int)) h2) h0)
set_option maxRecDepth 100000 in
theorem F22_eq (x_0 : Addr) (key_1 : Int) (K : Value → Heap → Prop) (h0 : Heap) : funWE Tryd.prog 22 (.seq (.leaf) (.seq (.leaf) (.seq (.seq (.leaf) (.block (.loop [(5, .sc .slice), (6, .sc (.int .i64))] (.seq (.seq (.leaf) (.cond (.leaf) (.leaf))) (.seq (.block (.seq (.leaf) (.cond (.leaf) (.leaf)))) (.leaf)))))) (.seq (.leaf) (.seq (.leaf) (.seq (.leaf) (.leaf))))))) [.pointer (some x_0), .int .u32 key_1] K h0 = F22 x_0 key_1 K h0 := by kernel_rfl

-- function 24
set_option maxRecDepth 100000 in
def F24 (x_0 : Addr) (key_1 : Int) (K : Value → Heap → Prop) (h0 : Heap) : Prop := (
  loopT [.sc (.int .i64)] (fun (s2 : Int) _ (K1 : Int → Heap → Prop) h3 =>
  ldW .slice (Addr.add x_0 0) (fun (x4 : Option Addr × Nat × Nat) =>
  br (decide (s2 < (((x4.2.1 : Nat) : Int))))
  (ldW .slice (Addr.add x_0 0) (fun (x5 : Option Addr × Nat × Nat) =>
  ptrW x5.1 (fun a6 =>
  idxW s2 x5.2.1 true (ldW (.int .u32) (Addr.add (Addr.add a6 (Int.toNat s2 * 2)) 0) (fun (x7 : Int) =>
  br (x7 == key_1)
  (ldW .slice (Addr.add x_0 0) (fun (x8 : Option Addr × Nat × Nat) =>
  ptrW x8.1 (fun a9 =>
  idxW s2 x8.2.1 true (ldW (.int .i64) (Addr.add (Addr.add a9 (Int.toNat s2 * 2)) 1) (fun (x10 : Int) =>
  K (.tuple #[.int .i64 x10, .bool true]) h3) h3))) h3)
  (K1 (IntKind.wrap .i64 (s2 + (1 : Int))) h3)) h3))) h3)
  (K (.tuple #[.int .i64 0, .bool false]) h3)) h3) (0 : Int) h0)
set_option maxRecDepth 100000 in
theorem F24_eq (x_0 : Addr) (key_1 : Int) (K : Value → Heap → Prop) (h0 : Heap) : funWE Tryd.prog 24 (.seq (.leaf) (.seq (.seq (.leaf) (.block (.loop [(6, .sc (.int .i64))] (.seq (.seq (.leaf) (.cond (.leaf) (.leaf))) (.seq (.block (.seq (.leaf) (.cond (.seq (.leaf) (.leaf)) (.leaf)))) (.leaf)))))) (.seq (.leaf) (.leaf)))) [.pointer (some x_0), .int .u32 key_1] K h0 = F24 x_0 key_1 K h0 := by kernel_rfl

-- function 28
set_option maxRecDepth 100000 in
def F28 (x_0 : Addr) (K : Value → Heap → Prop) (h0 : Heap) : Prop := (
  newW (.cells #[] 47) (fun a1 h2 =>
  loopT [.sc .slice, .sc (.int .i64)] (fun (s4 : (Option Addr × Nat × Nat) × Int) _ (K3 : ((Option Addr × Nat × Nat) × Int) → Heap → Prop) h5 =>
  ldW .slice (Addr.add x_0 0) (fun (x6 : Option Addr × Nat × Nat) =>
  br (decide (s4.2 < (((x6.2.1 : Nat) : Int))))
  (ldW .slice (Addr.add x_0 0) (fun (x7 : Option Addr × Nat × Nat) =>
  ptrW x7.1 (fun a8 =>
  idxW s4.2 x7.2.1 true (ldW (.int .u32) (Addr.add (Addr.add a8 (Int.toNat s4.2 * 2)) 0) (fun (x9 : Int) =>
  newW (.cells #[.int .u32 x9] 47) (fun a10 h11 =>
  apW Tryd.prog #[64, 64] #[.slice s4.1.1 s4.1.2.1 s4.1.2.2, .slice (some a10) 1 1] (fun b12 n13 c14 h15 =>
  K3 ((b12, n13, c14), (IntKind.wrap .i64 (s4.2 + (1 : Int)))) h15) h11) h5) h5))) h5)
  (K (.slice s4.1.1 s4.1.2.1 s4.1.2.2) h5)) h5) (((some a1), 0, 0), (0 : Int)) h2) h0)
set_option maxRecDepth 100000 in
theorem F28_eq (x_0 : Addr) (K : Value → Heap → Prop) (h0 : Heap) : funWE Tryd.prog 28 (.seq (.leaf) (.seq (.leaf) (.seq (.seq (.leaf) (.block (.loop [(3, .sc .slice), (4, .sc (.int .i64))] (.seq (.seq (.leaf) (.cond (.leaf) (.leaf))) (.seq (.block (.leaf)) (.leaf)))))) (.seq (.leaf) (.leaf))))) [.pointer (some x_0)] K h0 = F28 x_0 K h0 := by kernel_rfl

-- function 26
set_option maxRecDepth 100000 in
def F26 (a_0 : Option Addr) (a_0l _a_0c : Nat) (b_1 : Option Addr) (b_1l _b_1c : Nat) (K : Value → Heap → Prop) (h0 : Heap) : Prop := (
  br ((((a_0l : Nat) : Int)) != (((b_1l : Nat) : Int)))
  (K (.bool false) h0)
  (loopT [.sc (.int .i64)] (fun (s2 : Int) _ (K1 : Int → Heap → Prop) h3 =>
  br (decide (s2 < (((a_0l : Nat) : Int))))
  (ptrW a_0 (fun a4 =>
  idxW s2 a_0l true (ldW (.int .u32) (Addr.add a4 (Int.toNat s2 * 1)) (fun (x5 : Int) =>
  ptrW b_1 (fun a6 =>
  idxW s2 b_1l true (ldW (.int .u32) (Addr.add a6 (Int.toNat s2 * 1)) (fun (x7 : Int) =>
  br (x5 != x7)
  (K (.bool false) h3)
  (K1 (IntKind.wrap .i64 (s2 + (1 : Int))) h3)) h3))) h3)))
  (K (.bool true) h3)) (0 : Int) h0))
set_option maxRecDepth 100000 in
theorem F26_eq (a_0 : Option Addr) (a_0l a_0c : Nat) (b_1 : Option Addr) (b_1l b_1c : Nat) (K : Value → Heap → Prop) (h0 : Heap) : funWE Tryd.prog 26 (.seq (.leaf) (.seq (.seq (.leaf) (.cond (.seq (.leaf) (.leaf)) (.leaf))) (.seq (.seq (.leaf) (.block (.loop [(5, .sc (.int .i64))] (.seq (.seq (.leaf) (.cond (.leaf) (.leaf))) (.seq (.block (.seq (.draw (odp [0, 1, 2, 3, 4, 5, 6, 7, 8] .nil) []) (.cond (.seq (.leaf) (.leaf)) (.leaf)))) (.leaf)))))) (.seq (.leaf) (.leaf))))) [.slice a_0 a_0l a_0c, .slice b_1 b_1l b_1c] K h0 = F26 a_0 a_0l a_0c b_1 b_1l b_1c K h0 := by kernel_rfl

end Go.Proofs.YtfanjfbenhocnaaDoor.W
