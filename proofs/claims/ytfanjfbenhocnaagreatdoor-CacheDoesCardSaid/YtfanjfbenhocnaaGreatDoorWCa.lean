/-
  The formulas of package cache. Each formula checked by the kernel. Printed by a program of this repo.
-/
import Derived.Test.YtfanjfbenhocnaaGreatDoorProg
import Derived.Test.YtfanjfbenhocnaaGreatDoorPl
namespace Go.Proofs.YtfanjfbenhocnaaGreatDoor.W
open Go.Pl

-- function 5
set_option maxRecDepth 100000 in
def F5 (room_0 : Int) (K : Value → Heap → Prop) (h0 : Heap) : Prop := (
  callT Tryz.prog 26 [.int .i64 room_0] [.sc .ptr, .sc .any] (fun (r1 : (Option Addr) × Value) h2 =>
  ifW r1.2 (br (!(isNilV r1.2))
  (K (.tuple #[.pointer none, r1.2]) h2)
  (callT Tryz.prog 27 [.int .i64 room_0] [.sc .ptr, .sc .any] (fun (r3 : (Option Addr) × Value) h4 =>
  ifW r3.2 (br (!(isNilV r3.2))
  (K (.tuple #[.pointer none, r3.2]) h4)
  (mkW Tryz.prog 60 room_0 room_0 (fun b5 n6 c7 h8 =>
  newW (.cells #[.pointer r1.1, .pointer r3.1, .slice b5 n6 c7, .slice none 0 0] 47) (fun a9 h10 =>
  loopT [.sc (.int .i64)] (fun (s12 : Int) _ (K11 : Int → Heap → Prop) h13 =>
  br (decide (s12 < room_0))
  (ldW .slice (Addr.add a9 3) (fun (x14 : Option Addr × Nat × Nat) =>
  newW (.cells #[.int .i64 (IntKind.wrap .i64 ((IntKind.wrap .i64 (room_0 - (1 : Int))) - s12))] 3) (fun a15 h16 =>
  apW Tryz.prog #[45, 45] #[.slice x14.1 x14.2.1 x14.2.2, .slice (some a15) 1 1] (fun b17 n18 c19 h20 =>
  stW (Addr.add a9 3) (.slice b17 n18 c19) (fun h21 =>
  K11 (IntKind.wrap .i64 (s12 + (1 : Int))) h21) h20) h16) h13) h13)
  (K (.tuple #[.pointer (some a9), .nilIface]) h13)) (0 : Int) h10) h8) h4))) h2))) h0)
set_option maxRecDepth 100000 in
theorem F5_eq (room_0 : Int) (K : Value → Heap → Prop) (h0 : Heap) : funWE Tryz.prog 5 (.seq (.leaf) (.seq (.leaf) (.seq (.seq (.leaf) (.cond (.seq (.leaf) (.leaf)) (.leaf))) (.seq (.leaf) (.seq (.seq (.leaf) (.cond (.seq (.leaf) (.leaf)) (.leaf))) (.seq (.leaf) (.seq (.seq (.leaf) (.block (.loop [(32, .sc (.int .i64))] (.seq (.leaf) (.seq (.cond (.leaf) (.leaf)) (.seq (.block (.seq (.leaf) (.leaf))) (.leaf))))))) (.seq (.leaf) (.leaf))))))))) [.int .i64 room_0] K h0 = F5 room_0 K h0 := by kernel_rfl

-- function 19
set_option maxRecDepth 100000 in
def F19 (c_0 : Addr) (K : Value → Heap → Prop) (h0 : Heap) : Prop := (
  newW (.cells (zeroC Tryz.prog 60) 60) (fun a1 h2 =>
  ldW .ptr (Addr.add c_0 0) (fun (x3 : Option Addr) =>
  callT Tryz.prog 40 [.pointer x3] [.sc (.int .i64), .sc .bool] (fun (r4 : Int × Bool) h5 =>
  br (!r4.2)
  (stLW a1 [.int .i64 0, .int .u32 0, .bool false] (fun h6 =>
  ldAggW [.int .i64, .int .u32, .bool] a1 (fun (x7 : Int × Int × Bool) =>
  K (.tuple #[.agg #[.int .i64 x7.1, .int .u32 x7.2.1, .bool x7.2.2], .bool false]) h6) h6) h5)
  (ldW .slice (Addr.add c_0 2) (fun (x8 : Option Addr × Nat × Nat) =>
  ptrW x8.1 (fun a9 =>
  idxW r4.1 x8.2.1 true (ldAggW [.int .i64, .int .u32, .bool] (Addr.add a9 (Int.toNat r4.1 * 3)) (fun (x10 : Int × Int × Bool) =>
  stLW a1 [.int .i64 x10.1, .int .u32 x10.2.1, .bool x10.2.2] (fun h11 =>
  ldAggW [.int .i64, .int .u32, .bool] a1 (fun (x12 : Int × Int × Bool) =>
  K (.tuple #[.agg #[.int .i64 x12.1, .int .u32 x12.2.1, .bool x12.2.2], .bool true]) h11) h11) h5) h5))) h5)) h2) h2) h0)
set_option maxRecDepth 100000 in
theorem F19_eq (c_0 : Addr) (K : Value → Heap → Prop) (h0 : Heap) : funWE Tryz.prog 19 (.seq (.leaf) (.seq (.leaf) (.seq (.seq (.leaf) (.cond (.seq (.leaf) (.leaf)) (.leaf))) (.seq (.leaf) (.leaf))))) [.pointer (some c_0)] K h0 = F19 c_0 K h0 := by kernel_rfl

-- function 22
set_option maxRecDepth 100000 in
def F22 (c_0 : Addr) (block_1 : Int) (K : Value → Heap → Prop) (h0 : Heap) : Prop := (
  callT Tryz.prog 42 [.pointer (some c_0), .int .i64 block_1] [.sc (.int .i64), .sc .bool] (fun (r1 : Int × Bool) h2 =>
  br (!r1.2)
  (K (.tuple #[.int .u32 0, .bool false]) h2)
  (ldW .slice (Addr.add c_0 2) (fun (x3 : Option Addr × Nat × Nat) =>
  ptrW x3.1 (fun a4 =>
  idxW r1.1 x3.2.1 true (ldW (.int .u32) (Addr.add (Addr.add a4 (Int.toNat r1.1 * 3)) 1) (fun (x5 : Int) =>
  K (.tuple #[.int .u32 x5, .bool true]) h2) h2))) h2)) h0)
set_option maxRecDepth 100000 in
theorem F22_eq (c_0 : Addr) (block_1 : Int) (K : Value → Heap → Prop) (h0 : Heap) : funWE Tryz.prog 22 (.seq (.leaf) (.seq (.leaf) (.seq (.seq (.leaf) (.cond (.seq (.leaf) (.leaf)) (.leaf))) (.seq (.leaf) (.leaf))))) [.pointer (some c_0), .int .i64 block_1] K h0 = F22 c_0 block_1 K h0 := by kernel_rfl

-- function 14
set_option maxRecDepth 100000 in
def F14 (c_0 : Addr) (table_1 : Int) (K : Value → Heap → Prop) (h0 : Heap) : Prop := (
  newW (.cells #[.int .i64 table_1] 3) (fun a1 h2 =>
  newW (.cells (zeroC Tryz.prog 44) 44) (fun a3 h4 =>
  callT Tryz.prog 37 [.pointer (some c_0)] [.sc .any] (fun (r5 : Value) h6 =>
  rfW r5 (fun n43 x44 x45 =>
  rangeW Tryz.prog n43 x44 x45 [.sc .ptr] (fun l7 o8 (s9 : (Option Addr)) Y10 h11 =>
  roundIn l7 o8 (fun h13 =>
  ptrW s9 (fun a15 =>
  ldW (.int .i64) (Addr.add a15 0) (fun (x16 : Int) =>
  callT Tryz.prog 38 [.int .i64 x16] [.sc (.int .i64), .sc (.int .i64)] (fun (r17 : Int × Int) h18 =>
  cutT [.sc .bool] (fun (K19 : Bool → Heap → Prop) h23 =>
  ptrW s9 (fun a20 =>
  ldW .bool (Addr.add a20 2) (fun (x21 : Bool) =>
  br x21
  (ldW (.int .i64) a1 (fun (x22 : Int) =>
  K19 (r17.1 == x22) h23) h23)
  (K19 false h23)) h23)) (fun (s24 : Bool) _ h25 =>
  br s24
  (ldW .slice a3 (fun (x26 : Option Addr × Nat × Nat) =>
  ptrW s9 (fun a27 =>
  ldAggW [.int .i64, .int .u32, .bool] a27 (fun (x28 : Int × Int × Bool) =>
  newW (.cells #[.int .i64 x28.1, .int .u32 x28.2.1, .bool x28.2.2] 60) (fun a29 h30 =>
  apW Tryz.prog #[44, 44] #[.slice x26.1 x26.2.1 x26.2.2, .slice (some a29) 1 1] (fun b31 n32 c33 h34 =>
  stW a3 (.slice b31 n32 c33) (fun h35 =>
  roundEnd l7 o8.rdy (Y10 true) h35) h34) h30) h25) h25)) h25)
  (roundEnd l7 o8.rdy (Y10 true) h25)) h18) h13) h13)) h11) (fun l41 o42 h36 =>
  (roundDone l41 o42.rdy (fun h37 =>
  ldW .slice a3 (fun (x38 : Option Addr × Nat × Nat) =>
  (∀ h39, Taken h0.size h37 h39 →
  K (.slice x38.1 x38.2.1 x38.2.2) h39)) h37) h36) ∨
  (roundDone l41 (o42.dn .ret) (fun h37 =>
  (∀ h40, Taken h0.size h37 h40 →
  K (.slice none 0 0) h40)) h36) ∨ False) h6)) h4) h2) h0)
set_option maxRecDepth 100000 in
theorem F14_eq (c_0 : Addr) (table_1 : Int) (K : Value → Heap → Prop) (h0 : Heap) : funWE Tryz.prog 14 (.seq (.leaf) (.seq (.leaf) (.seq (.seq (.leaf) (.block (.range [.sc .ptr] [] (.leaf) (.block (.seq (.leaf) (.cut [(28, .sc .bool)] (.leaf) (.cond (.draw (odp [0, 1, 2, 3, 4, 5, 6] .nil) []) (.leaf)))))))) (.seq (.leaf) (.leaf))))) [.pointer (some c_0), .int .i64 table_1] K h0 = F14 c_0 table_1 K h0 := by kernel_rfl

-- function 13
set_option maxRecDepth 100000 in
def F13 (c_0 : Addr) (K : Value → Heap → Prop) (h0 : Heap) : Prop := (
  newW (.cells (zeroC Tryz.prog 44) 44) (fun a1 h2 =>
  callT Tryz.prog 37 [.pointer (some c_0)] [.sc .any] (fun (r3 : Value) h4 =>
  rfW r3 (fun n30 x31 x32 =>
  rangeW Tryz.prog n30 x31 x32 [.sc .ptr] (fun l5 o6 (s7 : (Option Addr)) Y8 h9 =>
  roundIn l5 o6 (fun h11 =>
  ldW .slice a1 (fun (x13 : Option Addr × Nat × Nat) =>
  ptrW s7 (fun a14 =>
  ldAggW [.int .i64, .int .u32, .bool] a14 (fun (x15 : Int × Int × Bool) =>
  newW (.cells #[.int .i64 x15.1, .int .u32 x15.2.1, .bool x15.2.2] 60) (fun a16 h17 =>
  apW Tryz.prog #[44, 44] #[.slice x13.1 x13.2.1 x13.2.2, .slice (some a16) 1 1] (fun b18 n19 c20 h21 =>
  stW a1 (.slice b18 n19 c20) (fun h22 =>
  roundEnd l5 o6.rdy (Y8 true) h22) h21) h17) h11) h11)) h11) h9) (fun l28 o29 h23 =>
  (roundDone l28 o29.rdy (fun h24 =>
  ldW .slice a1 (fun (x25 : Option Addr × Nat × Nat) =>
  (∀ h26, Taken h0.size h24 h26 →
  K (.slice x25.1 x25.2.1 x25.2.2) h26)) h24) h23) ∨
  (roundDone l28 (o29.dn .ret) (fun h24 =>
  (∀ h27, Taken h0.size h24 h27 →
  K (.slice none 0 0) h27)) h23) ∨ False) h4)) h2) h0)
set_option maxRecDepth 100000 in
theorem F13_eq (c_0 : Addr) (K : Value → Heap → Prop) (h0 : Heap) : funWE Tryz.prog 13 (.seq (.leaf) (.seq (.leaf) (.seq (.seq (.leaf) (.block (.range [.sc .ptr] [] (.leaf) (.block (.draw (odp [0, 1, 2, 3, 4, 5, 6] .nil) []))))) (.seq (.leaf) (.leaf))))) [.pointer (some c_0)] K h0 = F13 c_0 K h0 := by kernel_rfl

-- function 17
set_option maxRecDepth 100000 in
def F17 (c_0 : Addr) (K : Value → Heap → Prop) (h0 : Heap) : Prop := (
  newW (.cells (zeroC Tryz.prog 45) 45) (fun a1 h2 =>
  callT Tryz.prog 37 [.pointer (some c_0)] [.sc .any] (fun (r3 : Value) h4 =>
  rfW r3 (fun n37 x38 x39 =>
  rangeW Tryz.prog n37 x38 x39 [.sc .ptr] (fun l5 o6 (s7 : (Option Addr)) Y8 h9 =>
  roundIn l5 o6 (fun h11 =>
  ptrW s7 (fun a13 =>
  ldW (.int .i64) (Addr.add a13 0) (fun (x14 : Int) =>
  callT Tryz.prog 38 [.int .i64 x14] [.sc (.int .i64), .sc (.int .i64)] (fun (r15 : Int × Int) h16 =>
  ptrW s7 (fun a17 =>
  ldW .bool (Addr.add a17 2) (fun (x18 : Bool) =>
  br x18
  (ldW .slice a1 (fun (x19 : Option Addr × Nat × Nat) =>
  callT Tryz.prog 39 [.slice x19.1 x19.2.1 x19.2.2, .int .i64 r15.1] [.sc .bool] (fun (r20 : Bool) h21 =>
  br (!r20)
  (ldW .slice a1 (fun (x22 : Option Addr × Nat × Nat) =>
  newW (.cells #[.int .i64 r15.1] 3) (fun a23 h24 =>
  apW Tryz.prog #[45, 45] #[.slice x22.1 x22.2.1 x22.2.2, .slice (some a23) 1 1] (fun b25 n26 c27 h28 =>
  stW a1 (.slice b25 n26 c27) (fun h29 =>
  roundEnd l5 o6.rdy (Y8 true) h29) h28) h24) h21) h21)
  (roundEnd l5 o6.rdy (Y8 true) h21)) h16) h16)
  (roundEnd l5 o6.rdy (Y8 true) h16)) h16)) h11) h11)) h9) (fun l35 o36 h30 =>
  (roundDone l35 o36.rdy (fun h31 =>
  ldW .slice a1 (fun (x32 : Option Addr × Nat × Nat) =>
  (∀ h33, Taken h0.size h31 h33 →
  K (.slice x32.1 x32.2.1 x32.2.2) h33)) h31) h30) ∨
  (roundDone l35 (o36.dn .ret) (fun h31 =>
  (∀ h34, Taken h0.size h31 h34 →
  K (.slice none 0 0) h34)) h30) ∨ False) h4)) h2) h0)
set_option maxRecDepth 100000 in
theorem F17_eq (c_0 : Addr) (K : Value → Heap → Prop) (h0 : Heap) : funWE Tryz.prog 17 (.seq (.leaf) (.seq (.leaf) (.seq (.seq (.leaf) (.block (.range [.sc .ptr] [] (.leaf) (.block (.seq (.leaf) (.seq (.leaf) (.cond (.leaf) (.leaf)))))))) (.seq (.leaf) (.leaf))))) [.pointer (some c_0)] K h0 = F17 c_0 K h0 := by kernel_rfl

-- function 23
set_option maxRecDepth 100000 in
def F23 (c_0 : Addr) (table_1 : Int) (K : Value → Heap → Prop) (h0 : Heap) : Prop := (
  newW (.cells #[.int .i64 table_1] 3) (fun a1 h2 =>
  newW (.cells (zeroC Tryz.prog 3) 3) (fun a3 h4 =>
  stW a3 (.int .i64 0) (fun h5 =>
  callT Tryz.prog 37 [.pointer (some c_0)] [.sc .any] (fun (r6 : Value) h7 =>
  rfW r6 (fun n38 x39 x40 =>
  rangeW Tryz.prog n38 x39 x40 [.sc .ptr] (fun l8 o9 (s10 : (Option Addr)) Y11 h12 =>
  roundIn l8 o9 (fun h14 =>
  ptrW s10 (fun a16 =>
  ldW (.int .i64) (Addr.add a16 0) (fun (x17 : Int) =>
  callT Tryz.prog 38 [.int .i64 x17] [.sc (.int .i64), .sc (.int .i64)] (fun (r18 : Int × Int) h19 =>
  cutT [.sc .bool] (fun (K20 : Bool → Heap → Prop) h24 =>
  ptrW s10 (fun a21 =>
  ldW .bool (Addr.add a21 2) (fun (x22 : Bool) =>
  br x22
  (ldW (.int .i64) a1 (fun (x23 : Int) =>
  K20 (r18.1 == x23) h24) h24)
  (K20 false h24)) h24)) (fun (s25 : Bool) _ h26 =>
  br s25
  (ptrW s10 (fun a27 =>
  stW (Addr.add a27 2) (.bool false) (fun h28 =>
  ldW (.int .i64) a3 (fun (x29 : Int) =>
  stW a3 (.int .i64 (IntKind.wrap .i64 (x29 + (1 : Int)))) (fun h30 =>
  roundEnd l8 o9.rdy (Y11 true) h30) h28) h28) h26))
  (roundEnd l8 o9.rdy (Y11 true) h26)) h19) h14) h14)) h12) (fun l36 o37 h31 =>
  (roundDone l36 o37.rdy (fun h32 =>
  ldW (.int .i64) a3 (fun (x33 : Int) =>
  (∀ h34, Taken h0.size h32 h34 →
  K (.int .i64 x33) h34)) h32) h31) ∨
  (roundDone l36 (o37.dn .ret) (fun h32 =>
  (∀ h35, Taken h0.size h32 h35 →
  K (.int .i64 0) h35)) h31) ∨ False) h7)) h5) h4) h2) h0)
set_option maxRecDepth 100000 in
theorem F23_eq (c_0 : Addr) (table_1 : Int) (K : Value → Heap → Prop) (h0 : Heap) : funWE Tryz.prog 23 (.seq (.leaf) (.seq (.leaf) (.seq (.seq (.leaf) (.block (.range [.sc .ptr] [] (.leaf) (.block (.seq (.leaf) (.cut [(28, .sc .bool)] (.leaf) (.cond (.seq (.leaf) (.leaf)) (.leaf)))))))) (.seq (.leaf) (.leaf))))) [.pointer (some c_0), .int .i64 table_1] K h0 = F23 c_0 table_1 K h0 := by kernel_rfl

-- function 21
set_option maxRecDepth 100000 in
def F21 (c_0 : Addr) (block_1 : Int) (addr_2 : Int) (dirty_3 : Bool) (K : Value → Heap → Prop) (h0 : Heap) : Prop := (
  callT Tryz.prog 42 [.pointer (some c_0), .int .i64 block_1] [.sc (.int .i64), .sc .bool] (fun (r1 : Int × Bool) h2 =>
  br r1.2
  (cutT [] (fun (K3 : Unit → Heap → Prop) h12 =>
  ldW .slice (Addr.add c_0 2) (fun (x4 : Option Addr × Nat × Nat) =>
  br dirty_3
  (ptrW x4.1 (fun a5 =>
  idxW r1.1 x4.2.1 true (stLW (Addr.add a5 (Int.toNat r1.1 * 3)) [.int .i64 block_1, .int .u32 addr_2, .bool true] (fun h6 =>
  K3 () h6) h12)))
  (ldW .slice (Addr.add c_0 2) (fun (x7 : Option Addr × Nat × Nat) =>
  ptrW x7.1 (fun a8 =>
  idxW r1.1 x7.2.1 true (ldW .bool (Addr.add (Addr.add a8 (Int.toNat r1.1 * 3)) 2) (fun (x9 : Bool) =>
  ptrW x4.1 (fun a10 =>
  idxW r1.1 x4.2.1 true (stLW (Addr.add a10 (Int.toNat r1.1 * 3)) [.int .i64 block_1, .int .u32 addr_2, .bool x9] (fun h11 =>
  K3 () h11) h12))) h12))) h12)) h12) (fun (_s13 : Unit) _ h14 =>
  ldW .ptr (Addr.add c_0 0) (fun (x15 : Option Addr) =>
  callT Tryz.prog 43 [.pointer x15, .int .i64 r1.1] [.sc .bool] (fun (r16 : Bool) h17 =>
  K (.bool r16) h17) h14) h14) h2)
  (cutT [] (fun (K18 : Unit → Heap → Prop) h20 =>
  br (decide (block_1 < (0 : Int)))
  (K (.bool false) h20)
  (br (decide (block_1 ≥ (64 : Int)))
  (K (.bool false) h20)
  (ldW .slice (Addr.add c_0 3) (fun (x19 : Option Addr × Nat × Nat) =>
  br ((((x19.2.1 : Nat) : Int)) == (0 : Int))
  (K (.bool false) h20)
  (K18 () h20)) h20))) (fun (_s21 : Unit) _ h22 =>
  ldW .slice (Addr.add c_0 3) (fun (x23 : Option Addr × Nat × Nat) =>
  ldW .slice (Addr.add c_0 3) (fun (x24 : Option Addr × Nat × Nat) =>
  ptrW x24.1 (fun a25 =>
  idxW (IntKind.wrap .i64 ((((x23.2.1 : Nat) : Int)) - (1 : Int))) x24.2.1 true (ldW (.int .i64) (Addr.add a25 (Int.toNat (IntKind.wrap .i64 ((((x23.2.1 : Nat) : Int)) - (1 : Int))) * 1)) (fun (x26 : Int) =>
  ldW .slice (Addr.add c_0 3) (fun (x27 : Option Addr × Nat × Nat) =>
  slW x27.1 x27.2.2 1 (0 : Int) (IntKind.wrap .i64 ((((x23.2.1 : Nat) : Int)) - (1 : Int))) (((x27.2.2 : Nat) : Int)) (fun b28 n29 c30 =>
  stW (Addr.add c_0 3) (.slice b28 n29 c30) (fun h31 =>
  ldW .slice (Addr.add c_0 2) (fun (x32 : Option Addr × Nat × Nat) =>
  ptrW x32.1 (fun a33 =>
  idxW x26 x32.2.1 true (stLW (Addr.add a33 (Int.toNat x26 * 3)) [.int .i64 block_1, .int .u32 addr_2, .bool dirty_3] (fun h34 =>
  ldW .ptr (Addr.add c_0 1) (fun (x35 : Option Addr) =>
  callT Tryz.prog 44 [.pointer x35, .int .u32 (IntKind.wrap .u32 block_1), .int .i64 x26] [.sc .bool] (fun (r36 : Bool) h37 =>
  br r36
  (ldW .ptr (Addr.add c_0 0) (fun (x38 : Option Addr) =>
  callT Tryz.prog 45 [.pointer x38, .int .i64 x26] [.sc .bool] (fun (r39 : Bool) h40 =>
  K (.bool r39) h40) h37) h37)
  (K (.bool false) h37)) h34) h34) h31))) h31) h22)) h22) h22))) h22) h22) h2)) h0)
set_option maxRecDepth 100000 in
theorem F21_eq (c_0 : Addr) (block_1 : Int) (addr_2 : Int) (dirty_3 : Bool) (K : Value → Heap → Prop) (h0 : Heap) : funWE Tryz.prog 21 (.seq (.leaf) (.seq (.seq (.leaf) (.seq (.leaf) (.cond (.cut [] (.draw (odp [0, 1, 2, 3, 4, 5, 6, 7, 8, 9, 10, 11, 12, 13, 14, 15, 16, 17, 18, 19, 20] .nil) []) (.seq (.leaf) (.leaf))) (.leaf)))) (.cut [] (.seq (.leaf) (.cond (.seq (.leaf) (.leaf)) (.leaf))) (.seq (.leaf) (.seq (.leaf) (.seq (.leaf) (.seq (.leaf) (.seq (.leaf) (.leaf))))))))) [.pointer (some c_0), .int .i64 block_1, .int .u32 addr_2, .bool dirty_3] K h0 = F21 c_0 block_1 addr_2 dirty_3 K h0 := by kernel_rfl

-- function 24
set_option maxRecDepth 100000 in
def F24 (c_0 : Addr) (block_1 : Int) (addr_2 : Int) (K : Value → Heap → Prop) (h0 : Heap) : Prop := (
  callT Tryz.prog 42 [.pointer (some c_0), .int .i64 block_1] [.sc (.int .i64), .sc .bool] (fun (r1 : Int × Bool) h2 =>
  br r1.2
  (ldW .slice (Addr.add c_0 2) (fun (x3 : Option Addr × Nat × Nat) =>
  ptrW x3.1 (fun a4 =>
  idxW r1.1 x3.2.1 true (stW (Addr.add (Addr.add a4 (Int.toNat r1.1 * 3)) 1) (.int .u32 addr_2) (fun h5 =>
  K (.bool r1.2) h5) h2))) h2)
  (K (.bool r1.2) h2)) h0)
set_option maxRecDepth 100000 in
theorem F24_eq (c_0 : Addr) (block_1 : Int) (addr_2 : Int) (K : Value → Heap → Prop) (h0 : Heap) : funWE Tryz.prog 24 (.seq (.leaf) (.seq (.leaf) (.seq (.seq (.leaf) (.cond (.leaf) (.leaf))) (.seq (.leaf) (.leaf))))) [.pointer (some c_0), .int .i64 block_1, .int .u32 addr_2] K h0 = F24 c_0 block_1 addr_2 K h0 := by kernel_rfl

-- function 25
set_option maxRecDepth 100000 in
def F25 (c_0 : Addr) (block_1 : Int) (K : Value → Heap → Prop) (h0 : Heap) : Prop := (
  callT Tryz.prog 42 [.pointer (some c_0), .int .i64 block_1] [.sc (.int .i64), .sc .bool] (fun (r1 : Int × Bool) h2 =>
  br (!r1.2)
  (K (.bool false) h2)
  (ldW .slice (Addr.add c_0 3) (fun (x3 : Option Addr × Nat × Nat) =>
  newW (.cells #[.int .i64 r1.1] 3) (fun a4 h5 =>
  apW Tryz.prog #[45, 45] #[.slice x3.1 x3.2.1 x3.2.2, .slice (some a4) 1 1] (fun b6 n7 c8 h9 =>
  stW (Addr.add c_0 3) (.slice b6 n7 c8) (fun h10 =>
  ldW .ptr (Addr.add c_0 1) (fun (x11 : Option Addr) =>
  callT Tryz.prog 46 [.pointer x11, .int .u32 (IntKind.wrap .u32 block_1)] [.sc .bool] (fun (r12 : Bool) h13 =>
  br r12
  (ldW .ptr (Addr.add c_0 0) (fun (x14 : Option Addr) =>
  callT Tryz.prog 47 [.pointer x14, .int .i64 r1.1] [.sc .bool] (fun (r15 : Bool) h16 =>
  K (.bool r15) h16) h13) h13)
  (K (.bool false) h13)) h10) h10) h9) h5) h2) h2)) h0)
set_option maxRecDepth 100000 in
theorem F25_eq (c_0 : Addr) (block_1 : Int) (K : Value → Heap → Prop) (h0 : Heap) : funWE Tryz.prog 25 (.seq (.leaf) (.seq (.leaf) (.seq (.seq (.leaf) (.cond (.seq (.leaf) (.leaf)) (.leaf))) (.seq (.leaf) (.seq (.leaf) (.leaf)))))) [.pointer (some c_0), .int .i64 block_1] K h0 = F25 c_0 block_1 K h0 := by kernel_rfl

-- function 30
set_option maxRecDepth 100000 in
def F30 (c_0 : Addr) (block_1 : Int) (K : Value → Heap → Prop) (h0 : Heap) : Prop := (
  cutT [] (fun (K1 : Unit → Heap → Prop) h7 =>
  callT Tryz.prog 42 [.pointer (some c_0), .int .i64 block_1] [.sc (.int .i64), .sc .bool] (fun (r2 : Int × Bool) h3 =>
  br r2.2
  (ldW .ptr (Addr.add c_0 0) (fun (x4 : Option Addr) =>
  callT Tryz.prog 43 [.pointer x4, .int .i64 r2.1] [.sc .bool] (fun (_r5 : Bool) h6 =>
  K1 () h6) h3) h3)
  (K1 () h3)) h7) (fun (_s8 : Unit) _ h9 =>
  callT Tryz.prog 22 [.pointer (some c_0), .int .i64 block_1] [.sc (.int .u32), .sc .bool] (fun (r10 : Int × Bool) h11 =>
  K (.tuple #[.int .u32 r10.1, .bool r10.2]) h11) h9) h0)
set_option maxRecDepth 100000 in
theorem F30_eq (c_0 : Addr) (block_1 : Int) (K : Value → Heap → Prop) (h0 : Heap) : funWE Tryz.prog 30 (.seq (.leaf) (.cut [] (.seq (.leaf) (.seq (.leaf) (.cond (.leaf) (.leaf)))) (.seq (.leaf) (.leaf)))) [.pointer (some c_0), .int .i64 block_1] K h0 = F30 c_0 block_1 K h0 := by kernel_rfl

-- function 42
set_option maxRecDepth 100000 in
def F42 (c_0 : Addr) (block_1 : Int) (K : Value → Heap → Prop) (h0 : Heap) : Prop := (
  cutT [] (fun (K1 : Unit → Heap → Prop) h2 =>
  br (decide (block_1 < (0 : Int)))
  (K (.tuple #[.int .i64 0, .bool false]) h2)
  (br (decide (block_1 ≥ (64 : Int)))
  (K (.tuple #[.int .i64 0, .bool false]) h2)
  (K1 () h2))) (fun (_s3 : Unit) _ h4 =>
  ldW .ptr (Addr.add c_0 1) (fun (x5 : Option Addr) =>
  callT Tryz.prog 59 [.pointer x5, .int .u32 (IntKind.wrap .u32 block_1)] [.sc (.int .i64), .sc .bool] (fun (r6 : Int × Bool) h7 =>
  K (.tuple #[.int .i64 r6.1, .bool r6.2]) h7) h4) h4) h0)
set_option maxRecDepth 100000 in
theorem F42_eq (c_0 : Addr) (block_1 : Int) (K : Value → Heap → Prop) (h0 : Heap) : funWE Tryz.prog 42 (.seq (.leaf) (.cut [] (.seq (.leaf) (.cond (.seq (.leaf) (.leaf)) (.leaf))) (.seq (.leaf) (.leaf)))) [.pointer (some c_0), .int .i64 block_1] K h0 = F42 c_0 block_1 K h0 := by kernel_rfl

-- function 37
set_option maxRecDepth 100000 in
def F37 (c_0 : Addr) (K : Value → Heap → Prop) (h0 : Heap) : Prop := (
  newW (.cells #[.pointer (some c_0)] 24) (fun a1 h2 =>
  K (.func (.func 57) #[] #[.pointer (some a1)]) h2) h0)
set_option maxRecDepth 100000 in
theorem F37_eq (c_0 : Addr) (K : Value → Heap → Prop) (h0 : Heap) : funWE Tryz.prog 37 (.seq (.leaf) (.seq (.leaf) (.leaf))) [.pointer (some c_0)] K h0 = F37 c_0 K h0 := by kernel_rfl

-- function 57
set_option maxRecDepth 100000 in
def F57 (yield_0 : Nat) (cap_0 : Addr) (K : Value → Heap → Prop) (h0 : Heap) : Prop := (
  ldW .ptr cap_0 (fun (x1 : Option Addr) =>
  ptrW x1 (fun a2 =>
  ldW .ptr (Addr.add a2 1) (fun (x3 : Option Addr) =>
  callT Tryz.prog 58 [.pointer x3] [.sc .slice] (fun (r4 : (Option Addr × Nat × Nat)) h5 =>
  loopT [.sc (.int .i64)] (fun (s7 : Int) _ (K6 : Int → Heap → Prop) h8 =>
  br (decide (s7 < (((r4.2.1 : Nat) : Int))))
  (ptrW r4.1 (fun a9 =>
  idxW s7 r4.2.1 true (ldW (.int .u32) (Addr.add a9 (Int.toNat s7 * 1)) (fun (x10 : Int) =>
  ldW .ptr cap_0 (fun (x11 : Option Addr) =>
  ptrW x11 (fun a12 =>
  ldW .ptr (Addr.add a12 1) (fun (x13 : Option Addr) =>
  callT Tryz.prog 59 [.pointer x13, .int .u32 x10] [.sc (.int .i64), .sc .bool] (fun (r14 : Int × Bool) h15 =>
  ldW .ptr cap_0 (fun (x16 : Option Addr) =>
  ptrW x16 (fun a17 =>
  ldW .slice (Addr.add a17 2) (fun (x18 : Option Addr × Nat × Nat) =>
  ptrW x18.1 (fun a19 =>
  idxW r14.1 x18.2.1 true (callW Tryz.prog (.sc .bool) (.func (.yield yield_0) #[] #[]) [.pointer (some (Addr.add a19 (Int.toNat r14.1 * 3)))] (fun (x20 : Bool) h21 =>
  br (!x20)
  (K (.tuple #[]) h21)
  (K6 (IntKind.wrap .i64 (s7 + (1 : Int))) h21)) h15))) h15)) h15) h8) h8)) h8) h8)))
  (K (.tuple #[]) h8)) (0 : Int) h5) h0) h0)) h0)
set_option maxRecDepth 100000 in
theorem F57_eq (yield_0 : Nat) (cap_0 : Addr) (K : Value → Heap → Prop) (h0 : Heap) : funWE Tryz.prog 57 (.seq (.leaf) (.block (.loop [(13, .sc (.int .i64))] (.seq (.leaf) (.seq (.cond (.leaf) (.leaf)) (.seq (.block (.seq (.leaf) (.seq (.leaf) (.seq (.leaf) (.cond (.leaf) (.leaf)))))) (.leaf))))))) [.func (.yield yield_0) #[] #[], .pointer (some cap_0)] K h0 = F57 yield_0 cap_0 K h0 := by kernel_rfl

-- function 38
set_option maxRecDepth 100000 in
def F38 (block_0 : Int) (K : Value → Heap → Prop) (h0 : Heap) : Prop := (
  K (.tuple #[.int .i64 (IntKind.wrap .i64 (Int.tdiv block_0 (4 : Int))), .int .i64 (Int.tmod block_0 (4 : Int))]) h0)
set_option maxRecDepth 100000 in
theorem F38_eq (block_0 : Int) (K : Value → Heap → Prop) (h0 : Heap) : funWE Tryz.prog 38 (.seq (.leaf) (.seq (.leaf) (.leaf))) [.int .i64 block_0] K h0 = F38 block_0 K h0 := by kernel_rfl

-- function 39
set_option maxRecDepth 100000 in
def F39 (s_0 : Option Addr) (s_0l s_0c : Nat) (v_1 : Int) (K : Value → Heap → Prop) (h0 : Heap) : Prop := (
  callT Tryz.prog 60 [.slice s_0 s_0l s_0c, .int .i64 v_1] [.sc (.int .i64)] (fun (r1 : Int) h2 =>
  K (.bool (decide (r1 ≥ (0 : Int)))) h2) h0)
set_option maxRecDepth 100000 in
theorem F39_eq (s_0 : Option Addr) (s_0l s_0c : Nat) (v_1 : Int) (K : Value → Heap → Prop) (h0 : Heap) : funWE Tryz.prog 39 (.seq (.leaf) (.seq (.leaf) (.leaf))) [.slice s_0 s_0l s_0c, .int .i64 v_1] K h0 = F39 s_0 s_0l s_0c v_1 K h0 := by kernel_rfl

-- function 60
set_option maxRecDepth 100000 in
def F60 (s_0 : Option Addr) (s_0l _s_0c : Nat) (v_1 : Int) (K : Value → Heap → Prop) (h0 : Heap) : Prop := (
  loopT [.sc (.int .i64)] (fun (s2 : Int) _ (K1 : Int → Heap → Prop) h3 =>
  br (decide (s2 < (((s_0l : Nat) : Int))))
  (ptrW s_0 (fun a4 =>
  idxW s2 s_0l true (ldW (.int .i64) (Addr.add a4 (Int.toNat s2 * 1)) (fun (x5 : Int) =>
  br (v_1 == x5)
  (K (.int .i64 s2) h3)
  (K1 (IntKind.wrap .i64 (s2 + (1 : Int))) h3)) h3)))
  (K (.int .i64 (-1)) h3)) (0 : Int) h0)
set_option maxRecDepth 100000 in
theorem F60_eq (s_0 : Option Addr) (s_0l s_0c : Nat) (v_1 : Int) (K : Value → Heap → Prop) (h0 : Heap) : funWE Tryz.prog 60 (.seq (.leaf) (.seq (.seq (.leaf) (.block (.loop [(8, .sc (.int .i64))] (.seq (.leaf) (.seq (.cond (.leaf) (.leaf)) (.seq (.block (.seq (.leaf) (.seq (.leaf) (.cond (.seq (.leaf) (.leaf)) (.leaf))))) (.leaf))))))) (.seq (.leaf) (.leaf)))) [.slice s_0 s_0l s_0c, .int .i64 v_1] K h0 = F60 s_0 s_0l s_0c v_1 K h0 := by kernel_rfl

end Go.Proofs.YtfanjfbenhocnaaGreatDoor.W
