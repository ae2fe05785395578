/-
  The formulas of package index. Each formula checked by the kernel. Printed by a program of this repo.
-/
import Derived.Test.YtfanjfbenhocnaaGreatDoorProg
import Derived.Test.YtfanjfbenhocnaaGreatDoorPl
namespace Go.Proofs.YtfanjfbenhocnaaGreatDoor.W
open Go.Pl

-- function 27
set_option maxRecDepth 100000 in
def F27 (room_0 : Int) (K : Value → Heap → Prop) (h0 : Heap) : Prop := (
  cutT [.sc .bool] (fun (K1 : Bool → Heap → Prop) h2 =>
  br (decide (room_0 < (1 : Int)))
  (K1 true h2)
  (K1 (decide (room_0 > (64 : Int))) h2)) (fun (s3 : Bool) _ h4 =>
  br s3
  (K (.tuple #[.pointer none, .iface 30 (.int .i64 1)]) h4)
  (newW (.cells (repL 128 [.bool false, .int .u32 0, .int .i64 0] [.int .i64 0, .int .i64 room_0]) 85) (fun a5 h6 =>
  K (.tuple #[.pointer (some a5), .nilIface]) h6) h4)) h0)
set_option maxRecDepth 100000 in
theorem F27_eq (room_0 : Int) (K : Value → Heap → Prop) (h0 : Heap) : funWE Tryz.prog 27 (.seq (.leaf) (.seq (.cut [(9, .sc .bool)] (.leaf) (.cond (.seq (.leaf) (.leaf)) (.leaf))) (.seq (.leaf) (.leaf)))) [.int .i64 room_0] K h0 = F27 room_0 K h0 := by kernel_rfl

-- function 10
set_option maxRecDepth 100000 in
def F10 (x_0 : Addr) (K : Value → Heap → Prop) (h0 : Heap) : Prop := (
  ldW (.int .i64) (Addr.add x_0 384) (fun (x1 : Int) =>
  K (.int .i64 x1) h0) h0)
set_option maxRecDepth 100000 in
theorem F10_eq (x_0 : Addr) (K : Value → Heap → Prop) (h0 : Heap) : funWE Tryz.prog 10 (.seq (.leaf) (.seq (.leaf) (.leaf))) [.pointer (some x_0)] K h0 = F10 x_0 K h0 := by kernel_rfl

-- function 44
set_option maxRecDepth 100000 in
def F44 (x_0 : Addr) (key_1 : Int) (slot_2 : Int) (K : Value → Heap → Prop) (h0 : Heap) : Prop := (
  callT Tryz.prog 63 [.pointer (some x_0), .int .u32 key_1] [.sc (.int .i64)] (fun (r1 : Int) h2 =>
  cutT [] (fun (K3 : Unit → Heap → Prop) h9 =>
  idxW r1 128 true (ldW .bool (Addr.add (Addr.add (Addr.add x_0 0) (Int.toNat r1 * 3)) 0) (fun (x4 : Bool) =>
  br (!x4)
  (ldW (.int .i64) (Addr.add x_0 384) (fun (x5 : Int) =>
  ldW (.int .i64) (Addr.add x_0 385) (fun (x6 : Int) =>
  br (x5 == x6)
  (K (.bool false) h9)
  (ldW (.int .i64) (Addr.add x_0 384) (fun (x7 : Int) =>
  stW (Addr.add x_0 384) (.int .i64 (IntKind.wrap .i64 (x7 + (1 : Int)))) (fun h8 =>
  K3 () h8) h9) h9)) h9) h9)
  (K3 () h9)) h9)) (fun (_s10 : Unit) _ h11 =>
  idxW r1 128 true (stLW (Addr.add (Addr.add x_0 0) (Int.toNat r1 * 3)) [.bool true, .int .u32 key_1, .int .i64 slot_2] (fun h12 =>
  K (.bool true) h12) h11)) h2) h0)
set_option maxRecDepth 100000 in
theorem F44_eq (x_0 : Addr) (key_1 : Int) (slot_2 : Int) (K : Value → Heap → Prop) (h0 : Heap) : funWE Tryz.prog 44 (.seq (.leaf) (.seq (.leaf) (.cut [] (.seq (.leaf) (.cond (.seq (.seq (.draw (odp [0, 1, 2, 3, 4, 5, 6, 7, 8] .nil) []) (.cond (.seq (.leaf) (.leaf)) (.leaf))) (.leaf)) (.leaf))) (.seq (.leaf) (.seq (.leaf) (.leaf)))))) [.pointer (some x_0), .int .u32 key_1, .int .i64 slot_2] K h0 = F44 x_0 key_1 slot_2 K h0 := by kernel_rfl

-- function 46
set_option maxRecDepth 100000 in
def F46 (x_0 : Addr) (key_1 : Int) (K : Value → Heap → Prop) (h0 : Heap) : Prop := (
  callT Tryz.prog 63 [.pointer (some x_0), .int .u32 key_1] [.sc (.int .i64)] (fun (r1 : Int) h2 =>
  idxW r1 128 true (ldW .bool (Addr.add (Addr.add (Addr.add x_0 0) (Int.toNat r1 * 3)) 0) (fun (x3 : Bool) =>
  br (!x3)
  (K (.bool false) h2)
  (ldW (.int .i64) (Addr.add x_0 384) (fun (x4 : Int) =>
  stW (Addr.add x_0 384) (.int .i64 (IntKind.wrap .i64 (x4 - (1 : Int)))) (fun h5 =>
  loopT [.sc (.int .i64), .sc (.int .i64)] (fun (s7 : Int × Int) _ (K6 : (Int × Int) → Heap → Prop) h8 =>
  idxW s7.1 128 true (stLW (Addr.add (Addr.add x_0 0) (Int.toNat s7.1 * 3)) [.bool false, .int .u32 0, .int .i64 0] (fun h9 =>
  loopT [.sc (.int .i64), .sc (.int .i64)] (fun (s11 : Int × Int) _ (K10 : (Int × Int) → Heap → Prop) h12 =>
  idxW (Int.tmod (IntKind.wrap .i64 (s11.2 + (1 : Int))) (128 : Int)) 128 true (ldAggW [.bool, .int .u32, .int .i64] (Addr.add (Addr.add x_0 0) (Int.toNat (Int.tmod (IntKind.wrap .i64 (s11.2 + (1 : Int))) (128 : Int)) * 3)) (fun (x13 : Bool × Int × Int) =>
  newW (.cells (zeroC Tryz.prog 82) 82) (fun a14 h15 =>
  stLW a14 [.bool x13.1, .int .u32 x13.2.1, .int .i64 x13.2.2] (fun h16 =>
  ldW .bool (Addr.add a14 0) (fun (x17 : Bool) =>
  br (!x17)
  (K (.bool true) h16)
  (ldW (.int .u32) (Addr.add a14 1) (fun (x18 : Int) =>
  callT Tryz.prog 65 [.int .u32 x18] [.sc (.int .i64)] (fun (r19 : Int) h20 =>
  br (decide ((Int.tmod (IntKind.wrap .i64 ((IntKind.wrap .i64 ((Int.tmod (IntKind.wrap .i64 (s11.2 + (1 : Int))) (128 : Int)) - r19)) + (128 : Int))) (128 : Int)) ≥ (Int.tmod (IntKind.wrap .i64 ((IntKind.wrap .i64 ((Int.tmod (IntKind.wrap .i64 (s11.2 + (1 : Int))) (128 : Int)) - s11.1)) + (128 : Int))) (128 : Int))))
  (ldAggW [.bool, .int .u32, .int .i64] a14 (fun (x21 : Bool × Int × Int) =>
  idxW s11.1 128 true (stLW (Addr.add (Addr.add x_0 0) (Int.toNat s11.1 * 3)) [.bool x21.1, .int .u32 x21.2.1, .int .i64 x21.2.2] (fun h22 =>
  K6 ((Int.tmod (IntKind.wrap .i64 (s11.2 + (1 : Int))) (128 : Int)), (Int.tmod (IntKind.wrap .i64 (s11.2 + (1 : Int))) (128 : Int))) h22) h20)) h20)
  (K10 (s11.1, (Int.tmod (IntKind.wrap .i64 (s11.2 + (1 : Int))) (128 : Int))) h20)) h16) h16)) h16) h15) h12) h12)) (s7.1, s7.2) h9) h8)) (r1, r1) h5) h2) h2)) h2)) h0)
set_option maxRecDepth 100000 in
theorem F46_eq (x_0 : Addr) (key_1 : Int) (K : Value → Heap → Prop) (h0 : Heap) : funWE Tryz.prog 46 (.seq (.leaf) (.block (.seq (.leaf) (.seq (.seq (.leaf) (.cond (.seq (.leaf) (.leaf)) (.leaf))) (.seq (.leaf) (.seq (.leaf) (.seq (.leaf) (.seq (.block (.loop [(5, .sc (.int .i64)), (6, .sc (.int .i64))] (.block (.seq (.leaf) (.block (.loop [(5, .sc (.int .i64)), (6, .sc (.int .i64))] (.block (.seq (.leaf) (.seq (.leaf) (.seq (.seq (.leaf) (.cond (.leaf) (.leaf))) (.seq (.leaf) (.seq (.leaf) (.cond (.seq (.draw (odp [0, 1, 2, 3, 4, 5, 6, 7, 8] .nil) []) (.leaf)) (.leaf)))))))))))))) (.seq (.leaf) (.leaf)))))))))) [.pointer (some x_0), .int .u32 key_1] K h0 = F46 x_0 key_1 K h0 := by kernel_rfl

-- function 59
set_option maxRecDepth 100000 in
def F59 (x_0 : Addr) (key_1 : Int) (K : Value → Heap → Prop) (h0 : Heap) : Prop := (
  callQ Tryz.prog 63 [.pointer (some x_0), .int .u32 key_1] [.sc (.int .i64)] (fun (r1 : Int) =>
  idxW r1 128 true (ldAggW [.bool, .int .u32, .int .i64] (Addr.add (Addr.add x_0 0) (Int.toNat r1 * 3)) (fun (x2 : Bool × Int × Int) =>
  newW (.cells (zeroC Tryz.prog 82) 82) (fun a3 h4 =>
  stLW a3 [.bool x2.1, .int .u32 x2.2.1, .int .i64 x2.2.2] (fun h5 =>
  ldW .bool (Addr.add a3 0) (fun (x6 : Bool) =>
  br (!x6)
  (K (.tuple #[.int .i64 0, .bool false]) h5)
  (ldW (.int .i64) (Addr.add a3 2) (fun (x7 : Int) =>
  K (.tuple #[.int .i64 x7, .bool true]) h5) h5)) h5) h4) h0) h0)) h0)
set_option maxRecDepth 100000 in
theorem F59_eq (x_0 : Addr) (key_1 : Int) (K : Value → Heap → Prop) (h0 : Heap) : funWE Tryz.prog 59 (.seq (.leaf) (.seq (.draw (odp [0, 1, 2, 3, 4, 5, 6, 7, 8, 9] .nil) [3]) (.seq (.seq (.leaf) (.cond (.seq (.leaf) (.leaf)) (.leaf))) (.seq (.leaf) (.leaf))))) [.pointer (some x_0), .int .u32 key_1] K h0 = F59 x_0 key_1 K h0 := by kernel_rfl

-- function 58
set_option maxRecDepth 100000 in
def F58 (x_0 : Addr) (K : Value → Heap → Prop) (h0 : Heap) : Prop := (
  ldRawW 384 (Addr.add x_0 0) (fun (x1 : { l : List Value // l.length = 384 }) =>
  loopT [.sc .slice, .sc (.int .i64)] (fun (s3 : (Option Addr × Nat × Nat) × Int) _ (K2 : ((Option Addr × Nat × Nat) × Int) → Heap → Prop) h4 =>
  br (decide (s3.2 < (128 : Int)))
  (idxW s3.2 128 true (∃ x5 : Bool × Int × Int, ((x1.1.toArray.toList).drop (Int.toNat s3.2 * 3)).take 3 = cvals [.bool, .int .u32, .int .i64] x5 ∧ newW (.cells (zeroC Tryz.prog 82) 82) (fun a6 h7 =>
  stLW a6 [.bool x5.1, .int .u32 x5.2.1, .int .i64 x5.2.2] (fun h8 =>
  ldW .bool (Addr.add a6 0) (fun (x9 : Bool) =>
  br x9
  (ldW (.int .u32) (Addr.add a6 1) (fun (x10 : Int) =>
  newW (.cells #[.int .u32 x10] 34) (fun a11 h12 =>
  apW Tryz.prog #[117, 117] #[.slice s3.1.1 s3.1.2.1 s3.1.2.2, .slice (some a11) 1 1] (fun b13 n14 c15 h16 =>
  K2 ((b13, n14, c15), (IntKind.wrap .i64 (s3.2 + (1 : Int)))) h16) h12) h8) h8)
  (K2 ((s3.1.1, s3.1.2.1, s3.1.2.2), (IntKind.wrap .i64 (s3.2 + (1 : Int)))) h8)) h8) h7) h4))
  (callT Tryz.prog 71 [.slice s3.1.1 s3.1.2.1 s3.1.2.2] [] (fun (_r17 : Unit) h18 =>
  K (.slice s3.1.1 s3.1.2.1 s3.1.2.2) h18) h4)) ((none, 0, 0), (0 : Int)) h0) h0)
set_option maxRecDepth 100000 in
theorem F58_eq (x_0 : Addr) (K : Value → Heap → Prop) (h0 : Heap) : funWE Tryz.prog 58 (.seq (.leaf) (.seq (.leaf) (.seq (.seq (.leaf) (.block (.loop [(3, .sc .slice), (10, .sc (.int .i64))] (.seq (.leaf) (.seq (.cond (.leaf) (.leaf)) (.seq (.block (.seq (.leaf) (.seq (.leaf) (.cond (.leaf) (.leaf))))) (.leaf))))))) (.seq (.leaf) (.seq (.leaf) (.leaf)))))) [.pointer (some x_0)] K h0 = F58 x_0 K h0 := by kernel_rfl

-- function 63
set_option maxRecDepth 100000 in
def F63 (x_0 : Addr) (key_1 : Int) (K : Value → Heap → Prop) (h0 : Heap) : Prop := (
  callT Tryz.prog 65 [.int .u32 key_1] [.sc (.int .i64)] (fun (r1 : Int) h2 =>
  loopT [.sc (.int .i64)] (fun (s4 : Int) _ (K3 : Int → Heap → Prop) h5 =>
  idxW s4 128 true (ldW .bool (Addr.add (Addr.add (Addr.add x_0 0) (Int.toNat s4 * 3)) 0) (fun (x6 : Bool) =>
  br x6
  (idxW s4 128 true (ldW (.int .u32) (Addr.add (Addr.add (Addr.add x_0 0) (Int.toNat s4 * 3)) 1) (fun (x7 : Int) =>
  br (x7 != key_1)
  (K3 (Int.tmod (IntKind.wrap .i64 (s4 + (1 : Int))) (128 : Int)) h5)
  (K (.int .i64 s4) h5)) h5))
  (K (.int .i64 s4) h5)) h5)) r1 h2) h0)
set_option maxRecDepth 100000 in
theorem F63_eq (x_0 : Addr) (key_1 : Int) (K : Value → Heap → Prop) (h0 : Heap) : funWE Tryz.prog 63 (.seq (.leaf) (.seq (.leaf) (.seq (.block (.loop [(5, .sc (.int .i64))] (.seq (.seq (.leaf) (.cond (.leaf) (.leaf))) (.block (.leaf))))) (.seq (.leaf) (.leaf))))) [.pointer (some x_0), .int .u32 key_1] K h0 = F63 x_0 key_1 K h0 := by kernel_rfl

-- function 65
set_option maxRecDepth 100000 in
def F65 (key_0 : Int) (K : Value → Heap → Prop) (h0 : Heap) : Prop := (
  K (.int .i64 (IntKind.wrap .i64 (Int.fdiv (IntKind.wrap .u32 (key_0 * (2654435761 : Int))) 33554432))) h0)
set_option maxRecDepth 100000 in
theorem F65_eq (key_0 : Int) (K : Value → Heap → Prop) (h0 : Heap) : funWE Tryz.prog 65 (.seq (.leaf) (.seq (.leaf) (.leaf))) [.int .u32 key_0] K h0 = F65 key_0 K h0 := by kernel_rfl

end Go.Proofs.YtfanjfbenhocnaaGreatDoor.W
