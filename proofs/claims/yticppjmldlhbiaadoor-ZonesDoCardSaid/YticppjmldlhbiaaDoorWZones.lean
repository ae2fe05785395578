/-
  The formulas of package zones. Each formula checked by the kernel. Printed by a program of this repo.
-/
import Derived.Test.YticppjmldlhbiaaDoorProg
import Derived.Test.YticppjmldlhbiaaDoorPl
namespace Go.Proofs.YticppjmldlhbiaaDoor.W
open Go.Pl

-- function 24
set_option maxRecDepth 100000 in
def F24 (zones_0 : Int) (K : Value → Heap → Prop) (h0 : Heap) : Prop := (
  cutT [] (fun (K1 : Unit → Heap → Prop) h2 =>
  br (decide (zones_0 < (1 : Int)))
  (K (.tuple #[.pointer none, .iface 33 (.int .i64 1)]) h2)
  (br (decide (zones_0 > (24 : Int)))
  (K (.tuple #[.pointer none, .iface 33 (.int .i64 1)]) h2)
  (K1 () h2))) (fun (_s3 : Unit) _ h4 =>
  mkW Tryd.prog 3 zones_0 zones_0 (fun b5 n6 c7 h8 =>
  newW (.cells #[.slice b5 n6 c7, .slice none 0 0, .nilFunc, .slice none 0 0, .nilFunc, .int .u32 0] 94) (fun a9 h10 =>
  stW (Addr.add (Addr.add a9 1) 1) (.func (.func 47) #[] #[]) (fun h11 =>
  stW (Addr.add (Addr.add a9 3) 1) (.func (.func 48) #[] #[]) (fun h12 =>
  loopT [.sc (.int .i64)] (fun (s14 : Int) _ (K13 : Int → Heap → Prop) h15 =>
  br (decide (s14 < zones_0))
  (callT Tryd.prog 49 [.pointer (some (Addr.add a9 1)), .int .i64 s14] [] (fun (_r16 : Unit) h17 =>
  K13 (IntKind.wrap .i64 (s14 + (1 : Int))) h17) h15)
  (K (.tuple #[.pointer (some a9), .nilIface]) h15)) (0 : Int) h12) h11) h10) h8) h4) h0)
set_option maxRecDepth 100000 in
theorem F24_eq (zones_0 : Int) (K : Value → Heap → Prop) (h0 : Heap) : funWE Tryd.prog 24 (.seq (.leaf) (.cut [] (.seq (.leaf) (.cond (.seq (.leaf) (.leaf)) (.leaf))) (.seq (.leaf) (.seq (.leaf) (.seq (.leaf) (.seq (.seq (.leaf) (.block (.loop [(26, .sc (.int .i64))] (.seq (.leaf) (.seq (.cond (.leaf) (.leaf)) (.seq (.block (.seq (.leaf) (.leaf))) (.leaf))))))) (.seq (.leaf) (.leaf)))))))) [.int .i64 zones_0] K h0 = F24 zones_0 K h0 := by kernel_rfl

-- function 47
set_option maxRecDepth 100000 in
def F47 (a_0 : Int) (b_1 : Int) (K : Value → Heap → Prop) (h0 : Heap) : Prop := (
  K (.bool (a_0 == b_1)) h0)
set_option maxRecDepth 100000 in
theorem F47_eq (a_0 : Int) (b_1 : Int) (K : Value → Heap → Prop) (h0 : Heap) : funWE Tryd.prog 47 (.seq (.leaf) (.seq (.leaf) (.leaf))) [.int .i64 a_0, .int .i64 b_1] K h0 = F47 a_0 b_1 K h0 := by kernel_rfl

-- function 48
set_option maxRecDepth 100000 in
def F48 (a_0_0 : Int) (a_0_1 : Int) (b_1_0 : Int) (b_1_1 : Int) (K : Value → Heap → Prop) (h0 : Heap) : Prop := (
  newW (.cells #[.int .i64 a_0_0, .int .u32 a_0_1] 96) (fun a1 h2 =>
  newW (.cells #[.int .i64 b_1_0, .int .u32 b_1_1] 96) (fun a3 h4 =>
  ldW (.int .i64) (Addr.add a1 0) (fun (x5 : Int) =>
  ldW (.int .i64) (Addr.add a3 0) (fun (x6 : Int) =>
  K (.bool (x5 == x6)) h4) h4) h4) h2) h0)
set_option maxRecDepth 100000 in
theorem F48_eq (a_0_0 : Int) (a_0_1 : Int) (b_1_0 : Int) (b_1_1 : Int) (K : Value → Heap → Prop) (h0 : Heap) : funWE Tryd.prog 48 (.seq (.leaf) (.seq (.leaf) (.leaf))) [.agg #[.int .i64 a_0_0, .int .u32 a_0_1], .agg #[.int .i64 b_1_0, .int .u32 b_1_1]] K h0 = F48 a_0_0 a_0_1 b_1_0 b_1_1 K h0 := by kernel_rfl

-- function 28
set_option maxRecDepth 100000 in
def F28 (t_0 : Addr) (zone_1 : Int) (K : Value → Heap → Prop) (h0 : Heap) : Prop := (
  cutT [] (fun (K1 : Unit → Heap → Prop) h3 =>
  br (decide (zone_1 < (0 : Int)))
  (K (.tuple #[.int .i64 0, .bool false]) h3)
  (ldW .slice (Addr.add t_0 0) (fun (x2 : Option Addr × Nat × Nat) =>
  br (decide (zone_1 ≥ (((x2.2.1 : Nat) : Int))))
  (K (.tuple #[.int .i64 0, .bool false]) h3)
  (K1 () h3)) h3)) (fun (_s4 : Unit) _ h5 =>
  ldW .slice (Addr.add t_0 0) (fun (x6 : Option Addr × Nat × Nat) =>
  ptrW x6.1 (fun a7 =>
  idxW zone_1 x6.2.1 true (ldW (.int .i64) (Addr.add a7 (Int.toNat zone_1 * 1)) (fun (x8 : Int) =>
  K (.tuple #[.int .i64 x8, .bool true]) h5) h5))) h5) h0)
set_option maxRecDepth 100000 in
theorem F28_eq (t_0 : Addr) (zone_1 : Int) (K : Value → Heap → Prop) (h0 : Heap) : funWE Tryd.prog 28 (.seq (.leaf) (.cut [] (.seq (.leaf) (.cond (.seq (.leaf) (.leaf)) (.leaf))) (.seq (.leaf) (.leaf)))) [.pointer (some t_0), .int .i64 zone_1] K h0 = F28 t_0 zone_1 K h0 := by kernel_rfl

-- function 44
set_option maxRecDepth 100000 in
def F44 (t_0 : Addr) (K : Value → Heap → Prop) (h0 : Heap) : Prop := (
  ldW .slice (Addr.add (Addr.add t_0 1) 0) (fun (x1 : Option Addr × Nat × Nat) =>
  br ((((x1.2.1 : Nat) : Int)) == (0 : Int))
  (K (.tuple #[.int .i64 0, .bool false]) h0)
  (ldW .slice (Addr.add (Addr.add t_0 1) 0) (fun (x2 : Option Addr × Nat × Nat) =>
  ptrW x2.1 (fun a3 =>
  idxW (0 : Int) x2.2.1 true (ldW (.int .i64) (Addr.add a3 (Int.toNat (0 : Int) * 1)) (fun (x4 : Int) =>
  callT Tryd.prog 63 [.pointer (some (Addr.add t_0 1)), .int .i64 x4] [] (fun (_r5 : Unit) h6 =>
  ldW .slice (Addr.add t_0 0) (fun (x7 : Option Addr × Nat × Nat) =>
  ptrW x7.1 (fun a8 =>
  idxW x4 x7.2.1 true (stW (Addr.add a8 (Int.toNat x4 * 1)) (.int .i64 1) (fun h9 =>
  K (.tuple #[.int .i64 x4, .bool true]) h9) h6))) h6) h0) h0))) h0)) h0)
set_option maxRecDepth 100000 in
theorem F44_eq (t_0 : Addr) (K : Value → Heap → Prop) (h0 : Heap) : funWE Tryd.prog 44 (.seq (.leaf) (.seq (.seq (.leaf) (.cond (.seq (.leaf) (.leaf)) (.leaf))) (.seq (.leaf) (.seq (.leaf) (.seq (.leaf) (.seq (.leaf) (.leaf))))))) [.pointer (some t_0)] K h0 = F44 t_0 K h0 := by kernel_rfl

-- function 45
set_option maxRecDepth 100000 in
def F45 (t_0 : Addr) (zone_1 : Int) (K : Value → Heap → Prop) (h0 : Heap) : Prop := (
  callT Tryd.prog 28 [.pointer (some t_0), .int .i64 zone_1] [.sc (.int .i64), .sc .bool] (fun (r1 : Int × Bool) h2 =>
  br (r1.1 != (1 : Int))
  (K (.bool false) h2)
  (ldW .slice (Addr.add t_0 0) (fun (x3 : Option Addr × Nat × Nat) =>
  ptrW x3.1 (fun a4 =>
  idxW zone_1 x3.2.1 true (stW (Addr.add a4 (Int.toNat zone_1 * 1)) (.int .i64 2) (fun h5 =>
  ldW (.int .u32) (Addr.add t_0 5) (fun (x6 : Int) =>
  callT Tryd.prog 64 [.pointer (some (Addr.add t_0 3)), .agg #[.int .i64 zone_1, .int .u32 x6]] [] (fun (_r7 : Unit) h8 =>
  ldW (.int .u32) (Addr.add t_0 5) (fun (x9 : Int) =>
  stW (Addr.add t_0 5) (.int .u32 (IntKind.wrap .u32 (x9 + (1 : Int)))) (fun h10 =>
  K (.bool true) h10) h8) h8) h5) h5) h2))) h2)) h0)
set_option maxRecDepth 100000 in
theorem F45_eq (t_0 : Addr) (zone_1 : Int) (K : Value → Heap → Prop) (h0 : Heap) : funWE Tryd.prog 45 (.seq (.leaf) (.seq (.seq (.leaf) (.seq (.leaf) (.cond (.seq (.leaf) (.leaf)) (.leaf)))) (.seq (.leaf) (.seq (.draw (odp [0, 1, 2, 3, 4, 5, 6, 7, 8, 9] .nil) []) (.seq (.leaf) (.seq (.leaf) (.leaf))))))) [.pointer (some t_0), .int .i64 zone_1] K h0 = F45 t_0 zone_1 K h0 := by kernel_rfl

-- function 46
set_option maxRecDepth 100000 in
def F46 (t_0 : Addr) (zone_1 : Int) (K : Value → Heap → Prop) (h0 : Heap) : Prop := (
  callT Tryd.prog 28 [.pointer (some t_0), .int .i64 zone_1] [.sc (.int .i64), .sc .bool] (fun (r1 : Int × Bool) h2 =>
  br (r1.1 == (0 : Int))
  (K (.bool false) h2)
  (callT Tryd.prog 65 [.pointer (some (Addr.add t_0 3)), .agg #[.int .i64 zone_1, .int .u32 0]] [] (fun (_r3 : Unit) h4 =>
  ldW .slice (Addr.add t_0 0) (fun (x5 : Option Addr × Nat × Nat) =>
  ptrW x5.1 (fun a6 =>
  idxW zone_1 x5.2.1 true (stW (Addr.add a6 (Int.toNat zone_1 * 1)) (.int .i64 0) (fun h7 =>
  callT Tryd.prog 49 [.pointer (some (Addr.add t_0 1)), .int .i64 zone_1] [] (fun (_r8 : Unit) h9 =>
  K (.bool true) h9) h7) h4))) h4) h2)) h0)
set_option maxRecDepth 100000 in
theorem F46_eq (t_0 : Addr) (zone_1 : Int) (K : Value → Heap → Prop) (h0 : Heap) : funWE Tryd.prog 46 (.seq (.leaf) (.seq (.seq (.leaf) (.seq (.leaf) (.cond (.seq (.leaf) (.leaf)) (.leaf)))) (.seq (.leaf) (.seq (.leaf) (.seq (.leaf) (.seq (.leaf) (.leaf))))))) [.pointer (some t_0), .int .i64 zone_1] K h0 = F46 t_0 zone_1 K h0 := by kernel_rfl

-- function 32
set_option maxRecDepth 100000 in
def F32 (t_0 : Addr) (K : Value → Heap → Prop) (h0 : Heap) : Prop := (
  ldW .slice (Addr.add (Addr.add t_0 1) 0) (fun (x1 : Option Addr × Nat × Nat) =>
  callT Tryd.prog 54 [.slice x1.1 x1.2.1 x1.2.2] [.sc .slice] (fun (r2 : (Option Addr × Nat × Nat)) h3 =>
  K (.slice r2.1 r2.2.1 r2.2.2) h3) h0) h0)
set_option maxRecDepth 100000 in
theorem F32_eq (t_0 : Addr) (K : Value → Heap → Prop) (h0 : Heap) : funWE Tryd.prog 32 (.seq (.leaf) (.seq (.leaf) (.leaf))) [.pointer (some t_0)] K h0 = F32 t_0 K h0 := by kernel_rfl

-- function 33
set_option maxRecDepth 100000 in
def F33 (t_0 : Addr) (K : Value → Heap → Prop) (h0 : Heap) : Prop := (
  ldW .slice (Addr.add (Addr.add t_0 3) 0) (fun (x1 : Option Addr × Nat × Nat) =>
  loopT [.sc .slice, .sc (.int .i64)] (fun (s3 : (Option Addr × Nat × Nat) × Int) _ (K2 : ((Option Addr × Nat × Nat) × Int) → Heap → Prop) h4 =>
  br (decide (s3.2 < (((x1.2.1 : Nat) : Int))))
  (ptrW x1.1 (fun a5 =>
  idxW s3.2 x1.2.1 true (ldAggW [.int .i64, .int .u32] (Addr.add a5 (Int.toNat s3.2 * 2)) (fun (x6 : Int × Int) =>
  newW (.cells (zeroC Tryd.prog 96) 96) (fun a7 h8 =>
  stLW a7 [.int .i64 x6.1, .int .u32 x6.2] (fun h9 =>
  ldW (.int .i64) (Addr.add a7 0) (fun (x10 : Int) =>
  newW (.cells #[.int .i64 x10] 3) (fun a11 h12 =>
  apW Tryd.prog #[49, 49] #[.slice s3.1.1 s3.1.2.1 s3.1.2.2, .slice (some a11) 1 1] (fun b13 n14 c15 h16 =>
  K2 ((b13, n14, c15), (IntKind.wrap .i64 (s3.2 + (1 : Int)))) h16) h12) h9) h9) h8) h4) h4)))
  (K (.slice s3.1.1 s3.1.2.1 s3.1.2.2) h4)) ((none, 0, 0), (0 : Int)) h0) h0)
set_option maxRecDepth 100000 in
theorem F33_eq (t_0 : Addr) (K : Value → Heap → Prop) (h0 : Heap) : funWE Tryd.prog 33 (.seq (.leaf) (.seq (.leaf) (.seq (.seq (.leaf) (.block (.loop [(3, .sc .slice), (12, .sc (.int .i64))] (.seq (.leaf) (.seq (.cond (.leaf) (.leaf)) (.seq (.block (.seq (.leaf) (.leaf))) (.leaf))))))) (.seq (.leaf) (.leaf))))) [.pointer (some t_0)] K h0 = F33 t_0 K h0 := by kernel_rfl

-- function 30
set_option maxRecDepth 100000 in
def F30 (t_0 : Addr) (zone_1 : Int) (K : Value → Heap → Prop) (h0 : Heap) : Prop := (
  ldW .slice (Addr.add (Addr.add t_0 3) 0) (fun (x1 : Option Addr × Nat × Nat) =>
  loopT [.sc (.int .i64)] (fun (s3 : Int) _ (K2 : Int → Heap → Prop) h4 =>
  br (decide (s3 < (((x1.2.1 : Nat) : Int))))
  (ptrW x1.1 (fun a5 =>
  idxW s3 x1.2.1 true (ldAggW [.int .i64, .int .u32] (Addr.add a5 (Int.toNat s3 * 2)) (fun (x6 : Int × Int) =>
  newW (.cells (zeroC Tryd.prog 96) 96) (fun a7 h8 =>
  stLW a7 [.int .i64 x6.1, .int .u32 x6.2] (fun h9 =>
  ldW (.int .i64) (Addr.add a7 0) (fun (x10 : Int) =>
  br (x10 == zone_1)
  (ldW (.int .u32) (Addr.add t_0 5) (fun (x11 : Int) =>
  ldW (.int .u32) (Addr.add a7 1) (fun (x12 : Int) =>
  K (.int .u32 (IntKind.wrap .u32 ((IntKind.wrap .u32 (x11 - (1 : Int))) - x12))) h9) h9) h9)
  (K2 (IntKind.wrap .i64 (s3 + (1 : Int))) h9)) h9) h8) h4) h4)))
  (K (.int .u32 0) h4)) (0 : Int) h0) h0)
set_option maxRecDepth 100000 in
theorem F30_eq (t_0 : Addr) (zone_1 : Int) (K : Value → Heap → Prop) (h0 : Heap) : funWE Tryd.prog 30 (.seq (.leaf) (.seq (.seq (.leaf) (.block (.loop [(13, .sc (.int .i64))] (.seq (.leaf) (.seq (.cond (.leaf) (.leaf)) (.seq (.block (.seq (.leaf) (.seq (.leaf) (.cond (.seq (.draw (odp [0, 1, 2, 3, 4, 5, 6, 7, 8] .nil) []) (.leaf)) (.leaf))))) (.leaf))))))) (.seq (.leaf) (.leaf)))) [.pointer (some t_0), .int .i64 zone_1] K h0 = F30 t_0 zone_1 K h0 := by kernel_rfl

-- function 49
set_option maxRecDepth 100000 in
def F49 (r_0 : Addr) (x_1 : Int) (K : Value → Heap → Prop) (h0 : Heap) : Prop := (
  ldW .slice (Addr.add r_0 0) (fun (x1 : Option Addr × Nat × Nat) =>
  newW (.cells #[.int .i64 x_1] 3) (fun a2 h3 =>
  apW Tryd.prog #[49, 49] #[.slice x1.1 x1.2.1 x1.2.2, .slice (some a2) 1 1] (fun b4 n5 c6 h7 =>
  stW (Addr.add r_0 0) (.slice b4 n5 c6) (fun h8 =>
  K (.tuple #[]) h8) h7) h3) h0) h0)
set_option maxRecDepth 100000 in
theorem F49_eq (r_0 : Addr) (x_1 : Int) (K : Value → Heap → Prop) (h0 : Heap) : funWE Tryd.prog 49 (.leaf) [.pointer (some r_0), .int .i64 x_1] K h0 = F49 r_0 x_1 K h0 := by kernel_rfl

-- function 63
set_option maxRecDepth 100000 in
def F63 (r_0 : Addr) (x_1 : Int) (K : Value → Heap → Prop) (h0 : Heap) : Prop := (
  newW (.cells #[.pointer (some r_0)] 116) (fun a1 h2 =>
  newW (.cells #[.int .i64 x_1] 3) (fun a3 h4 =>
  ldW .ptr a1 (fun (x5 : Option Addr) =>
  ldW .ptr a1 (fun (x6 : Option Addr) =>
  ptrW x6 (fun a7 =>
  ldW .slice (Addr.add a7 0) (fun (x8 : Option Addr × Nat × Nat) =>
  callT Tryd.prog 71 [.slice x8.1 x8.2.1 x8.2.2, .func (.func 72) #[] #[.pointer (some a1), .pointer (some a3)]] [.sc .slice] (fun (r9 : (Option Addr × Nat × Nat)) h10 =>
  (cellH h10 a1 = some (.pointer x5) ∧ ptrW x5 (fun a11 =>
  stW (Addr.add a11 0) (.slice r9.1 r9.2.1 r9.2.2) (fun h12 =>
  K (.tuple #[]) h12) h10))) h4) h4)) h4) h4) h2) h0)
set_option maxRecDepth 100000 in
theorem F63_eq (r_0 : Addr) (x_1 : Int) (K : Value → Heap → Prop) (h0 : Heap) : funWE Tryd.prog 63 (.seq (.leaf) (.draw (odp [0, 1, 2, 3, 4, 5, 6, 7, 8, 9] .nil) [200000])) [.pointer (some r_0), .int .i64 x_1] K h0 = F63 r_0 x_1 K h0 := by kernel_rfl

-- function 72
set_option maxRecDepth 100000 in
def F72 (y_0 : Int) (cap_0 : Addr) (cap_1 : Addr) (K : Value → Heap → Prop) (h0 : Heap) : Prop := (
  ldW .ptr cap_0 (fun (x1 : Option Addr) =>
  ptrW x1 (fun a2 =>
  ldW .any (Addr.add a2 1) (fun (x3 : Value) =>
  ldW (.int .i64) cap_1 (fun (x4 : Int) =>
  callW Tryd.prog (.sc .bool) x3 [.int .i64 x4, .int .i64 y_0] (fun (x5 : Bool) h6 =>
  K (.bool x5) h6) h0) h0) h0)) h0)
set_option maxRecDepth 100000 in
theorem F72_eq (y_0 : Int) (cap_0 : Addr) (cap_1 : Addr) (K : Value → Heap → Prop) (h0 : Heap) : funWE Tryd.prog 72 (.seq (.leaf) (.seq (.draw (odp [0, 1, 2, 3, 4, 5, 6, 7] .nil) []) (.leaf))) [.int .i64 y_0, .pointer (some cap_0), .pointer (some cap_1)] K h0 = F72 y_0 cap_0 cap_1 K h0 := by kernel_rfl

-- function 64
set_option maxRecDepth 100000 in
def F64 (r_0 : Addr) (x_1_0 : Int) (x_1_1 : Int) (K : Value → Heap → Prop) (h0 : Heap) : Prop := (
  newW (.cells #[.int .i64 x_1_0, .int .u32 x_1_1] 96) (fun a1 h2 =>
  ldW .slice (Addr.add r_0 0) (fun (x3 : Option Addr × Nat × Nat) =>
  ldAggW [.int .i64, .int .u32] a1 (fun (x4 : Int × Int) =>
  newW (.cells #[.int .i64 x4.1, .int .u32 x4.2] 96) (fun a5 h6 =>
  apW Tryd.prog #[89, 89] #[.slice x3.1 x3.2.1 x3.2.2, .slice (some a5) 1 1] (fun b7 n8 c9 h10 =>
  stW (Addr.add r_0 0) (.slice b7 n8 c9) (fun h11 =>
  K (.tuple #[]) h11) h10) h6) h2) h2) h2) h0)
set_option maxRecDepth 100000 in
theorem F64_eq (r_0 : Addr) (x_1_0 : Int) (x_1_1 : Int) (K : Value → Heap → Prop) (h0 : Heap) : funWE Tryd.prog 64 (.seq (.leaf) (.draw (odp [0, 1, 2, 3, 4, 5, 6, 7, 8, 9, 10] .nil) [])) [.pointer (some r_0), .agg #[.int .i64 x_1_0, .int .u32 x_1_1]] K h0 = F64 r_0 x_1_0 x_1_1 K h0 := by kernel_rfl

-- function 65
set_option maxRecDepth 100000 in
def F65 (r_0 : Addr) (x_1_0 : Int) (x_1_1 : Int) (K : Value → Heap → Prop) (h0 : Heap) : Prop := (
  newW (.cells #[.pointer (some r_0)] 133) (fun a1 h2 =>
  newW (.cells #[.int .i64 x_1_0, .int .u32 x_1_1] 96) (fun a3 h4 =>
  ldW .ptr a1 (fun (x5 : Option Addr) =>
  ldW .ptr a1 (fun (x6 : Option Addr) =>
  ptrW x6 (fun a7 =>
  ldW .slice (Addr.add a7 0) (fun (x8 : Option Addr × Nat × Nat) =>
  callT Tryd.prog 73 [.slice x8.1 x8.2.1 x8.2.2, .func (.func 74) #[] #[.pointer (some a1), .pointer (some a3)]] [.sc .slice] (fun (r9 : (Option Addr × Nat × Nat)) h10 =>
  (cellH h10 a1 = some (.pointer x5) ∧ ptrW x5 (fun a11 =>
  stW (Addr.add a11 0) (.slice r9.1 r9.2.1 r9.2.2) (fun h12 =>
  K (.tuple #[]) h12) h10))) h4) h4)) h4) h4) h2) h0)
set_option maxRecDepth 100000 in
theorem F65_eq (r_0 : Addr) (x_1_0 : Int) (x_1_1 : Int) (K : Value → Heap → Prop) (h0 : Heap) : funWE Tryd.prog 65 (.seq (.leaf) (.draw (odp [0, 1, 2, 3, 4, 5, 6, 7, 8, 9] .nil) [200000])) [.pointer (some r_0), .agg #[.int .i64 x_1_0, .int .u32 x_1_1]] K h0 = F65 r_0 x_1_0 x_1_1 K h0 := by kernel_rfl

-- function 74
set_option maxRecDepth 100000 in
def F74 (y_0_0 : Int) (y_0_1 : Int) (cap_0 : Addr) (cap_1 : Addr) (K : Value → Heap → Prop) (h0 : Heap) : Prop := (
  newW (.cells #[.int .i64 y_0_0, .int .u32 y_0_1] 96) (fun a1 h2 =>
  ldW .ptr cap_0 (fun (x3 : Option Addr) =>
  ptrW x3 (fun a4 =>
  ldW .any (Addr.add a4 1) (fun (x5 : Value) =>
  ldAggW [.int .i64, .int .u32] cap_1 (fun (x6 : Int × Int) =>
  ldAggW [.int .i64, .int .u32] a1 (fun (x7 : Int × Int) =>
  callW Tryd.prog (.sc .bool) x5 [.agg #[.int .i64 x6.1, .int .u32 x6.2], .agg #[.int .i64 x7.1, .int .u32 x7.2]] (fun (x8 : Bool) h9 =>
  K (.bool x8) h9) h2) h2) h2) h2)) h2) h0)
set_option maxRecDepth 100000 in
theorem F74_eq (y_0_0 : Int) (y_0_1 : Int) (cap_0 : Addr) (cap_1 : Addr) (K : Value → Heap → Prop) (h0 : Heap) : funWE Tryd.prog 74 (.seq (.leaf) (.seq (.draw (odp [0, 1, 2, 3, 4, 5, 6, 7] .nil) []) (.leaf))) [.agg #[.int .i64 y_0_0, .int .u32 y_0_1], .pointer (some cap_0), .pointer (some cap_1)] K h0 = F74 y_0_0 y_0_1 cap_0 cap_1 K h0 := by kernel_rfl

-- function 71
set_option maxRecDepth 100000 in
def F71 (s_0 : Option Addr) (s_0l s_0c : Nat) (del_1 : Value) (K : Value → Heap → Prop) (h0 : Heap) : Prop := (
  callT Tryd.prog 75 [.slice s_0 s_0l s_0c, del_1] [.sc (.int .i64)] (fun (r1 : Int) h2 =>
  br (r1 == (-1 : Int))
  (K (.slice s_0 s_0l s_0c) h2)
  (loopT [.sc (.int .i64), .sc (.int .i64)] (fun (s4 : Int × Int) _ (K3 : (Int × Int) → Heap → Prop) h5 =>
  br (decide (s4.2 < (((s_0l : Nat) : Int))))
  (ptrW s_0 (fun a6 =>
  idxW s4.2 s_0l true (ldW (.int .i64) (Addr.add a6 (Int.toNat s4.2 * 1)) (fun (x7 : Int) =>
  callW Tryd.prog (.sc .bool) del_1 [.int .i64 x7] (fun (x8 : Bool) h9 =>
  br (!x8)
  (ptrW s_0 (fun a10 =>
  idxW s4.1 s_0l true (stW (Addr.add a10 (Int.toNat s4.1 * 1)) (.int .i64 x7) (fun h11 =>
  K3 ((IntKind.wrap .i64 (s4.1 + (1 : Int))), (IntKind.wrap .i64 (s4.2 + (1 : Int)))) h11) h9)))
  (K3 (s4.1, (IntKind.wrap .i64 (s4.2 + (1 : Int)))) h9)) h5) h5)))
  (slW s_0 s_0c 1 s4.1 (((s_0l : Nat) : Int)) (((s_0c : Nat) : Int)) (fun b12 n13 c14 =>
  clW Tryd.prog #[49] #[.slice b12 n13 c14] (fun h15 =>
  slW s_0 s_0c 1 (0 : Int) s4.1 (((s_0c : Nat) : Int)) (fun b16 n17 c18 =>
  K (.slice b16 n17 c18) h15)) h5))) (r1, (IntKind.wrap .i64 (r1 + (1 : Int)))) h2)) h0)
set_option maxRecDepth 100000 in
theorem F71_eq (s_0 : Option Addr) (s_0l s_0c : Nat) (del_1 : Value) (K : Value → Heap → Prop) (h0 : Heap) : funWE Tryd.prog 71 (.seq (.leaf) (.seq (.leaf) (.seq (.seq (.leaf) (.cond (.seq (.leaf) (.leaf)) (.leaf))) (.seq (.seq (.leaf) (.block (.loop [(5, .sc (.int .i64)), (6, .sc (.int .i64))] (.seq (.seq (.leaf) (.cond (.leaf) (.leaf))) (.seq (.block (.seq (.leaf) (.seq (.leaf) (.cond (.seq (.leaf) (.leaf)) (.leaf))))) (.leaf)))))) (.seq (.leaf) (.seq (.leaf) (.leaf))))))) [.slice s_0 s_0l s_0c, del_1] K h0 = F71 s_0 s_0l s_0c del_1 K h0 := by kernel_rfl

-- function 75
set_option maxRecDepth 100000 in
def F75 (s_0 : Option Addr) (s_0l _s_0c : Nat) (f_1 : Value) (K : Value → Heap → Prop) (h0 : Heap) : Prop := (
  loopT [.sc (.int .i64)] (fun (s2 : Int) _ (K1 : Int → Heap → Prop) h3 =>
  br (decide (s2 < (((s_0l : Nat) : Int))))
  (ptrW s_0 (fun a4 =>
  idxW s2 s_0l true (ldW (.int .i64) (Addr.add a4 (Int.toNat s2 * 1)) (fun (x5 : Int) =>
  callW Tryd.prog (.sc .bool) f_1 [.int .i64 x5] (fun (x6 : Bool) h7 =>
  br x6
  (K (.int .i64 s2) h7)
  (K1 (IntKind.wrap .i64 (s2 + (1 : Int))) h7)) h3) h3)))
  (K (.int .i64 (-1)) h3)) (0 : Int) h0)
set_option maxRecDepth 100000 in
theorem F75_eq (s_0 : Option Addr) (s_0l s_0c : Nat) (f_1 : Value) (K : Value → Heap → Prop) (h0 : Heap) : funWE Tryd.prog 75 (.seq (.leaf) (.seq (.seq (.leaf) (.block (.loop [(8, .sc (.int .i64))] (.seq (.leaf) (.seq (.cond (.leaf) (.leaf)) (.seq (.block (.seq (.leaf) (.seq (.leaf) (.cond (.seq (.leaf) (.leaf)) (.leaf))))) (.leaf))))))) (.seq (.leaf) (.leaf)))) [.slice s_0 s_0l s_0c, f_1] K h0 = F75 s_0 s_0l s_0c f_1 K h0 := by kernel_rfl

-- function 73
set_option maxRecDepth 100000 in
def F73 (s_0 : Option Addr) (s_0l s_0c : Nat) (del_1 : Value) (K : Value → Heap → Prop) (h0 : Heap) : Prop := (
  callT Tryd.prog 76 [.slice s_0 s_0l s_0c, del_1] [.sc (.int .i64)] (fun (r1 : Int) h2 =>
  br (r1 == (-1 : Int))
  (K (.slice s_0 s_0l s_0c) h2)
  (loopT [.sc (.int .i64), .sc (.int .i64)] (fun (s4 : Int × Int) _ (K3 : (Int × Int) → Heap → Prop) h5 =>
  br (decide (s4.2 < (((s_0l : Nat) : Int))))
  (ptrW s_0 (fun a6 =>
  idxW s4.2 s_0l true (ldAggW [.int .i64, .int .u32] (Addr.add a6 (Int.toNat s4.2 * 2)) (fun (x7 : Int × Int) =>
  newW (.cells (zeroC Tryd.prog 96) 96) (fun a8 h9 =>
  stLW a8 [.int .i64 x7.1, .int .u32 x7.2] (fun h10 =>
  ldAggW [.int .i64, .int .u32] a8 (fun (x11 : Int × Int) =>
  callW Tryd.prog (.sc .bool) del_1 [.agg #[.int .i64 x11.1, .int .u32 x11.2]] (fun (x12 : Bool) h13 =>
  br (!x12)
  (ldAggW [.int .i64, .int .u32] a8 (fun (x14 : Int × Int) =>
  ptrW s_0 (fun a15 =>
  idxW s4.1 s_0l true (stLW (Addr.add a15 (Int.toNat s4.1 * 2)) [.int .i64 x14.1, .int .u32 x14.2] (fun h16 =>
  K3 ((IntKind.wrap .i64 (s4.1 + (1 : Int))), (IntKind.wrap .i64 (s4.2 + (1 : Int)))) h16) h13))) h13)
  (K3 (s4.1, (IntKind.wrap .i64 (s4.2 + (1 : Int)))) h13)) h10) h10) h9) h5) h5)))
  (slW s_0 s_0c 2 s4.1 (((s_0l : Nat) : Int)) (((s_0c : Nat) : Int)) (fun b17 n18 c19 =>
  clW Tryd.prog #[89] #[.slice b17 n18 c19] (fun h20 =>
  slW s_0 s_0c 2 (0 : Int) s4.1 (((s_0c : Nat) : Int)) (fun b21 n22 c23 =>
  K (.slice b21 n22 c23) h20)) h5))) (r1, (IntKind.wrap .i64 (r1 + (1 : Int)))) h2)) h0)
set_option maxRecDepth 100000 in
theorem F73_eq (s_0 : Option Addr) (s_0l s_0c : Nat) (del_1 : Value) (K : Value → Heap → Prop) (h0 : Heap) : funWE Tryd.prog 73 (.seq (.leaf) (.seq (.leaf) (.seq (.seq (.leaf) (.cond (.seq (.leaf) (.leaf)) (.leaf))) (.seq (.seq (.leaf) (.block (.loop [(5, .sc (.int .i64)), (6, .sc (.int .i64))] (.seq (.seq (.leaf) (.cond (.leaf) (.leaf))) (.seq (.block (.seq (.leaf) (.seq (.leaf) (.cond (.seq (.leaf) (.leaf)) (.leaf))))) (.leaf)))))) (.seq (.leaf) (.seq (.leaf) (.leaf))))))) [.slice s_0 s_0l s_0c, del_1] K h0 = F73 s_0 s_0l s_0c del_1 K h0 := by kernel_rfl

-- function 76
set_option maxRecDepth 100000 in
def F76 (s_0 : Option Addr) (s_0l _s_0c : Nat) (f_1 : Value) (K : Value → Heap → Prop) (h0 : Heap) : Prop := (
  loopT [.sc (.int .i64)] (fun (s2 : Int) _ (K1 : Int → Heap → Prop) h3 =>
  br (decide (s2 < (((s_0l : Nat) : Int))))
  (ptrW s_0 (fun a4 =>
  idxW s2 s_0l true (ldAggW [.int .i64, .int .u32] (Addr.add a4 (Int.toNat s2 * 2)) (fun (x5 : Int × Int) =>
  callW Tryd.prog (.sc .bool) f_1 [.agg #[.int .i64 x5.1, .int .u32 x5.2]] (fun (x6 : Bool) h7 =>
  br x6
  (K (.int .i64 s2) h7)
  (K1 (IntKind.wrap .i64 (s2 + (1 : Int))) h7)) h3) h3)))
  (K (.int .i64 (-1)) h3)) (0 : Int) h0)
set_option maxRecDepth 100000 in
theorem F76_eq (s_0 : Option Addr) (s_0l s_0c : Nat) (f_1 : Value) (K : Value → Heap → Prop) (h0 : Heap) : funWE Tryd.prog 76 (.seq (.leaf) (.seq (.seq (.leaf) (.block (.loop [(8, .sc (.int .i64))] (.seq (.leaf) (.seq (.cond (.leaf) (.leaf)) (.seq (.block (.seq (.leaf) (.seq (.leaf) (.cond (.seq (.leaf) (.leaf)) (.leaf))))) (.leaf))))))) (.seq (.leaf) (.leaf)))) [.slice s_0 s_0l s_0c, f_1] K h0 = F76 s_0 s_0l s_0c f_1 K h0 := by kernel_rfl

-- function 54
set_option maxRecDepth 100000 in
def F54 (s_0 : Option Addr) (s_0l s_0c : Nat) (K : Value → Heap → Prop) (h0 : Heap) : Prop := (
  br (Option.isNone s_0)
  (K (.slice none 0 0) h0)
  (newW (.cells #[] 3) (fun a1 h2 =>
  apW Tryd.prog #[49, 49] #[.slice (some a1) 0 0, .slice s_0 s_0l s_0c] (fun b3 n4 c5 h6 =>
  K (.slice b3 n4 c5) h6) h2) h0))
set_option maxRecDepth 100000 in
theorem F54_eq (s_0 : Option Addr) (s_0l s_0c : Nat) (K : Value → Heap → Prop) (h0 : Heap) : funWE Tryd.prog 54 (.seq (.leaf) (.seq (.seq (.leaf) (.cond (.seq (.leaf) (.leaf)) (.leaf))) (.seq (.leaf) (.leaf)))) [.slice s_0 s_0l s_0c] K h0 = F54 s_0 s_0l s_0c K h0 := by kernel_rfl

end Go.Proofs.YticppjmldlhbiaaDoor.W
