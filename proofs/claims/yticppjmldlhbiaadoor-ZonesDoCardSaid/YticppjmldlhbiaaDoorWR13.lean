/-
  The formulas of the reference of zones. Each formula checked by the kernel. Printed by a program of this repo.
-/
import Derived.Test.YticppjmldlhbiaaDoorProg
import Derived.Test.YticppjmldlhbiaaDoorPl
namespace Go.Proofs.YticppjmldlhbiaaDoor.W
open Go.Pl

-- function 25
set_option maxRecDepth 100000 in
def F25 (zones_0 : Int) (K : Value → Heap → Prop) (h0 : Heap) : Prop := (
  cutT [] (fun (K1 : Unit → Heap → Prop) h2 =>
  br (decide (zones_0 < (1 : Int)))
  (K (.tuple #[.pointer none, .int .i64 1]) h2)
  (br (decide (zones_0 > (24 : Int)))
  (K (.tuple #[.pointer none, .int .i64 1]) h2)
  (K1 () h2))) (fun (_s3 : Unit) _ h4 =>
  newW (.cells #[.slice none 0 0, .slice none 0 0, .slice none 0 0] 67) (fun a5 h6 =>
  loopT [.sc (.int .i64)] (fun (s8 : Int) _ (K7 : Int → Heap → Prop) h9 =>
  br (decide (s8 < zones_0))
  (ldW .slice (Addr.add a5 0) (fun (x10 : Option Addr × Nat × Nat) =>
  newW (.cells #[.int .i64 0] 3) (fun a11 h12 =>
  apW Tryd.prog #[49, 49] #[.slice x10.1 x10.2.1 x10.2.2, .slice (some a11) 1 1] (fun b13 n14 c15 h16 =>
  stW (Addr.add a5 0) (.slice b13 n14 c15) (fun h17 =>
  ldW .slice (Addr.add a5 1) (fun (x18 : Option Addr × Nat × Nat) =>
  newW (.cells #[.int .i64 s8] 3) (fun a19 h20 =>
  apW Tryd.prog #[49, 49] #[.slice x18.1 x18.2.1 x18.2.2, .slice (some a19) 1 1] (fun b21 n22 c23 h24 =>
  stW (Addr.add a5 1) (.slice b21 n22 c23) (fun h25 =>
  K7 (IntKind.wrap .i64 (s8 + (1 : Int))) h25) h24) h20) h17) h17) h16) h12) h9) h9)
  (K (.tuple #[.pointer (some a5), .int .i64 0]) h9)) (0 : Int) h6) h4) h0)
set_option maxRecDepth 100000 in
theorem F25_eq (zones_0 : Int) (K : Value → Heap → Prop) (h0 : Heap) : funWE Tryd.prog 25 (.seq (.leaf) (.cut [] (.seq (.leaf) (.cond (.seq (.leaf) (.leaf)) (.leaf))) (.seq (.leaf) (.seq (.seq (.leaf) (.block (.loop [(5, .sc (.int .i64))] (.seq (.seq (.leaf) (.cond (.leaf) (.leaf))) (.seq (.block (.seq (.leaf) (.leaf))) (.leaf)))))) (.seq (.leaf) (.leaf)))))) [.int .i64 zones_0] K h0 = F25 zones_0 K h0 := by kernel_rfl

-- function 29
set_option maxRecDepth 100000 in
def F29 (t_0 : Addr) (zone_1 : Int) (K : Value → Heap → Prop) (h0 : Heap) : Prop := (
  cutT [] (fun (K1 : Unit → Heap → Prop) h3 =>
  br (decide (zone_1 < (0 : Int)))
  (K (.tuple #[.int .i64 0, .bool false]) h3)
  (ldW .slice (Addr.add t_0 0) (fun (x2 : Option Addr × Nat × Nat) =>
  br (decide (zone_1 ≥ (((x2.2.1 : Nat) : Int))))
  (K (.tuple #[.int .i64 0, .bool false]) h3)
  (K1 () h3)) h3)) (fun (_s4 : Unit) _ h5 =>
  ldW .slice (Addr.add t_0 0) (fun (x6 : Option Addr × Nat × Nat) =>
  ptrW x6.1 (fun a7 =>
  idxW zone_1 x6.2.1 true (ldW (.int .i64) (Addr.add a7 (Int.toNat zone_1 * 1)) (fun (x8 : Int) =>
  K (.tuple #[.int .i64 x8, .bool true]) h5) h5))) h5) h0)
set_option maxRecDepth 100000 in
theorem F29_eq (t_0 : Addr) (zone_1 : Int) (K : Value → Heap → Prop) (h0 : Heap) : funWE Tryd.prog 29 (.seq (.leaf) (.cut [] (.seq (.leaf) (.cond (.seq (.leaf) (.leaf)) (.leaf))) (.seq (.leaf) (.leaf)))) [.pointer (some t_0), .int .i64 zone_1] K h0 = F29 t_0 zone_1 K h0 := by kernel_rfl

-- function 50
set_option maxRecDepth 100000 in
def F50 (t_0 : Addr) (K : Value → Heap → Prop) (h0 : Heap) : Prop := (
  ldW .slice (Addr.add t_0 1) (fun (x1 : Option Addr × Nat × Nat) =>
  br ((((x1.2.1 : Nat) : Int)) == (0 : Int))
  (K (.tuple #[.int .i64 0, .bool false]) h0)
  (ldW .slice (Addr.add t_0 1) (fun (x2 : Option Addr × Nat × Nat) =>
  ptrW x2.1 (fun a3 =>
  idxW (0 : Int) x2.2.1 true (ldW (.int .i64) (Addr.add a3 (Int.toNat (0 : Int) * 1)) (fun (x4 : Int) =>
  newW (.cells #[] 3) (fun a5 h6 =>
  ldW .slice (Addr.add t_0 1) (fun (x7 : Option Addr × Nat × Nat) =>
  slW x7.1 x7.2.2 1 (1 : Int) (((x7.2.1 : Nat) : Int)) (((x7.2.2 : Nat) : Int)) (fun b8 n9 c10 =>
  apW Tryd.prog #[49, 49] #[.slice (some a5) 0 0, .slice b8 n9 c10] (fun b11 n12 c13 h14 =>
  stW (Addr.add t_0 1) (.slice b11 n12 c13) (fun h15 =>
  ldW .slice (Addr.add t_0 0) (fun (x16 : Option Addr × Nat × Nat) =>
  ptrW x16.1 (fun a17 =>
  idxW x4 x16.2.1 true (stW (Addr.add a17 (Int.toNat x4 * 1)) (.int .i64 1) (fun h18 =>
  K (.tuple #[.int .i64 x4, .bool true]) h18) h15))) h15) h14) h6)) h6) h0) h0))) h0)) h0)
set_option maxRecDepth 100000 in
theorem F50_eq (t_0 : Addr) (K : Value → Heap → Prop) (h0 : Heap) : funWE Tryd.prog 50 (.seq (.leaf) (.seq (.seq (.leaf) (.cond (.seq (.leaf) (.leaf)) (.leaf))) (.seq (.leaf) (.seq (.leaf) (.seq (.leaf) (.seq (.leaf) (.leaf))))))) [.pointer (some t_0)] K h0 = F50 t_0 K h0 := by kernel_rfl

-- function 51
set_option maxRecDepth 100000 in
def F51 (t_0 : Addr) (zone_1 : Int) (K : Value → Heap → Prop) (h0 : Heap) : Prop := (
  callT Tryd.prog 29 [.pointer (some t_0), .int .i64 zone_1] [.sc (.int .i64), .sc .bool] (fun (r1 : Int × Bool) h2 =>
  br (r1.1 != (1 : Int))
  (K (.bool false) h2)
  (ldW .slice (Addr.add t_0 0) (fun (x3 : Option Addr × Nat × Nat) =>
  ptrW x3.1 (fun a4 =>
  idxW zone_1 x3.2.1 true (stW (Addr.add a4 (Int.toNat zone_1 * 1)) (.int .i64 2) (fun h5 =>
  newW (.cells #[] 3) (fun a6 h7 =>
  ldW .slice (Addr.add t_0 2) (fun (x8 : Option Addr × Nat × Nat) =>
  apW Tryd.prog #[49, 49] #[.slice (some a6) 0 0, .slice x8.1 x8.2.1 x8.2.2] (fun b9 n10 c11 h12 =>
  newW (.cells #[.int .i64 zone_1] 3) (fun a13 h14 =>
  apW Tryd.prog #[49, 49] #[.slice b9 n10 c11, .slice (some a13) 1 1] (fun b15 n16 c17 h18 =>
  stW (Addr.add t_0 2) (.slice b15 n16 c17) (fun h19 =>
  K (.bool true) h19) h18) h14) h12) h7) h7) h5) h2))) h2)) h0)
set_option maxRecDepth 100000 in
theorem F51_eq (t_0 : Addr) (zone_1 : Int) (K : Value → Heap → Prop) (h0 : Heap) : funWE Tryd.prog 51 (.seq (.leaf) (.seq (.leaf) (.seq (.seq (.leaf) (.cond (.seq (.leaf) (.leaf)) (.leaf))) (.seq (.leaf) (.seq (.leaf) (.seq (.leaf) (.leaf))))))) [.pointer (some t_0), .int .i64 zone_1] K h0 = F51 t_0 zone_1 K h0 := by kernel_rfl

-- function 52
set_option maxRecDepth 100000 in
def F52 (t_0 : Addr) (zone_1 : Int) (K : Value → Heap → Prop) (h0 : Heap) : Prop := (
  callT Tryd.prog 29 [.pointer (some t_0), .int .i64 zone_1] [.sc (.int .i64), .sc .bool] (fun (r1 : Int × Bool) h2 =>
  br (r1.1 == (0 : Int))
  (K (.bool false) h2)
  (ldW .slice (Addr.add t_0 0) (fun (x3 : Option Addr × Nat × Nat) =>
  ptrW x3.1 (fun a4 =>
  idxW zone_1 x3.2.1 true (stW (Addr.add a4 (Int.toNat zone_1 * 1)) (.int .i64 0) (fun h5 =>
  newW (.cells #[] 3) (fun a6 h7 =>
  ldW .slice (Addr.add t_0 1) (fun (x8 : Option Addr × Nat × Nat) =>
  apW Tryd.prog #[49, 49] #[.slice (some a6) 0 0, .slice x8.1 x8.2.1 x8.2.2] (fun b9 n10 c11 h12 =>
  newW (.cells #[.int .i64 zone_1] 3) (fun a13 h14 =>
  apW Tryd.prog #[49, 49] #[.slice b9 n10 c11, .slice (some a13) 1 1] (fun b15 n16 c17 h18 =>
  stW (Addr.add t_0 1) (.slice b15 n16 c17) (fun h19 =>
  K (.bool true) h19) h18) h14) h12) h7) h7) h5) h2))) h2)) h0)
set_option maxRecDepth 100000 in
theorem F52_eq (t_0 : Addr) (zone_1 : Int) (K : Value → Heap → Prop) (h0 : Heap) : funWE Tryd.prog 52 (.seq (.leaf) (.seq (.leaf) (.seq (.seq (.leaf) (.cond (.seq (.leaf) (.leaf)) (.leaf))) (.seq (.leaf) (.seq (.leaf) (.seq (.leaf) (.leaf))))))) [.pointer (some t_0), .int .i64 zone_1] K h0 = F52 t_0 zone_1 K h0 := by kernel_rfl

-- function 53
set_option maxRecDepth 100000 in
def F53 (t_0 : Addr) (zone_1 : Int) (K : Value → Heap → Prop) (h0 : Heap) : Prop := (
  callT Tryd.prog 29 [.pointer (some t_0), .int .i64 zone_1] [.sc (.int .i64), .sc .bool] (fun (r1 : Int × Bool) h2 =>
  br (r1.1 != (2 : Int))
  (K (.int .i64 (-1)) h2)
  (loopT [.sc (.int .i64), .sc (.int .i64)] (fun (s4 : Int × Int) _ (K3 : (Int × Int) → Heap → Prop) h5 =>
  ldW .slice (Addr.add t_0 2) (fun (x6 : Option Addr × Nat × Nat) =>
  br (decide (s4.2 < (((x6.2.1 : Nat) : Int))))
  (ldW .slice (Addr.add t_0 2) (fun (x7 : Option Addr × Nat × Nat) =>
  ptrW x7.1 (fun a8 =>
  idxW s4.2 x7.2.1 true (ldW (.int .i64) (Addr.add a8 (Int.toNat s4.2 * 1)) (fun (x9 : Int) =>
  br (x9 == zone_1)
  (K3 (s4.2, (IntKind.wrap .i64 (s4.2 + (1 : Int)))) h5)
  (K3 (s4.1, (IntKind.wrap .i64 (s4.2 + (1 : Int)))) h5)) h5))) h5)
  (K (.int .i64 s4.1) h5)) h5) ((0 : Int), (0 : Int)) h2)) h0)
set_option maxRecDepth 100000 in
theorem F53_eq (t_0 : Addr) (zone_1 : Int) (K : Value → Heap → Prop) (h0 : Heap) : funWE Tryd.prog 53 (.seq (.leaf) (.seq (.leaf) (.seq (.seq (.leaf) (.cond (.seq (.leaf) (.leaf)) (.leaf))) (.seq (.leaf) (.seq (.seq (.leaf) (.block (.loop [(7, .sc (.int .i64)), (8, .sc (.int .i64))] (.seq (.seq (.leaf) (.cond (.leaf) (.leaf))) (.seq (.block (.seq (.leaf) (.cond (.leaf) (.leaf)))) (.leaf)))))) (.seq (.leaf) (.leaf))))))) [.pointer (some t_0), .int .i64 zone_1] K h0 = F53 t_0 zone_1 K h0 := by kernel_rfl

-- function 34
set_option maxRecDepth 100000 in
def F34 (t_0 : Addr) (K : Value → Heap → Prop) (h0 : Heap) : Prop := (
  newW (.cells #[] 3) (fun a1 h2 =>
  loopT [.sc .slice, .sc (.int .i64)] (fun (s4 : (Option Addr × Nat × Nat) × Int) _ (K3 : ((Option Addr × Nat × Nat) × Int) → Heap → Prop) h5 =>
  ldW .slice (Addr.add t_0 2) (fun (x6 : Option Addr × Nat × Nat) =>
  br (decide (s4.2 < (((x6.2.1 : Nat) : Int))))
  (ldW .slice (Addr.add t_0 2) (fun (x7 : Option Addr × Nat × Nat) =>
  ptrW x7.1 (fun a8 =>
  idxW s4.2 x7.2.1 true (ldW (.int .i64) (Addr.add a8 (Int.toNat s4.2 * 1)) (fun (x9 : Int) =>
  callT Tryd.prog 53 [.pointer (some t_0), .int .i64 x9] [.sc (.int .i64)] (fun (r10 : Int) h11 =>
  br (r10 == s4.2)
  (ldW .slice (Addr.add t_0 2) (fun (x12 : Option Addr × Nat × Nat) =>
  ptrW x12.1 (fun a13 =>
  idxW s4.2 x12.2.1 true (ldW (.int .i64) (Addr.add a13 (Int.toNat s4.2 * 1)) (fun (x14 : Int) =>
  newW (.cells #[.int .i64 x14] 3) (fun a15 h16 =>
  apW Tryd.prog #[49, 49] #[.slice s4.1.1 s4.1.2.1 s4.1.2.2, .slice (some a15) 1 1] (fun b17 n18 c19 h20 =>
  K3 ((b17, n18, c19), (IntKind.wrap .i64 (s4.2 + (1 : Int)))) h20) h16) h11) h11))) h11)
  (K3 ((s4.1.1, s4.1.2.1, s4.1.2.2), (IntKind.wrap .i64 (s4.2 + (1 : Int)))) h11)) h5) h5))) h5)
  (K (.slice s4.1.1 s4.1.2.1 s4.1.2.2) h5)) h5) (((some a1), 0, 0), (0 : Int)) h2) h0)
set_option maxRecDepth 100000 in
theorem F34_eq (t_0 : Addr) (K : Value → Heap → Prop) (h0 : Heap) : funWE Tryd.prog 34 (.seq (.leaf) (.seq (.leaf) (.seq (.seq (.leaf) (.block (.loop [(3, .sc .slice), (4, .sc (.int .i64))] (.seq (.seq (.leaf) (.cond (.leaf) (.leaf))) (.seq (.block (.seq (.leaf) (.cond (.leaf) (.leaf)))) (.leaf)))))) (.seq (.leaf) (.leaf))))) [.pointer (some t_0)] K h0 = F34 t_0 K h0 := by kernel_rfl

-- function 31
set_option maxRecDepth 100000 in
def F31 (t_0 : Addr) (zone_1 : Int) (K : Value → Heap → Prop) (h0 : Heap) : Prop := (
  callT Tryd.prog 53 [.pointer (some t_0), .int .i64 zone_1] [.sc (.int .i64)] (fun (r1 : Int) h2 =>
  br (decide (r1 < (0 : Int)))
  (K (.int .u32 0) h2)
  (ldW .slice (Addr.add t_0 2) (fun (x3 : Option Addr × Nat × Nat) =>
  K (.int .u32 (IntKind.wrap .u32 (IntKind.wrap .i64 ((IntKind.wrap .i64 ((((x3.2.1 : Nat) : Int)) - (1 : Int))) - r1)))) h2) h2)) h0)
set_option maxRecDepth 100000 in
theorem F31_eq (t_0 : Addr) (zone_1 : Int) (K : Value → Heap → Prop) (h0 : Heap) : funWE Tryd.prog 31 (.seq (.leaf) (.seq (.leaf) (.seq (.seq (.leaf) (.cond (.seq (.leaf) (.leaf)) (.leaf))) (.seq (.leaf) (.leaf))))) [.pointer (some t_0), .int .i64 zone_1] K h0 = F31 t_0 zone_1 K h0 := by kernel_rfl

end Go.Proofs.YticppjmldlhbiaaDoor.W
