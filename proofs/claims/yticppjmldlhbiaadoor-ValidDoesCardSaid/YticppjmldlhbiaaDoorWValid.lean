/-
  The formulas of package valid. Each formula checked by the kernel. Printed by a program of this repo.
-/
import Derived.Test.YticppjmldlhbiaaDoorProg
import Derived.Test.YticppjmldlhbiaaDoorPl
namespace Go.Proofs.YticppjmldlhbiaaDoor.W
open Go.Pl

-- function 6
set_option maxRecDepth 100000 in
def F6 (g_0_0 : Int) (g_0_1 : Int) (g_0_2 : Int) (K : Value → Heap → Prop) (h0 : Heap) : Prop := (
  newW (.cells #[.int .i64 g_0_0, .int .i64 g_0_1, .int .i64 g_0_2] 23) (fun a1 h2 =>
  ldAggW [.int .i64, .int .i64, .int .i64] a1 (fun (x3 : Int × Int × Int) =>
  callT Tryd.prog 35 [.agg #[.int .i64 x3.1, .int .i64 x3.2.1, .int .i64 x3.2.2]] [.sc .bool] (fun (r4 : Bool) h5 =>
  br (!r4)
  (K (.tuple #[.pointer none, .iface 33 (.int .i64 1)]) h5)
  (ldAggW [.int .i64, .int .i64, .int .i64] a1 (fun (x6 : Int × Int × Int) =>
  ldAggW [.int .i64, .int .i64, .int .i64] a1 (fun (x7 : Int × Int × Int) =>
  callT Tryd.prog 36 [.agg #[.int .i64 x7.1, .int .i64 x7.2.1, .int .i64 x7.2.2]] [.sc (.int .i64)] (fun (r8 : Int) h9 =>
  (mkW Tryd.prog 25 r8 r8 (fun b10 n11 c12 h13 =>
  newW (.cells #[.int .i64 x6.1, .int .i64 x6.2.1, .int .i64 x6.2.2, .slice b10 n11 c12] 72) (fun a14 h15 =>
  K (.tuple #[.pointer (some a14), .nilIface]) h15) h13) h9 ∧ Ext h5 h9)) h5) h5) h5)) h2) h2) h0)
set_option maxRecDepth 100000 in
theorem F6_eq (g_0_0 : Int) (g_0_1 : Int) (g_0_2 : Int) (K : Value → Heap → Prop) (h0 : Heap) : funWE Tryd.prog 6 (.seq (.leaf) (.seq (.seq (.leaf) (.cond (.seq (.leaf) (.leaf)) (.leaf))) (.seq (.draw (odp [0, 1, 2, 3, 4, 5, 6, 7] .nil) [100002]) (.leaf)))) [.agg #[.int .i64 g_0_0, .int .i64 g_0_1, .int .i64 g_0_2]] K h0 = F6 g_0_0 g_0_1 g_0_2 K h0 := by kernel_rfl

-- function 39
set_option maxRecDepth 100000 in
def F39 (s_0 : Addr) (a_1 : Int) (K : Value → Heap → Prop) (h0 : Heap) : Prop := (
  ldAggW [.int .i64, .int .i64, .int .i64] (Addr.add s_0 0) (fun (x1 : Int × Int × Int) =>
  callT Tryd.prog 61 [.agg #[.int .i64 x1.1, .int .i64 x1.2.1, .int .i64 x1.2.2], .int .u32 a_1] [.sc (.int .i64), .sc (.int .i64), .sc .bool] (fun (r2 : Int × Int × Bool) h3 =>
  br (!r2.2.2)
  (newW (.cells (zeroC Tryd.prog 25) 25) (fun a4 h5 =>
  K (.tuple #[.pointer (some a4), .int .u32 0]) h5) h3)
  (ldW .slice (Addr.add s_0 3) (fun (x6 : Option Addr × Nat × Nat) =>
  ptrW x6.1 (fun a7 =>
  idxW r2.1 x6.2.1 true (ckB (decide (0 ≤ r2.2.1)) (K (.tuple #[.pointer (some (Addr.add a7 (Int.toNat r2.1 * 1))), .int .u32 (IntKind.wrap .u32 ((1 : Int) * 2 ^ (min (r2.2.1).toNat 32)))]) h3)))) h3)) h0) h0)
set_option maxRecDepth 100000 in
theorem F39_eq (s_0 : Addr) (a_1 : Int) (K : Value → Heap → Prop) (h0 : Heap) : funWE Tryd.prog 39 (.seq (.leaf) (.seq (.leaf) (.seq (.seq (.leaf) (.cond (.seq (.leaf) (.leaf)) (.leaf))) (.seq (.draw (odp [0, 1, 2, 3, 4, 5, 6, 7, 8, 9] .nil) []) (.leaf))))) [.pointer (some s_0), .int .u32 a_1] K h0 = F39 s_0 a_1 K h0 := by kernel_rfl

-- function 13
set_option maxRecDepth 100000 in
def F13 (s_0 : Addr) (a_1 : Int) (K : Value → Heap → Prop) (h0 : Heap) : Prop := (
  callT Tryd.prog 39 [.pointer (some s_0), .int .u32 a_1] [.sc .ptr, .sc (.int .u32)] (fun (r1 : (Option Addr) × Int) h2 =>
  ptrW r1.1 (fun a3 =>
  ldW (.int .u32) a3 (fun (x4 : Int) =>
  K (.bool ((IntKind.wrap .u32 (((BitVec.ofInt 32 x4 &&& BitVec.ofInt 32 r1.2).toNat : Int))) != (0 : Int))) h2) h2)) h0)
set_option maxRecDepth 100000 in
theorem F13_eq (s_0 : Addr) (a_1 : Int) (K : Value → Heap → Prop) (h0 : Heap) : funWE Tryd.prog 13 (.seq (.leaf) (.seq (.leaf) (.seq (.leaf) (.leaf)))) [.pointer (some s_0), .int .u32 a_1] K h0 = F13 s_0 a_1 K h0 := by kernel_rfl

-- function 9
set_option maxRecDepth 100000 in
def F9 (s_0 : Addr) (a_1 : Int) (K : Value → Heap → Prop) (h0 : Heap) : Prop := (
  callT Tryd.prog 39 [.pointer (some s_0), .int .u32 a_1] [.sc .ptr, .sc (.int .u32)] (fun (r1 : (Option Addr) × Int) h2 =>
  cutT [.sc .bool] (fun (K3 : Bool → Heap → Prop) h6 =>
  br (r1.2 != (0 : Int))
  (ptrW r1.1 (fun a4 =>
  ldW (.int .u32) a4 (fun (x5 : Int) =>
  K3 ((IntKind.wrap .u32 (((BitVec.ofInt 32 x5 &&& BitVec.ofInt 32 r1.2).toNat : Int))) == (0 : Int)) h6) h6))
  (K3 false h6)) (fun (s7 : Bool) _ h8 =>
  ptrW r1.1 (fun a9 =>
  ldW (.int .u32) a9 (fun (x10 : Int) =>
  ptrW r1.1 (fun a11 =>
  stW a11 (.int .u32 (IntKind.wrap .u32 (((BitVec.ofInt 32 x10 ||| BitVec.ofInt 32 r1.2).toNat : Int)))) (fun h12 =>
  K (.bool s7) h12) h8)) h8)) h2) h0)
set_option maxRecDepth 100000 in
theorem F9_eq (s_0 : Addr) (a_1 : Int) (K : Value → Heap → Prop) (h0 : Heap) : funWE Tryd.prog 9 (.seq (.leaf) (.seq (.leaf) (.cut [(7, .sc .bool)] (.leaf) (.seq (.leaf) (.seq (.leaf) (.leaf)))))) [.pointer (some s_0), .int .u32 a_1] K h0 = F9 s_0 a_1 K h0 := by kernel_rfl

-- function 11
set_option maxRecDepth 100000 in
def F11 (s_0 : Addr) (a_1 : Int) (K : Value → Heap → Prop) (h0 : Heap) : Prop := (
  callT Tryd.prog 39 [.pointer (some s_0), .int .u32 a_1] [.sc .ptr, .sc (.int .u32)] (fun (r1 : (Option Addr) × Int) h2 =>
  ptrW r1.1 (fun a3 =>
  ldW (.int .u32) a3 (fun (x4 : Int) =>
  ptrW r1.1 (fun a5 =>
  ldW (.int .u32) a5 (fun (x6 : Int) =>
  ptrW r1.1 (fun a7 =>
  stW a7 (.int .u32 (IntKind.wrap .u32 (((BitVec.ofInt 32 x6 &&& ~~~(BitVec.ofInt 32 r1.2)).toNat : Int)))) (fun h8 =>
  K (.bool ((IntKind.wrap .u32 (((BitVec.ofInt 32 x4 &&& BitVec.ofInt 32 r1.2).toNat : Int))) != (0 : Int))) h8) h2)) h2)) h2)) h0)
set_option maxRecDepth 100000 in
theorem F11_eq (s_0 : Addr) (a_1 : Int) (K : Value → Heap → Prop) (h0 : Heap) : funWE Tryd.prog 11 (.seq (.leaf) (.seq (.leaf) (.seq (.leaf) (.seq (.leaf) (.seq (.leaf) (.leaf)))))) [.pointer (some s_0), .int .u32 a_1] K h0 = F11 s_0 a_1 K h0 := by kernel_rfl

-- function 16
set_option maxRecDepth 100000 in
def F16 (s_0 : Addr) (zone_1 : Int) (K : Value → Heap → Prop) (h0 : Heap) : Prop := (
  cutT [] (fun (K1 : Unit → Heap → Prop) h3 =>
  br (decide (zone_1 < (0 : Int)))
  (K (.int .i64 0) h3)
  (ldW .slice (Addr.add s_0 3) (fun (x2 : Option Addr × Nat × Nat) =>
  br (decide (zone_1 ≥ (((x2.2.1 : Nat) : Int))))
  (K (.int .i64 0) h3)
  (K1 () h3)) h3)) (fun (_s4 : Unit) _ h5 =>
  ldW .slice (Addr.add s_0 3) (fun (x6 : Option Addr × Nat × Nat) =>
  ptrW x6.1 (fun a7 =>
  idxW zone_1 x6.2.1 true (ldW (.int .u32) (Addr.add a7 (Int.toNat zone_1 * 1)) (fun (x8 : Int) =>
  callT Tryd.prog 41 [.int .u32 x8] [.sc (.int .i64)] (fun (r9 : Int) h10 =>
  K (.int .i64 r9) h10) h5) h5))) h5) h0)
set_option maxRecDepth 100000 in
theorem F16_eq (s_0 : Addr) (zone_1 : Int) (K : Value → Heap → Prop) (h0 : Heap) : funWE Tryd.prog 16 (.seq (.leaf) (.cut [] (.seq (.leaf) (.cond (.seq (.leaf) (.leaf)) (.leaf))) (.seq (.leaf) (.leaf)))) [.pointer (some s_0), .int .i64 zone_1] K h0 = F16 s_0 zone_1 K h0 := by kernel_rfl

-- function 15
set_option maxRecDepth 100000 in
def F15 (s_0 : Addr) (K : Value → Heap → Prop) (h0 : Heap) : Prop := (
  ldW .slice (Addr.add s_0 3) (fun (x1 : Option Addr × Nat × Nat) =>
  loopT [.sc (.int .i64), .sc (.int .i64)] (fun (s3 : Int × Int) _ (K2 : (Int × Int) → Heap → Prop) h4 =>
  br (decide (s3.2 < (((x1.2.1 : Nat) : Int))))
  (callW Tryd.prog (.sc (.int .i64)) (.func (.func 16) #[.pointer (some s_0)] #[]) [.int .i64 s3.2] (fun (x5 : Int) h6 =>
  K2 ((IntKind.wrap .i64 (s3.1 + x5)), (IntKind.wrap .i64 (s3.2 + (1 : Int)))) h6) h4)
  (K (.int .i64 s3.1) h4)) ((0 : Int), (0 : Int)) h0) h0)
set_option maxRecDepth 100000 in
theorem F15_eq (s_0 : Addr) (K : Value → Heap → Prop) (h0 : Heap) : funWE Tryd.prog 15 (.seq (.leaf) (.seq (.leaf) (.seq (.seq (.leaf) (.block (.loop [(3, .sc (.int .i64)), (13, .sc (.int .i64))] (.seq (.leaf) (.seq (.cond (.leaf) (.leaf)) (.seq (.block (.seq (.leaf) (.leaf))) (.leaf))))))) (.seq (.leaf) (.leaf))))) [.pointer (some s_0)] K h0 = F15 s_0 K h0 := by kernel_rfl

-- function 19
set_option maxRecDepth 100000 in
def F19 (s_0 : Addr) (zone_1 : Int) (K : Value → Heap → Prop) (h0 : Heap) : Prop := (
  ldW (.int .i64) (Addr.add (Addr.add s_0 0) 1) (fun (x1 : Int) =>
  loopT [.sc .slice, .sc (.int .i64)] (fun (s3 : (Option Addr × Nat × Nat) × Int) _ (K2 : ((Option Addr × Nat × Nat) × Int) → Heap → Prop) h4 =>
  br (decide (s3.2 < x1))
  (ldAggW [.int .i64, .int .i64, .int .i64] (Addr.add s_0 0) (fun (x5 : Int × Int × Int) =>
  callT Tryd.prog 43 [.agg #[.int .i64 x5.1, .int .i64 x5.2.1, .int .i64 x5.2.2], .int .i64 zone_1, .int .i64 s3.2] [.sc (.int .u32)] (fun (r6 : Int) h7 =>
  callT Tryd.prog 13 [.pointer (some s_0), .int .u32 r6] [.sc .bool] (fun (r8 : Bool) h9 =>
  br r8
  (newW (.cells #[.int .u32 r6] 25) (fun a10 h11 =>
  apW Tryd.prog #[42, 42] #[.slice s3.1.1 s3.1.2.1 s3.1.2.2, .slice (some a10) 1 1] (fun b12 n13 c14 h15 =>
  K2 ((b12, n13, c14), (IntKind.wrap .i64 (s3.2 + (1 : Int)))) h15) h11) h9)
  (K2 ((s3.1.1, s3.1.2.1, s3.1.2.2), (IntKind.wrap .i64 (s3.2 + (1 : Int)))) h9)) h7) h4) h4)
  (K (.slice s3.1.1 s3.1.2.1 s3.1.2.2) h4)) ((none, 0, 0), (0 : Int)) h0) h0)
set_option maxRecDepth 100000 in
theorem F19_eq (s_0 : Addr) (zone_1 : Int) (K : Value → Heap → Prop) (h0 : Heap) : funWE Tryd.prog 19 (.seq (.leaf) (.seq (.leaf) (.seq (.seq (.leaf) (.block (.loop [(5, .sc .slice), (13, .sc (.int .i64))] (.seq (.leaf) (.seq (.cond (.leaf) (.leaf)) (.seq (.block (.seq (.leaf) (.seq (.leaf) (.seq (.leaf) (.cond (.leaf) (.leaf)))))) (.leaf))))))) (.seq (.leaf) (.leaf))))) [.pointer (some s_0), .int .i64 zone_1] K h0 = F19 s_0 zone_1 K h0 := by kernel_rfl

-- function 21
set_option maxRecDepth 100000 in
def F21 (s_0 : Addr) (K : Value → Heap → Prop) (h0 : Heap) : Prop := (
  ldW .slice (Addr.add s_0 3) (fun (x1 : Option Addr × Nat × Nat) =>
  loopT [.sc .slice, .sc (.int .i64)] (fun (s3 : (Option Addr × Nat × Nat) × Int) _ (K2 : ((Option Addr × Nat × Nat) × Int) → Heap → Prop) h4 =>
  br (decide (s3.2 < (((x1.2.1 : Nat) : Int))))
  (ptrW x1.1 (fun a5 =>
  idxW s3.2 x1.2.1 true (ldW (.int .u32) (Addr.add a5 (Int.toNat s3.2 * 1)) (fun (x6 : Int) =>
  br (x6 == (0 : Int))
  (newW (.cells #[.int .i64 s3.2] 3) (fun a7 h8 =>
  apW Tryd.prog #[49, 49] #[.slice s3.1.1 s3.1.2.1 s3.1.2.2, .slice (some a7) 1 1] (fun b9 n10 c11 h12 =>
  K2 ((b9, n10, c11), (IntKind.wrap .i64 (s3.2 + (1 : Int)))) h12) h8) h4)
  (K2 ((s3.1.1, s3.1.2.1, s3.1.2.2), (IntKind.wrap .i64 (s3.2 + (1 : Int)))) h4)) h4)))
  (K (.slice s3.1.1 s3.1.2.1 s3.1.2.2) h4)) ((none, 0, 0), (0 : Int)) h0) h0)
set_option maxRecDepth 100000 in
theorem F21_eq (s_0 : Addr) (K : Value → Heap → Prop) (h0 : Heap) : funWE Tryd.prog 21 (.seq (.leaf) (.seq (.leaf) (.seq (.seq (.leaf) (.block (.loop [(3, .sc .slice), (11, .sc (.int .i64))] (.seq (.leaf) (.seq (.cond (.leaf) (.leaf)) (.seq (.block (.seq (.leaf) (.seq (.leaf) (.cond (.leaf) (.leaf))))) (.leaf))))))) (.seq (.leaf) (.leaf))))) [.pointer (some s_0)] K h0 = F21 s_0 K h0 := by kernel_rfl

-- function 5
set_option maxRecDepth 100000 in
def F5  (K : Value → Heap → Prop) (h0 : Heap) : Prop := (
  callT Tryd.prog 6 [.agg #[.int .i64 11, .int .i64 4, .int .i64 6]] [.sc .ptr, .sc .any] (fun (r1 : (Option Addr) × Value) h2 =>
  cutT [] (fun (K3 : Unit → Heap → Prop) h4 =>
  br (Option.isNone r1.1)
  (K (.bool false) h4)
  (ifW r1.2 (br (!(isNilV r1.2))
  (K (.bool false) h4)
  (K3 () h4)))) (fun (_s5 : Unit) _ h6 =>
  cutT [.sc .bool] (fun (K7 : Bool → Heap → Prop) h18 =>
  callT Tryd.prog 9 [.pointer r1.1, .int .u32 5] [.sc .bool] (fun (r8 : Bool) h9 =>
  br r8
  (callT Tryd.prog 9 [.pointer r1.1, .int .u32 8] [.sc .bool] (fun (r10 : Bool) h11 =>
  br r10
  (callT Tryd.prog 9 [.pointer r1.1, .int .u32 8] [.sc .bool] (fun (r12 : Bool) h13 =>
  br (!r12)
  (callT Tryd.prog 9 [.pointer r1.1, .int .u32 0] [.sc .bool] (fun (r14 : Bool) h15 =>
  br (!r14)
  (callT Tryd.prog 9 [.pointer r1.1, .int .u32 37] [.sc .bool] (fun (r16 : Bool) h17 =>
  K7 (!r16) h17) h15)
  (K7 false h15)) h13)
  (K7 false h13)) h11)
  (K7 false h11)) h9)
  (K7 false h9)) h18) (fun (s19 : Bool) _ h20 =>
  br s19
  (callT Tryd.prog 16 [.pointer r1.1, .int .i64 1] [.sc (.int .i64)] (fun (r21 : Int) h22 =>
  br (r21 == (2 : Int))
  (callT Tryd.prog 15 [.pointer r1.1] [.sc (.int .i64)] (fun (r23 : Int) h24 =>
  br (r23 == (2 : Int))
  (callT Tryd.prog 13 [.pointer r1.1, .int .u32 5] [.sc .bool] (fun (r25 : Bool) h26 =>
  br r25
  (callT Tryd.prog 13 [.pointer r1.1, .int .u32 6] [.sc .bool] (fun (r27 : Bool) h28 =>
  br (!r27)
  (callT Tryd.prog 19 [.pointer r1.1, .int .i64 1] [.sc .slice] (fun (r29 : (Option Addr × Nat × Nat)) h30 =>
  newW (.cells #[.int .u32 5, .int .u32 8] 25) (fun a31 h32 =>
  callT Tryd.prog 18 [.slice r29.1 r29.2.1 r29.2.2, .slice (some a31) 2 2] [.sc .bool] (fun (r33 : Bool) h34 =>
  br r33
  (callT Tryd.prog 21 [.pointer r1.1] [.sc .slice] (fun (r35 : (Option Addr × Nat × Nat)) h36 =>
  newW (.cells #[.int .i64 0, .int .i64 2, .int .i64 3, .int .i64 4, .int .i64 5, .int .i64 6, .int .i64 7, .int .i64 8] 3) (fun a37 h38 =>
  callT Tryd.prog 20 [.slice r35.1 r35.2.1 r35.2.2, .slice (some a37) 8 8] [.sc .bool] (fun (r39 : Bool) h40 =>
  br r39
  (callT Tryd.prog 11 [.pointer r1.1, .int .u32 5] [.sc .bool] (fun (r41 : Bool) h42 =>
  br r41
  (callT Tryd.prog 11 [.pointer r1.1, .int .u32 5] [.sc .bool] (fun (r43 : Bool) h44 =>
  K (.bool (!r43)) h44) h42)
  (K (.bool false) h42)) h40)
  (K (.bool false) h40)) h38) h36) h34)
  (K (.bool false) h34)) h32) h30) h28)
  (K (.bool false) h28)) h26)
  (K (.bool false) h26)) h24)
  (K (.bool false) h24)) h22)
  (K (.bool false) h22)) h20)
  (K (.bool false) h20)) h6) h2) h0)
set_option maxRecDepth 100000 in
theorem F5_eq  (K : Value → Heap → Prop) (h0 : Heap) : funWE Tryd.prog 5 (.seq (.leaf) (.seq (.leaf) (.cut [] (.seq (.leaf) (.cond (.seq (.leaf) (.leaf)) (.leaf))) (.cut [(3, .sc .bool)] (.leaf) (.seq (.leaf) (.leaf)))))) [] K h0 = F5  K h0 := by kernel_rfl

end Go.Proofs.YticppjmldlhbiaaDoor.W
