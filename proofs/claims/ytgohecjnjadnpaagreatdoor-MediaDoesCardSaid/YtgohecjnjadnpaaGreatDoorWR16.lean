/-
  The formulas of the reference of media. Each formula checked by the kernel. Printed by a program of this repo.
-/
import Derived.Test.YtgohecjnjadnpaaGreatDoorProg
import Derived.Test.YtgohecjnjadnpaaGreatDoorPl
namespace Go.Proofs.YtgohecjnjadnpaaGreatDoor.W
open Go.Pl

-- function 10
set_option maxRecDepth 100000 in
def F10 (d_0 : Addr) (g_1_0 : Int) (g_1_1 : Int) (g_1_2 : Int) (K : Value → Heap → Prop) (h0 : Heap) : Prop := (
  newW (.cells #[.int .i64 g_1_0, .int .i64 g_1_1, .int .i64 g_1_2] 27) (fun a1 h2 =>
  ldAggW [.int .i64, .int .i64, .int .i64] a1 (fun (x3 : Int × Int × Int) =>
  callT Tryz.prog 5 [.agg #[.int .i64 x3.1, .int .i64 x3.2.1, .int .i64 x3.2.2]] [.sc .bool] (fun (r4 : Bool) h5 =>
  br r4
  (ldW .slice (Addr.add d_0 0) (fun (x6 : Option Addr × Nat × Nat) =>
  ldW (.int .i64) (Addr.add a1 0) (fun (x7 : Int) =>
  br ((((x6.2.1 : Nat) : Int)) == x7)
  (ldW (.int .i64) (Addr.add d_0 1) (fun (x8 : Int) =>
  ldW (.int .i64) (Addr.add a1 1) (fun (x9 : Int) =>
  K (.bool (x8 == x9)) h5) h5) h5)
  (K (.bool false) h5)) h5) h5)
  (K (.bool false) h5)) h2) h2) h0)
set_option maxRecDepth 100000 in
theorem F10_eq (d_0 : Addr) (g_1_0 : Int) (g_1_1 : Int) (g_1_2 : Int) (K : Value → Heap → Prop) (h0 : Heap) : funWE Tryz.prog 10 (.seq (.leaf) (.seq (.draw (odp [0, 1, 2, 3, 4, 5, 6, 7, 8, 9, 10, 11, 12, 13, 14, 15, 16, 17, 18, 19, 20, 21] .nil) []) (.leaf))) [.pointer (some d_0), .agg #[.int .i64 g_1_0, .int .i64 g_1_1, .int .i64 g_1_2]] K h0 = F10 d_0 g_1_0 g_1_1 g_1_2 K h0 := by kernel_rfl

-- function 30
set_option maxRecDepth 100000 in
def F30 (d_0 : Addr) (g_1_0 : Int) (g_1_1 : Int) (g_1_2 : Int) (zone_2 : Int) (h_3_0 : Int) (h_3_1 : Int) (h_3_2 : Int) (h_3_3 : Int) (block_4 : Option Addr) (block_4l block_4c : Nat) (K : Value → Heap → Prop) (h0 : Heap) : Prop := (
  newW (.cells #[.int .i64 g_1_0, .int .i64 g_1_1, .int .i64 g_1_2] 27) (fun a1 h2 =>
  newW (.cells #[.int .u8 h_3_0, .int .u32 h_3_1, .int .u32 h_3_2, .int .u32 h_3_3] 48) (fun a3 h4 =>
  cutT [] (fun (K5 : Unit → Heap → Prop) h7 =>
  br (decide (zone_2 < (0 : Int)))
  (K (.tuple #[.int .u32 0, .int .i64 1]) h7)
  (ldW (.int .i64) (Addr.add a1 0) (fun (x6 : Int) =>
  br (decide (zone_2 > (IntKind.wrap .i64 (x6 - (3 : Int)))))
  (K (.tuple #[.int .u32 0, .int .i64 1]) h7)
  (K5 () h7)) h7)) (fun (_s8 : Unit) _ h9 =>
  ldAggW [.int .u8, .int .u32, .int .u32, .int .u32] a3 (fun (x10 : Int × Int × Int × Int) =>
  callT Tryz.prog 51 [.agg #[.int .u8 x10.1, .int .u32 x10.2.1, .int .u32 x10.2.2.1, .int .u32 x10.2.2.2], .slice block_4 block_4l block_4c] [.sc .slice, .sc (.int .i64)] (fun (r11 : (Option Addr × Nat × Nat) × Int) h12 =>
  br (r11.2 != (0 : Int))
  (K (.tuple #[.int .u32 0, .int .i64 r11.2]) h12)
  (callT Tryz.prog 52 [.pointer (some d_0), .int .i64 zone_2, .slice r11.1.1 r11.1.2.1 r11.1.2.2] [.sc (.int .i64), .sc (.int .i64)] (fun (r13 : Int × Int) h14 =>
  br (r13.2 != (0 : Int))
  (K (.tuple #[.int .u32 0, .int .i64 r13.2]) h14)
  (ldAggW [.int .i64, .int .i64, .int .i64] a1 (fun (x15 : Int × Int × Int) =>
  callT Tryz.prog 53 [.agg #[.int .i64 x15.1, .int .i64 x15.2.1, .int .i64 x15.2.2], .int .i64 zone_2, .int .i64 r13.1] [.sc (.int .u32)] (fun (r16 : Int) h17 =>
  K (.tuple #[.int .u32 r16, .int .i64 0]) h17) h14) h14)) h12)) h9) h9) h4) h2) h0)
set_option maxRecDepth 100000 in
theorem F30_eq (d_0 : Addr) (g_1_0 : Int) (g_1_1 : Int) (g_1_2 : Int) (zone_2 : Int) (h_3_0 : Int) (h_3_1 : Int) (h_3_2 : Int) (h_3_3 : Int) (block_4 : Option Addr) (block_4l block_4c : Nat) (K : Value → Heap → Prop) (h0 : Heap) : funWE Tryz.prog 30 (.seq (.leaf) (.cut [] (.seq (.leaf) (.cond (.seq (.leaf) (.leaf)) (.leaf))) (.seq (.leaf) (.seq (.seq (.leaf) (.cond (.seq (.leaf) (.leaf)) (.leaf))) (.seq (.leaf) (.seq (.seq (.leaf) (.cond (.seq (.leaf) (.leaf)) (.leaf))) (.seq (.leaf) (.leaf)))))))) [.pointer (some d_0), .agg #[.int .i64 g_1_0, .int .i64 g_1_1, .int .i64 g_1_2], .int .i64 zone_2, .agg #[.int .u8 h_3_0, .int .u32 h_3_1, .int .u32 h_3_2, .int .u32 h_3_3], .slice block_4 block_4l block_4c] K h0 = F30 d_0 g_1_0 g_1_1 g_1_2 zone_2 h_3_0 h_3_1 h_3_2 h_3_3 block_4 block_4l block_4c K h0 := by kernel_rfl

-- function 31
set_option maxRecDepth 100000 in
def F31 (d_0 : Addr) (g_1_0 : Int) (g_1_1 : Int) (g_1_2 : Int) (a_2 : Int) (K : Value → Heap → Prop) (h0 : Heap) : Prop := (
  newW (.cells #[.int .i64 g_1_0, .int .i64 g_1_1, .int .i64 g_1_2] 27) (fun a1 h2 =>
  newW (.cells (zeroC Tryz.prog 48) 48) (fun a3 h4 =>
  ldAggW [.int .i64, .int .i64, .int .i64] a1 (fun (x5 : Int × Int × Int) =>
  callT Tryz.prog 54 [.agg #[.int .i64 x5.1, .int .i64 x5.2.1, .int .i64 x5.2.2], .int .u32 a_2] [.sc (.int .i64), .sc (.int .i64), .sc .bool] (fun (r6 : Int × Int × Bool) h7 =>
  br (!r6.2.2)
  (stLW a3 [.int .u8 0, .int .u32 0, .int .u32 0, .int .u32 0] (fun h8 =>
  ldAggW [.int .u8, .int .u32, .int .u32, .int .u32] a3 (fun (x9 : Int × Int × Int × Int) =>
  K (.tuple #[.agg #[.int .u8 x9.1, .int .u32 x9.2.1, .int .u32 x9.2.2.1, .int .u32 x9.2.2.2], .slice none 0 0, .int .i64 1]) h8) h8) h7)
  (callT Tryz.prog 55 [.pointer (some d_0), .int .i64 r6.1, .int .i64 r6.2.1] [.sc .slice, .sc (.int .i64)] (fun (r10 : (Option Addr × Nat × Nat) × Int) h11 =>
  br (r10.2 != (0 : Int))
  (stLW a3 [.int .u8 0, .int .u32 0, .int .u32 0, .int .u32 0] (fun h12 =>
  ldAggW [.int .u8, .int .u32, .int .u32, .int .u32] a3 (fun (x13 : Int × Int × Int × Int) =>
  K (.tuple #[.agg #[.int .u8 x13.1, .int .u32 x13.2.1, .int .u32 x13.2.2.1, .int .u32 x13.2.2.2], .slice none 0 0, .int .i64 r10.2]) h12) h12) h11)
  (callT Tryz.prog 56 [.slice r10.1.1 r10.1.2.1 r10.1.2.2] [.agg [.int .u8, .int .u32, .int .u32, .int .u32], .sc .slice, .sc (.int .i64)] (fun (r14 : (Int × Int × Int × Int) × (Option Addr × Nat × Nat) × Int) h15 =>
  stLW a3 [.int .u8 r14.1.1, .int .u32 r14.1.2.1, .int .u32 r14.1.2.2.1, .int .u32 r14.1.2.2.2] (fun h16 =>
  ldAggW [.int .u8, .int .u32, .int .u32, .int .u32] a3 (fun (x17 : Int × Int × Int × Int) =>
  K (.tuple #[.agg #[.int .u8 x17.1, .int .u32 x17.2.1, .int .u32 x17.2.2.1, .int .u32 x17.2.2.2], .slice r14.2.1.1 r14.2.1.2.1 r14.2.1.2.2, .int .i64 r14.2.2]) h16) h16) h15) h11)) h7)) h4) h4) h2) h0)
set_option maxRecDepth 100000 in
theorem F31_eq (d_0 : Addr) (g_1_0 : Int) (g_1_1 : Int) (g_1_2 : Int) (a_2 : Int) (K : Value → Heap → Prop) (h0 : Heap) : funWE Tryz.prog 31 (.seq (.leaf) (.seq (.leaf) (.seq (.seq (.leaf) (.cond (.seq (.leaf) (.leaf)) (.leaf))) (.seq (.leaf) (.seq (.seq (.leaf) (.cond (.seq (.leaf) (.leaf)) (.leaf))) (.seq (.leaf) (.leaf))))))) [.pointer (some d_0), .agg #[.int .i64 g_1_0, .int .i64 g_1_1, .int .i64 g_1_2], .int .u32 a_2] K h0 = F31 d_0 g_1_0 g_1_1 g_1_2 a_2 K h0 := by kernel_rfl

-- function 17
set_option maxRecDepth 100000 in
def F17 (d_0 : Addr) (g_1_0 : Int) (g_1_1 : Int) (g_1_2 : Int) (K : Value → Heap → Prop) (h0 : Heap) : Prop := (
  newW (.cells #[.int .i64 g_1_0, .int .i64 g_1_1, .int .i64 g_1_2] 27) (fun a1 h2 =>
  newW (.cells #[] 91) (fun a3 h4 =>
  loopT [.sc .slice, .sc (.int .u32)] (fun (s6 : (Option Addr × Nat × Nat) × Int) _ (K5 : ((Option Addr × Nat × Nat) × Int) → Heap → Prop) h7 =>
  ldW (.int .i64) (Addr.add a1 0) (fun (x8 : Int) =>
  ldW (.int .i64) (Addr.add a1 1) (fun (x9 : Int) =>
  br (decide (s6.2 ≤ (IntKind.wrap .u32 (IntKind.wrap .i64 ((IntKind.wrap .i64 (x8 - (2 : Int))) * x9)))))
  (ldAggW [.int .i64, .int .i64, .int .i64] a1 (fun (x10 : Int × Int × Int) =>
  callT Tryz.prog 31 [.pointer (some d_0), .agg #[.int .i64 x10.1, .int .i64 x10.2.1, .int .i64 x10.2.2], .int .u32 s6.2] [.agg [.int .u8, .int .u32, .int .u32, .int .u32], .sc .slice, .sc (.int .i64)] (fun (r11 : (Int × Int × Int × Int) × (Option Addr × Nat × Nat) × Int) h12 =>
  newW (.cells (zeroC Tryz.prog 48) 48) (fun a13 h14 =>
  stLW a13 [.int .u8 r11.1.1, .int .u32 r11.1.2.1, .int .u32 r11.1.2.2.1, .int .u32 r11.1.2.2.2] (fun h15 =>
  br (r11.2.2 == (0 : Int))
  (ldAggW [.int .u8, .int .u32, .int .u32, .int .u32] a13 (fun (x16 : Int × Int × Int × Int) =>
  newW (.cells #[.int .u32 s6.2, .int .u8 x16.1, .int .u32 x16.2.1, .int .u32 x16.2.2.1, .int .u32 x16.2.2.2] 91) (fun a17 h18 =>
  apW Tryz.prog #[55, 55] #[.slice s6.1.1 s6.1.2.1 s6.1.2.2, .slice (some a17) 1 1] (fun b19 n20 c21 h22 =>
  K5 ((b19, n20, c21), (IntKind.wrap .u32 (s6.2 + (1 : Int)))) h22) h18) h15) h15)
  (K5 ((s6.1.1, s6.1.2.1, s6.1.2.2), (IntKind.wrap .u32 (s6.2 + (1 : Int)))) h15)) h14) h12) h7) h7)
  (K (.slice s6.1.1 s6.1.2.1 s6.1.2.2) h7)) h7) h7) (((some a3), 0, 0), (1 : Int)) h4) h2) h0)
set_option maxRecDepth 100000 in
theorem F17_eq (d_0 : Addr) (g_1_0 : Int) (g_1_1 : Int) (g_1_2 : Int) (K : Value → Heap → Prop) (h0 : Heap) : funWE Tryz.prog 17 (.seq (.leaf) (.seq (.leaf) (.seq (.seq (.leaf) (.block (.loop [(5, .sc .slice), (6, .sc (.int .u32))] (.seq (.seq (.leaf) (.cond (.leaf) (.leaf))) (.seq (.block (.seq (.leaf) (.seq (.leaf) (.cond (.leaf) (.leaf))))) (.leaf)))))) (.seq (.leaf) (.leaf))))) [.pointer (some d_0), .agg #[.int .i64 g_1_0, .int .i64 g_1_1, .int .i64 g_1_2]] K h0 = F17 d_0 g_1_0 g_1_1 g_1_2 K h0 := by kernel_rfl

end Go.Proofs.YtgohecjnjadnpaaGreatDoor.W
