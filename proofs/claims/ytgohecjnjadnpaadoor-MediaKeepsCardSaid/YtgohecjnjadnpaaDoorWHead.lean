/-
  The formulas of package head. Each formula checked by the kernel. Printed by a program of this repo.
-/
import Derived.Test.YtgohecjnjadnpaaDoorProg
import Derived.Test.YtgohecjnjadnpaaDoorPl
namespace Go.Proofs.YtgohecjnjadnpaaDoor.W
open Go.Pl

-- function 21
set_option maxRecDepth 100000 in
def F21 (h_0_0 : Int) (h_0_1 : Int) (h_0_2 : Int) (h_0_3 : Int) (K : Value → Heap → Prop) (h0 : Heap) : Prop := (
  newW (.cells #[.int .u8 h_0_0, .int .u32 h_0_1, .int .u32 h_0_2, .int .u32 h_0_3] 24) (fun a1 h2 =>
  ldW (.int .u8) (Addr.add a1 0) (fun (x3 : Int) =>
  br (decide (x3 ≥ (1 : Int)))
  (ldW (.int .u8) (Addr.add a1 0) (fun (x4 : Int) =>
  K (.bool (decide (x4 ≤ (5 : Int)))) h2) h2)
  (K (.bool false) h2)) h2) h0)
set_option maxRecDepth 100000 in
theorem F21_eq (h_0_0 : Int) (h_0_1 : Int) (h_0_2 : Int) (h_0_3 : Int) (K : Value → Heap → Prop) (h0 : Heap) : funWE Tryd.prog 21 (.seq (.leaf) (.seq (.leaf) (.leaf))) [.agg #[.int .u8 h_0_0, .int .u32 h_0_1, .int .u32 h_0_2, .int .u32 h_0_3]] K h0 = F21 h_0_0 h_0_1 h_0_2 h_0_3 K h0 := by kernel_rfl

-- function 54
set_option maxRecDepth 100000 in
def F54 (b_0 : Option Addr) (b_0l b_0c : Nat) (l_1 : Option Addr) (l_1l _l_1c : Nat) (K : Value → Heap → Prop) (h0 : Heap) : Prop := (
  loopT [.sc .slice, .sc (.int .i64)] (fun (s2 : (Option Addr × Nat × Nat) × Int) _ (K1 : ((Option Addr × Nat × Nat) × Int) → Heap → Prop) h3 =>
  br (decide (s2.2 < (((l_1l : Nat) : Int))))
  (ptrW l_1 (fun a4 =>
  idxW s2.2 l_1l true (ldW (.int .u32) (Addr.add a4 (Int.toNat s2.2 * 1)) (fun (x5 : Int) =>
  loopT [.sc .slice, .sc (.int .i64)] (fun (s7 : (Option Addr × Nat × Nat) × Int) _ (K6 : ((Option Addr × Nat × Nat) × Int) → Heap → Prop) h8 =>
  br (decide (s7.2 < (4 : Int)))
  (ckB (decide (0 ≤ (IntKind.wrap .i64 ((8 : Int) * s7.2)))) (newW (.cells #[.int .u8 (IntKind.wrap .u8 (Int.fdiv x5 (2 ^ (min ((IntKind.wrap .i64 ((8 : Int) * s7.2))).toNat 32))))] 5) (fun a9 h10 =>
  apW Tryd.prog #[25, 25] #[.slice s7.1.1 s7.1.2.1 s7.1.2.2, .slice (some a9) 1 1] (fun b11 n12 c13 h14 =>
  K6 ((b11, n12, c13), (IntKind.wrap .i64 (s7.2 + (1 : Int)))) h14) h10) h8))
  (K1 ((s7.1.1, s7.1.2.1, s7.1.2.2), (IntKind.wrap .i64 (s2.2 + (1 : Int)))) h8)) ((s2.1.1, s2.1.2.1, s2.1.2.2), (0 : Int)) h3) h3)))
  (K (.slice s2.1.1 s2.1.2.1 s2.1.2.2) h3)) ((b_0, b_0l, b_0c), (0 : Int)) h0)
set_option maxRecDepth 100000 in
theorem F54_eq (b_0 : Option Addr) (b_0l b_0c : Nat) (l_1 : Option Addr) (l_1l l_1c : Nat) (K : Value → Heap → Prop) (h0 : Heap) : funWE Tryd.prog 54 (.seq (.leaf) (.seq (.seq (.leaf) (.block (.loop [(0, .sc .slice), (10, .sc (.int .i64))] (.seq (.leaf) (.seq (.cond (.leaf) (.leaf)) (.seq (.block (.seq (.leaf) (.seq (.leaf) (.block (.loop [(0, .sc .slice), (14, .sc (.int .i64))] (.seq (.leaf) (.seq (.cond (.leaf) (.leaf)) (.seq (.block (.seq (.leaf) (.leaf))) (.leaf))))))))) (.leaf))))))) (.seq (.leaf) (.leaf)))) [.slice b_0 b_0l b_0c, .slice l_1 l_1l l_1c] K h0 = F54 b_0 b_0l b_0c l_1 l_1l l_1c K h0 := by kernel_rfl

-- function 59
set_option maxRecDepth 100000 in
def F59 (b_0 : Option Addr) (_b_0l b_0c : Nat) (K : Value → Heap → Prop) (h0 : Heap) : Prop := (
  slW b_0 b_0c 1 (0 : Int) (4 : Int) (4 : Int) (fun b1 n2 _c3 =>
  loopT [.sc (.int .u32), .sc (.int .i64)] (fun (s5 : Int × Int) _ (K4 : (Int × Int) → Heap → Prop) h6 =>
  br (decide (s5.2 < (((n2 : Nat) : Int))))
  (ptrW b1 (fun a7 =>
  idxW s5.2 n2 true (ldW (.int .u8) (Addr.add a7 (Int.toNat s5.2 * 1)) (fun (x8 : Int) =>
  ckB (decide (0 ≤ (IntKind.wrap .i64 ((8 : Int) * s5.2)))) (K4 ((IntKind.wrap .u32 (((BitVec.ofInt 32 s5.1 ||| BitVec.ofInt 32 (IntKind.wrap .u32 ((IntKind.wrap .u32 x8) * 2 ^ (min ((IntKind.wrap .i64 ((8 : Int) * s5.2))).toNat 32)))).toNat : Int))), (IntKind.wrap .i64 (s5.2 + (1 : Int)))) h6)) h6)))
  (K (.int .u32 s5.1) h6)) ((0 : Int), (0 : Int)) h0))
set_option maxRecDepth 100000 in
theorem F59_eq (b_0 : Option Addr) (b_0l b_0c : Nat) (K : Value → Heap → Prop) (h0 : Heap) : funWE Tryd.prog 59 (.seq (.leaf) (.seq (.leaf) (.seq (.seq (.leaf) (.block (.loop [(3, .sc (.int .u32)), (9, .sc (.int .i64))] (.seq (.leaf) (.seq (.cond (.leaf) (.leaf)) (.seq (.block (.seq (.leaf) (.leaf))) (.leaf))))))) (.seq (.leaf) (.leaf))))) [.slice b_0 b_0l b_0c] K h0 = F59 b_0 b_0l b_0c K h0 := by kernel_rfl

-- function 15
set_option maxRecDepth 100000 in
def F15 (h_0_0 : Int) (h_0_1 : Int) (h_0_2 : Int) (h_0_3 : Int) (block_1 : Option Addr) (block_1l block_1c : Nat) (K : Value → Heap → Prop) (h0 : Heap) : Prop := (
  newW (.cells #[.int .u8 h_0_0, .int .u32 h_0_1, .int .u32 h_0_2, .int .u32 h_0_3] 24) (fun a1 h2 =>
  ldAggW [.int .u8, .int .u32, .int .u32, .int .u32] a1 (fun (x3 : Int × Int × Int × Int) =>
  callT Tryd.prog 21 [.agg #[.int .u8 x3.1, .int .u32 x3.2.1, .int .u32 x3.2.2.1, .int .u32 x3.2.2.2]] [.sc .bool] (fun (r4 : Bool) h5 =>
  br (!r4)
  (K (.tuple #[.slice none 0 0, .iface 31 (.int .i64 1)]) h5)
  (br ((((block_1l : Nat) : Int)) != (16 : Int))
  (K (.tuple #[.slice none 0 0, .iface 31 (.int .i64 3)]) h5)
  (ldW (.int .u8) (Addr.add a1 0) (fun (x6 : Int) =>
  newW (.cells #[.int .u8 x6] 5) (fun a7 h8 =>
  ldW (.int .u32) (Addr.add a1 1) (fun (x9 : Int) =>
  ldW (.int .u32) (Addr.add a1 2) (fun (x10 : Int) =>
  ldW (.int .u32) (Addr.add a1 3) (fun (x11 : Int) =>
  newW (.cells #[.int .u32 x9, .int .u32 x10, .int .u32 x11] 22) (fun a12 h13 =>
  callT Tryd.prog 54 [.slice (some a7) 1 1, .slice (some a12) 3 3] [.sc .slice] (fun (r14 : (Option Addr × Nat × Nat)) h15 =>
  callT Tryd.prog 56 [.slice r14.1 r14.2.1 r14.2.2] [.sc (.int .u32)] (fun (r16 : Int) h17 =>
  callT Tryd.prog 55 [.int .u32 r16, .slice block_1 block_1l block_1c] [.sc (.int .u32)] (fun (r18 : Int) h19 =>
  newW (.cells #[.int .u32 r18] 22) (fun a20 h21 =>
  callT Tryd.prog 54 [.slice r14.1 r14.2.1 r14.2.2, .slice (some a20) 1 1] [.sc .slice] (fun (r22 : (Option Addr × Nat × Nat)) h23 =>
  apW Tryd.prog #[25, 25] #[.slice r22.1 r22.2.1 r22.2.2, .slice block_1 block_1l block_1c] (fun b24 n25 c26 h27 =>
  K (.tuple #[.slice b24 n25 c26, .nilIface]) h27) h23) h21) h19) h17) h15) h13) h8) h8) h8) h8) h5) h5))) h2) h2) h0)
set_option maxRecDepth 100000 in
theorem F15_eq (h_0_0 : Int) (h_0_1 : Int) (h_0_2 : Int) (h_0_3 : Int) (block_1 : Option Addr) (block_1l block_1c : Nat) (K : Value → Heap → Prop) (h0 : Heap) : funWE Tryd.prog 15 (.seq (.leaf) (.seq (.block (.seq (.leaf) (.cond (.seq (.leaf) (.leaf)) (.seq (.leaf) (.cond (.seq (.leaf) (.leaf)) (.leaf)))))) (.seq (.leaf) (.seq (.leaf) (.leaf))))) [.agg #[.int .u8 h_0_0, .int .u32 h_0_1, .int .u32 h_0_2, .int .u32 h_0_3], .slice block_1 block_1l block_1c] K h0 = F15 h_0_0 h_0_1 h_0_2 h_0_3 block_1 block_1l block_1c K h0 := by kernel_rfl

-- function 17
set_option maxRecDepth 100000 in
def F17 (page_0 : Option Addr) (page_0l page_0c : Nat) (K : Value → Heap → Prop) (h0 : Heap) : Prop := (
  newW (.cells (zeroC Tryd.prog 24) 24) (fun a1 h2 =>
  br ((((page_0l : Nat) : Int)) != (33 : Int))
  (stLW a1 [.int .u8 0, .int .u32 0, .int .u32 0, .int .u32 0] (fun h3 =>
  ldAggW [.int .u8, .int .u32, .int .u32, .int .u32] a1 (fun (x4 : Int × Int × Int × Int) =>
  K (.tuple #[.agg #[.int .u8 x4.1, .int .u32 x4.2.1, .int .u32 x4.2.2.1, .int .u32 x4.2.2.2], .slice none 0 0, .iface 31 (.int .i64 3)]) h3) h3) h2)
  (slW page_0 page_0c 1 (17 : Int) (((page_0l : Nat) : Int)) (((page_0c : Nat) : Int)) (fun b5 n6 c7 =>
  ptrW page_0 (fun a8 =>
  idxW (0 : Int) page_0l true (ldW (.int .u8) (Addr.add a8 (Int.toNat (0 : Int) * 1)) (fun (x9 : Int) =>
  slW page_0 page_0c 1 (1 : Int) (((page_0l : Nat) : Int)) (((page_0c : Nat) : Int)) (fun b10 n11 c12 =>
  callQ Tryd.prog 59 [.slice b10 n11 c12] [.sc (.int .u32)] (fun (r13 : Int) =>
  slW page_0 page_0c 1 (5 : Int) (((page_0l : Nat) : Int)) (((page_0c : Nat) : Int)) (fun b14 n15 c16 =>
  callQ Tryd.prog 59 [.slice b14 n15 c16] [.sc (.int .u32)] (fun (r17 : Int) =>
  slW page_0 page_0c 1 (9 : Int) (((page_0l : Nat) : Int)) (((page_0c : Nat) : Int)) (fun b18 n19 c20 =>
  callQ Tryd.prog 59 [.slice b18 n19 c20] [.sc (.int .u32)] (fun (r21 : Int) =>
  newW (.cells (zeroC Tryd.prog 24) 24) (fun a22 h23 =>
  stLW a22 [.int .u8 x9, .int .u32 r13, .int .u32 r17, .int .u32 r21] (fun h24 =>
  slW page_0 page_0c 1 (0 : Int) (13 : Int) (13 : Int) (fun b25 n26 c27 =>
  slW page_0 page_0c 1 (13 : Int) (((page_0l : Nat) : Int)) (((page_0c : Nat) : Int)) (fun b28 n29 c30 =>
  callT Tryd.prog 56 [.slice b25 n26 c27] [.sc (.int .u32)] (fun (r31 : Int) h32 =>
  (callT Tryd.prog 55 [.int .u32 r31, .slice b5 n6 c7] [.sc (.int .u32)] (fun (r33 : Int) h34 =>
  (callQ Tryd.prog 59 [.slice b28 n29 c30] [.sc (.int .u32)] (fun (r35 : Int) =>
  br (r33 != r35)
  (stLW a1 [.int .u8 0, .int .u32 0, .int .u32 0, .int .u32 0] (fun h36 =>
  ldAggW [.int .u8, .int .u32, .int .u32, .int .u32] a1 (fun (x37 : Int × Int × Int × Int) =>
  K (.tuple #[.agg #[.int .u8 x37.1, .int .u32 x37.2.1, .int .u32 x37.2.2.1, .int .u32 x37.2.2.2], .slice none 0 0, .iface 31 (.int .i64 4)]) h36) h36) h34)
  (ldAggW [.int .u8, .int .u32, .int .u32, .int .u32] a22 (fun (x38 : Int × Int × Int × Int) =>
  callT Tryd.prog 21 [.agg #[.int .u8 x38.1, .int .u32 x38.2.1, .int .u32 x38.2.2.1, .int .u32 x38.2.2.2]] [.sc .bool] (fun (r39 : Bool) h40 =>
  br (!r39)
  (stLW a1 [.int .u8 0, .int .u32 0, .int .u32 0, .int .u32 0] (fun h41 =>
  ldAggW [.int .u8, .int .u32, .int .u32, .int .u32] a1 (fun (x42 : Int × Int × Int × Int) =>
  K (.tuple #[.agg #[.int .u8 x42.1, .int .u32 x42.2.1, .int .u32 x42.2.2.1, .int .u32 x42.2.2.2], .slice none 0 0, .iface 31 (.int .i64 2)]) h41) h41) h40)
  (ldAggW [.int .u8, .int .u32, .int .u32, .int .u32] a22 (fun (x43 : Int × Int × Int × Int) =>
  callT Tryd.prog 60 [.slice b5 n6 c7] [.sc .slice] (fun (r44 : (Option Addr × Nat × Nat)) h45 =>
  (stLW a1 [.int .u8 x43.1, .int .u32 x43.2.1, .int .u32 x43.2.2.1, .int .u32 x43.2.2.2] (fun h46 =>
  ldAggW [.int .u8, .int .u32, .int .u32, .int .u32] a1 (fun (x47 : Int × Int × Int × Int) =>
  K (.tuple #[.agg #[.int .u8 x47.1, .int .u32 x47.2.1, .int .u32 x47.2.2.1, .int .u32 x47.2.2.2], .slice r44.1 r44.2.1 r44.2.2, .nilIface]) h46) h46) h45 ∧ Ext h40 h45)) h40) h40)) h34) h34)) h34 ∧ Ext h32 h34)) h32 ∧ Ext h24 h32)) h24))) h23) h2) h2)) h2)) h2)) h2))))) h0)
set_option maxRecDepth 100000 in
theorem F17_eq (page_0 : Option Addr) (page_0l page_0c : Nat) (K : Value → Heap → Prop) (h0 : Heap) : funWE Tryd.prog 17 (.seq (.leaf) (.seq (.seq (.leaf) (.cond (.seq (.leaf) (.leaf)) (.leaf))) (.seq (.leaf) (.seq (.draw (odp [0, 1, 2, 3, 4, 5, 6, 7, 8, 9, 10, 11, 12, 13, 14] .nil) [5, 8, 11]) (.seq (.block (.seq (.draw (odp [0, 1, 3, 5, 6, 2, 4, 7, 8, 9] .nil) [100002, 100004, 7]) (.cond (.seq (.leaf) (.leaf)) (.seq (.leaf) (.cond (.seq (.leaf) (.leaf)) (.leaf)))))) (.seq (.draw (odp [0, 1, 2, 3, 4, 5] .nil) [100002]) (.leaf))))))) [.slice page_0 page_0l page_0c] K h0 = F17 page_0 page_0l page_0c K h0 := by kernel_rfl

-- function 60
set_option maxRecDepth 100000 in
def F60 (s_0 : Option Addr) (s_0l s_0c : Nat) (K : Value → Heap → Prop) (h0 : Heap) : Prop := (
  br (Option.isNone s_0)
  (K (.slice none 0 0) h0)
  (newW (.cells #[] 5) (fun a1 h2 =>
  apW Tryd.prog #[25, 25] #[.slice (some a1) 0 0, .slice s_0 s_0l s_0c] (fun b3 n4 c5 h6 =>
  K (.slice b3 n4 c5) h6) h2) h0))
set_option maxRecDepth 100000 in
theorem F60_eq (s_0 : Option Addr) (s_0l s_0c : Nat) (K : Value → Heap → Prop) (h0 : Heap) : funWE Tryd.prog 60 (.seq (.leaf) (.seq (.seq (.leaf) (.cond (.seq (.leaf) (.leaf)) (.leaf))) (.seq (.leaf) (.leaf)))) [.slice s_0 s_0l s_0c] K h0 = F60 s_0 s_0l s_0c K h0 := by kernel_rfl

end Go.Proofs.YtgohecjnjadnpaaDoor.W
