/-
  The formulas of package ckpt. Each formula checked by the kernel. Printed by a program of this repo.
-/
import Derived.Test.YthimfpkkdhpceaaDoorProg
import Derived.Test.YthimfpkkdhpceaaDoorPl
namespace Go.Proofs.YthimfpkkdhpceaaDoor.W
open Go.Pl

-- function 21
set_option maxRecDepth 100000 in
def F21 (c_0_0 : Int) (c_0_1 : Int) (c_0_2 : Int) (c_0_3 : Int) (c_0_4 : Int) (c_0_5 : Int) (c_0_6 : Option Addr) (c_0_6l c_0_6c : Nat) (K : Value → Heap → Prop) (h0 : Heap) : Prop := (
  newW (.cells #[.int .u32 c_0_0, .int .u32 c_0_1, .int .u32 c_0_2, .int .i64 c_0_3, .int .i64 c_0_4, .int .i64 c_0_5, .slice c_0_6 c_0_6l c_0_6c] 27) (fun a1 h2 =>
  ldAggW [.int .i64, .int .i64, .int .i64] (Addr.add a1 3) (fun (x3 : Int × Int × Int) =>
  callT Tryd.prog 54 [.agg #[.int .i64 x3.1, .int .i64 x3.2.1, .int .i64 x3.2.2]] [.sc .bool] (fun (r4 : Bool) h5 =>
  (br r4
  (ldW .slice (Addr.add a1 6) (fun (x6 : Option Addr × Nat × Nat) =>
  ldW (.int .i64) (Addr.add (Addr.add a1 3) 2) (fun (x7 : Int) =>
  callQ Tryd.prog 30 [.int .i64 x7] [.sc (.int .i64)] (fun (r8 : Int) =>
  K (.bool ((((x6.2.1 : Nat) : Int)) == r8)) h5) h5) h5) h5)
  (K (.bool false) h5) ∧ Ext h2 h5)) h2) h2) h0)
set_option maxRecDepth 100000 in
theorem F21_eq (c_0_0 : Int) (c_0_1 : Int) (c_0_2 : Int) (c_0_3 : Int) (c_0_4 : Int) (c_0_5 : Int) (c_0_6 : Option Addr) (c_0_6l c_0_6c : Nat) (K : Value → Heap → Prop) (h0 : Heap) : funWE Tryd.prog 21 (.seq (.leaf) (.seq (.draw (odp [0, 1, 2, 3, 4, 5, 6, 7, 8, 9, 10, 11, 12, 13] .nil) [100002, 10]) (.leaf))) [.agg #[.int .u32 c_0_0, .int .u32 c_0_1, .int .u32 c_0_2, .int .i64 c_0_3, .int .i64 c_0_4, .int .i64 c_0_5, .slice c_0_6 c_0_6l c_0_6c]] K h0 = F21 c_0_0 c_0_1 c_0_2 c_0_3 c_0_4 c_0_5 c_0_6 c_0_6l c_0_6c K h0 := by kernel_rfl

-- function 23
set_option maxRecDepth 100000 in
def F23 (a_0_0 : Int) (a_0_1 : Int) (a_0_2 : Int) (a_0_3 : Int) (a_0_4 : Int) (a_0_5 : Int) (a_0_6 : Option Addr) (a_0_6l a_0_6c : Nat) (b_1_0 : Int) (b_1_1 : Int) (b_1_2 : Int) (b_1_3 : Int) (b_1_4 : Int) (b_1_5 : Int) (b_1_6 : Option Addr) (b_1_6l b_1_6c : Nat) (K : Value → Heap → Prop) (h0 : Heap) : Prop := (
  newW (.cells #[.int .u32 a_0_0, .int .u32 a_0_1, .int .u32 a_0_2, .int .i64 a_0_3, .int .i64 a_0_4, .int .i64 a_0_5, .slice a_0_6 a_0_6l a_0_6c] 27) (fun a1 h2 =>
  newW (.cells #[.int .u32 b_1_0, .int .u32 b_1_1, .int .u32 b_1_2, .int .i64 b_1_3, .int .i64 b_1_4, .int .i64 b_1_5, .slice b_1_6 b_1_6l b_1_6c] 27) (fun a3 h4 =>
  ldW (.int .u32) (Addr.add a1 0) (fun (x5 : Int) =>
  ldW (.int .u32) (Addr.add a3 0) (fun (x6 : Int) =>
  br (x5 == x6)
  (ldW (.int .u32) (Addr.add a1 1) (fun (x7 : Int) =>
  ldW (.int .u32) (Addr.add a3 1) (fun (x8 : Int) =>
  br (x7 == x8)
  (ldW (.int .u32) (Addr.add a1 2) (fun (x9 : Int) =>
  ldW (.int .u32) (Addr.add a3 2) (fun (x10 : Int) =>
  br (x9 == x10)
  (ldAggW [.int .i64, .int .i64, .int .i64] (Addr.add a1 3) (fun (x11 : Int × Int × Int) =>
  ldAggW [.int .i64, .int .i64, .int .i64] (Addr.add a3 3) (fun (x12 : Int × Int × Int) =>
  eqGen Tryd.prog 24 (.agg #[.int .i64 x11.1, .int .i64 x11.2.1, .int .i64 x11.2.2]) (.agg #[.int .i64 x12.1, .int .i64 x12.2.1, .int .i64 x12.2.2]) (fun b13 =>
  br b13
  (ldW .slice (Addr.add a1 6) (fun (x14 : Option Addr × Nat × Nat) =>
  ldW .slice (Addr.add a3 6) (fun (x15 : Option Addr × Nat × Nat) =>
  callT Tryd.prog 62 [.slice x14.1 x14.2.1 x14.2.2, .slice x15.1 x15.2.1 x15.2.2] [.sc .bool] (fun (r16 : Bool) h17 =>
  K (.bool r16) h17) h4) h4) h4)
  (K (.bool false) h4))) h4) h4)
  (K (.bool false) h4)) h4) h4)
  (K (.bool false) h4)) h4) h4)
  (K (.bool false) h4)) h4) h4) h2) h0)
set_option maxRecDepth 100000 in
theorem F23_eq (a_0_0 : Int) (a_0_1 : Int) (a_0_2 : Int) (a_0_3 : Int) (a_0_4 : Int) (a_0_5 : Int) (a_0_6 : Option Addr) (a_0_6l a_0_6c : Nat) (b_1_0 : Int) (b_1_1 : Int) (b_1_2 : Int) (b_1_3 : Int) (b_1_4 : Int) (b_1_5 : Int) (b_1_6 : Option Addr) (b_1_6l b_1_6c : Nat) (K : Value → Heap → Prop) (h0 : Heap) : funWE Tryd.prog 23 (.seq (.leaf) (.seq (.leaf) (.leaf))) [.agg #[.int .u32 a_0_0, .int .u32 a_0_1, .int .u32 a_0_2, .int .i64 a_0_3, .int .i64 a_0_4, .int .i64 a_0_5, .slice a_0_6 a_0_6l a_0_6c], .agg #[.int .u32 b_1_0, .int .u32 b_1_1, .int .u32 b_1_2, .int .i64 b_1_3, .int .i64 b_1_4, .int .i64 b_1_5, .slice b_1_6 b_1_6l b_1_6c]] K h0 = F23 a_0_0 a_0_1 a_0_2 a_0_3 a_0_4 a_0_5 a_0_6 a_0_6l a_0_6c b_1_0 b_1_1 b_1_2 b_1_3 b_1_4 b_1_5 b_1_6 b_1_6l b_1_6c K h0 := by kernel_rfl

-- function 55
set_option maxRecDepth 100000 in
def F55 (blocks_0 : Int) (K : Value → Heap → Prop) (h0 : Heap) : Prop := (
  callT Tryd.prog 30 [.int .i64 blocks_0] [.sc (.int .i64)] (fun (r1 : Int) h2 =>
  K (.int .i64 (IntKind.wrap .i64 ((4 : Int) * (IntKind.wrap .i64 ((6 : Int) + r1))))) h2) h0)
set_option maxRecDepth 100000 in
theorem F55_eq (blocks_0 : Int) (K : Value → Heap → Prop) (h0 : Heap) : funWE Tryd.prog 55 (.seq (.leaf) (.seq (.leaf) (.leaf))) [.int .i64 blocks_0] K h0 = F55 blocks_0 K h0 := by kernel_rfl

-- function 16
set_option maxRecDepth 100000 in
def F16 (blocks_0 : Int) (K : Value → Heap → Prop) (h0 : Heap) : Prop := (
  callT Tryd.prog 55 [.int .i64 blocks_0] [.sc (.int .i64)] (fun (r1 : Int) h2 =>
  K (.int .i64 (IntKind.wrap .i64 (Int.tdiv (IntKind.wrap .i64 ((IntKind.wrap .i64 ((IntKind.wrap .i64 (r1 + (4 : Int))) + (16 : Int))) - (1 : Int))) (16 : Int)))) h2) h0)
set_option maxRecDepth 100000 in
theorem F16_eq (blocks_0 : Int) (K : Value → Heap → Prop) (h0 : Heap) : funWE Tryd.prog 16 (.seq (.leaf) (.seq (.leaf) (.leaf))) [.int .i64 blocks_0] K h0 = F16 blocks_0 K h0 := by kernel_rfl

-- function 43
set_option maxRecDepth 100000 in
def F43 (c_0_0 : Int) (c_0_1 : Int) (c_0_2 : Int) (c_0_3 : Int) (c_0_4 : Int) (c_0_5 : Int) (c_0_6 : Option Addr) (c_0_6l c_0_6c : Nat) (K : Value → Heap → Prop) (h0 : Heap) : Prop := (
  newW (.cells #[.int .u32 c_0_0, .int .u32 c_0_1, .int .u32 c_0_2, .int .i64 c_0_3, .int .i64 c_0_4, .int .i64 c_0_5, .slice c_0_6 c_0_6l c_0_6c] 27) (fun a1 h2 =>
  K (.func (.func 83) #[] #[.pointer (some a1)]) h2) h0)
set_option maxRecDepth 100000 in
theorem F43_eq (c_0_0 : Int) (c_0_1 : Int) (c_0_2 : Int) (c_0_3 : Int) (c_0_4 : Int) (c_0_5 : Int) (c_0_6 : Option Addr) (c_0_6l c_0_6c : Nat) (K : Value → Heap → Prop) (h0 : Heap) : funWE Tryd.prog 43 (.seq (.leaf) (.seq (.leaf) (.leaf))) [.agg #[.int .u32 c_0_0, .int .u32 c_0_1, .int .u32 c_0_2, .int .i64 c_0_3, .int .i64 c_0_4, .int .i64 c_0_5, .slice c_0_6 c_0_6l c_0_6c]] K h0 = F43 c_0_0 c_0_1 c_0_2 c_0_3 c_0_4 c_0_5 c_0_6 c_0_6l c_0_6c K h0 := by kernel_rfl

-- function 83
set_option maxRecDepth 100000 in
def F83 (yield_0 : Nat) (cap_0 : Addr) (K : Value → Heap → Prop) (h0 : Heap) : Prop := (
  ldW (.int .u32) (Addr.add cap_0 0) (fun (x1 : Int) =>
  ldW (.int .u32) (Addr.add cap_0 1) (fun (x2 : Int) =>
  ldW (.int .u32) (Addr.add cap_0 2) (fun (x3 : Int) =>
  ldW (.int .i64) (Addr.add (Addr.add cap_0 3) 0) (fun (x4 : Int) =>
  ldW (.int .i64) (Addr.add (Addr.add cap_0 3) 1) (fun (x5 : Int) =>
  ldW (.int .i64) (Addr.add (Addr.add cap_0 3) 2) (fun (x6 : Int) =>
  newW (.cells #[.int .u32 x1, .int .u32 x2, .int .u32 x3, .int .u32 (IntKind.wrap .u32 x4), .int .u32 (IntKind.wrap .u32 x5), .int .u32 (IntKind.wrap .u32 x6)] 22) (fun a7 h8 =>
  ldW .slice (Addr.add cap_0 6) (fun (x9 : Option Addr × Nat × Nat) =>
  newW (.cells #[.slice (some a7) 6 6, .slice x9.1 x9.2.1 x9.2.2] 25) (fun a10 h11 =>
  callT Tryd.prog 84 [.slice (some a10) 2 2] [.sc .slice] (fun (r12 : (Option Addr × Nat × Nat)) h13 =>
  loopT [.sc (.int .i64)] (fun (s15 : Int) _ (K14 : Int → Heap → Prop) h16 =>
  br (decide (s15 < (((r12.2.1 : Nat) : Int))))
  (ptrW r12.1 (fun a17 =>
  idxW s15 r12.2.1 true (ldW (.int .u32) (Addr.add a17 (Int.toNat s15 * 1)) (fun (x18 : Int) =>
  callW Tryd.prog (.sc .bool) (.func (.yield yield_0) #[] #[]) [.int .u32 x18] (fun (x19 : Bool) h20 =>
  br (!x19)
  (K (.tuple #[]) h20)
  (K14 (IntKind.wrap .i64 (s15 + (1 : Int))) h20)) h16) h16)))
  (K (.tuple #[]) h16)) (0 : Int) h13) h11) h8) h8) h0) h0) h0) h0) h0) h0) h0)
set_option maxRecDepth 100000 in
theorem F83_eq (yield_0 : Nat) (cap_0 : Addr) (K : Value → Heap → Prop) (h0 : Heap) : funWE Tryd.prog 83 (.seq (.leaf) (.seq (.leaf) (.block (.loop [(31, .sc (.int .i64))] (.seq (.leaf) (.seq (.cond (.leaf) (.leaf)) (.seq (.block (.seq (.leaf) (.seq (.leaf) (.cond (.leaf) (.leaf))))) (.leaf)))))))) [.func (.yield yield_0) #[] #[], .pointer (some cap_0)] K h0 = F83 yield_0 cap_0 K h0 := by kernel_rfl

-- function 44
set_option maxRecDepth 100000 in
def F44 (b_0 : Option Addr) (b_0l b_0c : Nat) (n_1 : Int) (K : Value → Heap → Prop) (h0 : Heap) : Prop := (
  loopT [.sc .slice, .sc (.int .i64)] (fun (s2 : (Option Addr × Nat × Nat) × Int) _ (K1 : ((Option Addr × Nat × Nat) × Int) → Heap → Prop) h3 =>
  br (decide (s2.2 < (4 : Int)))
  (ckB (decide (0 ≤ (IntKind.wrap .i64 ((8 : Int) * s2.2)))) (newW (.cells #[.int .u8 (IntKind.wrap .u8 (Int.fdiv n_1 (2 ^ (min ((IntKind.wrap .i64 ((8 : Int) * s2.2))).toNat 32))))] 5) (fun a4 h5 =>
  apW Tryd.prog #[55, 55] #[.slice s2.1.1 s2.1.2.1 s2.1.2.2, .slice (some a4) 1 1] (fun b6 n7 c8 h9 =>
  K1 ((b6, n7, c8), (IntKind.wrap .i64 (s2.2 + (1 : Int)))) h9) h5) h3))
  (K (.slice s2.1.1 s2.1.2.1 s2.1.2.2) h3)) ((b_0, b_0l, b_0c), (0 : Int)) h0)
set_option maxRecDepth 100000 in
theorem F44_eq (b_0 : Option Addr) (b_0l b_0c : Nat) (n_1 : Int) (K : Value → Heap → Prop) (h0 : Heap) : funWE Tryd.prog 44 (.seq (.leaf) (.seq (.seq (.leaf) (.block (.loop [(0, .sc .slice), (6, .sc (.int .i64))] (.seq (.leaf) (.seq (.cond (.leaf) (.leaf)) (.seq (.block (.seq (.leaf) (.leaf))) (.leaf))))))) (.seq (.leaf) (.leaf)))) [.slice b_0 b_0l b_0c, .int .u32 n_1] K h0 = F44 b_0 b_0l b_0c n_1 K h0 := by kernel_rfl

-- function 53
set_option maxRecDepth 100000 in
def F53 (b_0 : Option Addr) (_b_0l b_0c : Nat) (at_1 : Int) (K : Value → Heap → Prop) (h0 : Heap) : Prop := (
  slW b_0 b_0c 1 (IntKind.wrap .i64 ((4 : Int) * at_1)) (IntKind.wrap .i64 ((IntKind.wrap .i64 ((4 : Int) * at_1)) + (4 : Int))) (((b_0c : Nat) : Int)) (fun b1 n2 _c3 =>
  loopT [.sc (.int .u32), .sc (.int .i64)] (fun (s5 : Int × Int) _ (K4 : (Int × Int) → Heap → Prop) h6 =>
  br (decide (s5.2 < (((n2 : Nat) : Int))))
  (ptrW b1 (fun a7 =>
  idxW s5.2 n2 true (ldW (.int .u8) (Addr.add a7 (Int.toNat s5.2 * 1)) (fun (x8 : Int) =>
  ckB (decide (0 ≤ (IntKind.wrap .i64 ((8 : Int) * s5.2)))) (K4 ((IntKind.wrap .u32 (((BitVec.ofInt 32 s5.1 ||| BitVec.ofInt 32 (IntKind.wrap .u32 ((IntKind.wrap .u32 x8) * 2 ^ (min ((IntKind.wrap .i64 ((8 : Int) * s5.2))).toNat 32)))).toNat : Int))), (IntKind.wrap .i64 (s5.2 + (1 : Int)))) h6)) h6)))
  (K (.int .u32 s5.1) h6)) ((0 : Int), (0 : Int)) h0))
set_option maxRecDepth 100000 in
theorem F53_eq (b_0 : Option Addr) (b_0l b_0c : Nat) (at_1 : Int) (K : Value → Heap → Prop) (h0 : Heap) : funWE Tryd.prog 53 (.seq (.leaf) (.seq (.leaf) (.seq (.seq (.leaf) (.block (.loop [(5, .sc (.int .u32)), (16, .sc (.int .i64))] (.seq (.leaf) (.seq (.cond (.leaf) (.leaf)) (.seq (.block (.seq (.leaf) (.leaf))) (.leaf))))))) (.seq (.leaf) (.leaf))))) [.slice b_0 b_0l b_0c, .int .i64 at_1] K h0 = F53 b_0 b_0l b_0c at_1 K h0 := by kernel_rfl

-- function 51
set_option maxRecDepth 100000 in
def F51 (_b_0 : Option Addr) (b_0l _b_0c : Nat) (K : Value → Heap → Prop) (h0 : Heap) : Prop := (
  K (.bool ((((b_0l : Nat) : Int)) != (16 : Int))) h0)
set_option maxRecDepth 100000 in
theorem F51_eq (b_0 : Option Addr) (b_0l b_0c : Nat) (K : Value → Heap → Prop) (h0 : Heap) : funWE Tryd.prog 51 (.seq (.leaf) (.seq (.leaf) (.leaf))) [.slice b_0 b_0l b_0c] K h0 = F51 b_0 b_0l b_0c K h0 := by kernel_rfl

-- function 57
set_option maxRecDepth 100000 in
def F57 (x_0 : Int) (K : Value → Heap → Prop) (h0 : Heap) : Prop := (
  K (.bool (x_0 != (0 : Int))) h0)
set_option maxRecDepth 100000 in
theorem F57_eq (x_0 : Int) (K : Value → Heap → Prop) (h0 : Heap) : funWE Tryd.prog 57 (.seq (.leaf) (.seq (.leaf) (.leaf))) [.int .u8 x_0] K h0 = F57 x_0 K h0 := by kernel_rfl

-- function 62
set_option maxRecDepth 100000 in
def F62 (s1_0 : Option Addr) (s1_0l _s1_0c : Nat) (s2_1 : Option Addr) (s2_1l _s2_1c : Nat) (K : Value → Heap → Prop) (h0 : Heap) : Prop := (
  br ((((s1_0l : Nat) : Int)) != (((s2_1l : Nat) : Int)))
  (K (.bool false) h0)
  (loopT [.sc (.int .i64)] (fun (s2 : Int) _ (K1 : Int → Heap → Prop) h3 =>
  br (decide (s2 < (((s1_0l : Nat) : Int))))
  (ptrW s1_0 (fun a4 =>
  idxW s2 s1_0l true (ldW (.int .u32) (Addr.add a4 (Int.toNat s2 * 1)) (fun (x5 : Int) =>
  ptrW s2_1 (fun a6 =>
  idxW s2 s2_1l true (ldW (.int .u32) (Addr.add a6 (Int.toNat s2 * 1)) (fun (x7 : Int) =>
  br (x5 != x7)
  (K (.bool false) h3)
  (K1 (IntKind.wrap .i64 (s2 + (1 : Int))) h3)) h3))) h3)))
  (K (.bool true) h3)) (0 : Int) h0))
set_option maxRecDepth 100000 in
theorem F62_eq (s1_0 : Option Addr) (s1_0l s1_0c : Nat) (s2_1 : Option Addr) (s2_1l s2_1c : Nat) (K : Value → Heap → Prop) (h0 : Heap) : funWE Tryd.prog 62 (.seq (.leaf) (.seq (.seq (.leaf) (.cond (.seq (.leaf) (.leaf)) (.leaf))) (.seq (.seq (.leaf) (.block (.loop [(13, .sc (.int .i64))] (.seq (.leaf) (.seq (.cond (.leaf) (.leaf)) (.seq (.block (.seq (.leaf) (.seq (.draw (odp [0, 1, 2, 3, 4, 5, 6, 7, 8] .nil) []) (.cond (.seq (.leaf) (.leaf)) (.leaf))))) (.leaf))))))) (.seq (.leaf) (.leaf))))) [.slice s1_0 s1_0l s1_0c, .slice s2_1 s2_1l s2_1c] K h0 = F62 s1_0 s1_0l s1_0c s2_1 s2_1l s2_1c K h0 := by kernel_rfl

-- function 88
set_option maxRecDepth 100000 in
def F88 (s_0 : Option Addr) (s_0l _s_0c : Nat) (f_1 : Value) (K : Value → Heap → Prop) (h0 : Heap) : Prop := (
  loopT [.sc (.int .i64)] (fun (s2 : Int) _ (K1 : Int → Heap → Prop) h3 =>
  br (decide (s2 < (((s_0l : Nat) : Int))))
  (ptrW s_0 (fun a4 =>
  idxW s2 s_0l true (ldW .slice (Addr.add a4 (Int.toNat s2 * 1)) (fun (x5 : Option Addr × Nat × Nat) =>
  callW Tryd.prog (.sc .bool) f_1 [.slice x5.1 x5.2.1 x5.2.2] (fun (x6 : Bool) h7 =>
  br x6
  (K (.int .i64 s2) h7)
  (K1 (IntKind.wrap .i64 (s2 + (1 : Int))) h7)) h3) h3)))
  (K (.int .i64 (-1)) h3)) (0 : Int) h0)
set_option maxRecDepth 100000 in
theorem F88_eq (s_0 : Option Addr) (s_0l s_0c : Nat) (f_1 : Value) (K : Value → Heap → Prop) (h0 : Heap) : funWE Tryd.prog 88 (.seq (.leaf) (.seq (.seq (.leaf) (.block (.loop [(8, .sc (.int .i64))] (.seq (.leaf) (.seq (.cond (.leaf) (.leaf)) (.seq (.block (.seq (.leaf) (.seq (.leaf) (.cond (.seq (.leaf) (.leaf)) (.leaf))))) (.leaf))))))) (.seq (.leaf) (.leaf)))) [.slice s_0 s_0l s_0c, f_1] K h0 = F88 s_0 s_0l s_0c f_1 K h0 := by kernel_rfl

-- function 91
set_option maxRecDepth 100000 in
def F91 (s_0 : Option Addr) (s_0l _s_0c : Nat) (f_1 : Value) (K : Value → Heap → Prop) (h0 : Heap) : Prop := (
  loopT [.sc (.int .i64)] (fun (s2 : Int) _ (K1 : Int → Heap → Prop) h3 =>
  br (decide (s2 < (((s_0l : Nat) : Int))))
  (ptrW s_0 (fun a4 =>
  idxW s2 s_0l true (ldW (.int .u8) (Addr.add a4 (Int.toNat s2 * 1)) (fun (x5 : Int) =>
  callW Tryd.prog (.sc .bool) f_1 [.int .u8 x5] (fun (x6 : Bool) h7 =>
  br x6
  (K (.int .i64 s2) h7)
  (K1 (IntKind.wrap .i64 (s2 + (1 : Int))) h7)) h3) h3)))
  (K (.int .i64 (-1)) h3)) (0 : Int) h0)
set_option maxRecDepth 100000 in
theorem F91_eq (s_0 : Option Addr) (s_0l s_0c : Nat) (f_1 : Value) (K : Value → Heap → Prop) (h0 : Heap) : funWE Tryd.prog 91 (.seq (.leaf) (.seq (.seq (.leaf) (.block (.loop [(8, .sc (.int .i64))] (.seq (.leaf) (.seq (.cond (.leaf) (.leaf)) (.seq (.block (.seq (.leaf) (.seq (.leaf) (.cond (.seq (.leaf) (.leaf)) (.leaf))))) (.leaf))))))) (.seq (.leaf) (.leaf)))) [.slice s_0 s_0l s_0c, f_1] K h0 = F91 s_0 s_0l s_0c f_1 K h0 := by kernel_rfl

-- function 50
set_option maxRecDepth 100000 in
def F50 (s_0 : Option Addr) (s_0l s_0c : Nat) (f_1 : Value) (K : Value → Heap → Prop) (h0 : Heap) : Prop := (
  callT Tryd.prog 88 [.slice s_0 s_0l s_0c, f_1] [.sc (.int .i64)] (fun (r1 : Int) h2 =>
  K (.bool (decide (r1 ≥ (0 : Int)))) h2) h0)
set_option maxRecDepth 100000 in
theorem F50_eq (s_0 : Option Addr) (s_0l s_0c : Nat) (f_1 : Value) (K : Value → Heap → Prop) (h0 : Heap) : funWE Tryd.prog 50 (.seq (.leaf) (.seq (.leaf) (.leaf))) [.slice s_0 s_0l s_0c, f_1] K h0 = F50 s_0 s_0l s_0c f_1 K h0 := by kernel_rfl

-- function 56
set_option maxRecDepth 100000 in
def F56 (s_0 : Option Addr) (s_0l s_0c : Nat) (f_1 : Value) (K : Value → Heap → Prop) (h0 : Heap) : Prop := (
  callT Tryd.prog 91 [.slice s_0 s_0l s_0c, f_1] [.sc (.int .i64)] (fun (r1 : Int) h2 =>
  K (.bool (decide (r1 ≥ (0 : Int)))) h2) h0)
set_option maxRecDepth 100000 in
theorem F56_eq (s_0 : Option Addr) (s_0l s_0c : Nat) (f_1 : Value) (K : Value → Heap → Prop) (h0 : Heap) : funWE Tryd.prog 56 (.seq (.leaf) (.seq (.leaf) (.leaf))) [.slice s_0 s_0l s_0c, f_1] K h0 = F56 s_0 s_0l s_0c f_1 K h0 := by kernel_rfl

-- function 89
set_option maxRecDepth 100000 in
def F89 (s_0 : Option Addr) (s_0l s_0c : Nat) (n_1 : Int) (K : Value → Heap → Prop) (h0 : Heap) : Prop := (
  cutT [] (fun (K1 : Unit → Heap → Prop) h2 =>
  br (decide (n_1 < (0 : Int)))
  (False)
  (K1 () h2)) (fun (_s3 : Unit) _ h4 =>
  br (decide ((IntKind.wrap .i64 (n_1 - (IntKind.wrap .i64 ((((s_0c : Nat) : Int)) - (((s_0l : Nat) : Int)))))) > (0 : Int)))
  (slW s_0 s_0c 1 (0 : Int) (((s_0c : Nat) : Int)) (((s_0c : Nat) : Int)) (fun b5 n6 c7 =>
  apW Tryd.prog #[55, 3] #[.slice b5 n6 c7, .int .i64 (IntKind.wrap .i64 (n_1 - (IntKind.wrap .i64 ((((s_0c : Nat) : Int)) - (((s_0l : Nat) : Int))))))] (fun b8 _n9 c10 h11 =>
  slW b8 c10 1 (0 : Int) (((s_0l : Nat) : Int)) (((c10 : Nat) : Int)) (fun b12 n13 c14 =>
  K (.slice b12 n13 c14) h11)) h4))
  (K (.slice s_0 s_0l s_0c) h4)) h0)
set_option maxRecDepth 100000 in
theorem F89_eq (s_0 : Option Addr) (s_0l s_0c : Nat) (n_1 : Int) (K : Value → Heap → Prop) (h0 : Heap) : funWE Tryd.prog 89 (.seq (.leaf) (.cut [] (.seq (.leaf) (.cond (.leaf) (.leaf))) (.seq (.seq (.leaf) (.seq (.leaf) (.cond (.leaf) (.leaf)))) (.seq (.leaf) (.leaf))))) [.slice s_0 s_0l s_0c, .int .i64 n_1] K h0 = F89 s_0 s_0l s_0c n_1 K h0 := by kernel_rfl

-- function 114
set_option maxRecDepth 100000 in
def F114 (s_0 : Option Addr) (s_0l s_0c : Nat) (n_1 : Int) (K : Value → Heap → Prop) (h0 : Heap) : Prop := (
  cutT [] (fun (K1 : Unit → Heap → Prop) h2 =>
  br (decide (n_1 < (0 : Int)))
  (False)
  (K1 () h2)) (fun (_s3 : Unit) _ h4 =>
  br (decide ((IntKind.wrap .i64 (n_1 - (IntKind.wrap .i64 ((((s_0c : Nat) : Int)) - (((s_0l : Nat) : Int)))))) > (0 : Int)))
  (slW s_0 s_0c 1 (0 : Int) (((s_0c : Nat) : Int)) (((s_0c : Nat) : Int)) (fun b5 n6 c7 =>
  apW Tryd.prog #[25, 3] #[.slice b5 n6 c7, .int .i64 (IntKind.wrap .i64 (n_1 - (IntKind.wrap .i64 ((((s_0c : Nat) : Int)) - (((s_0l : Nat) : Int))))))] (fun b8 _n9 c10 h11 =>
  slW b8 c10 1 (0 : Int) (((s_0l : Nat) : Int)) (((c10 : Nat) : Int)) (fun b12 n13 c14 =>
  K (.slice b12 n13 c14) h11)) h4))
  (K (.slice s_0 s_0l s_0c) h4)) h0)
set_option maxRecDepth 100000 in
theorem F114_eq (s_0 : Option Addr) (s_0l s_0c : Nat) (n_1 : Int) (K : Value → Heap → Prop) (h0 : Heap) : funWE Tryd.prog 114 (.seq (.leaf) (.cut [] (.seq (.leaf) (.cond (.leaf) (.leaf))) (.seq (.seq (.leaf) (.seq (.leaf) (.cond (.leaf) (.leaf)))) (.seq (.leaf) (.leaf))))) [.slice s_0 s_0l s_0c, .int .i64 n_1] K h0 = F114 s_0 s_0l s_0c n_1 K h0 := by kernel_rfl

-- function 52
set_option maxRecDepth 100000 in
def F52 (slices_0 : Option Addr) (slices_0l _slices_0c : Nat) (K : Value → Heap → Prop) (h0 : Heap) : Prop := (
  loopT [.sc (.int .i64), .sc (.int .i64)] (fun (s2 : Int × Int) _ (K1 : (Int × Int) → Heap → Prop) h3 =>
  br (decide (s2.2 < (((slices_0l : Nat) : Int))))
  (ptrW slices_0 (fun a4 =>
  idxW s2.2 slices_0l true (ldW .slice (Addr.add a4 (Int.toNat s2.2 * 1)) (fun (x5 : Option Addr × Nat × Nat) =>
  br (decide ((IntKind.wrap .i64 (s2.1 + (((x5.2.1 : Nat) : Int)))) < (0 : Int)))
  (False)
  (K1 ((IntKind.wrap .i64 (s2.1 + (((x5.2.1 : Nat) : Int)))), (IntKind.wrap .i64 (s2.2 + (1 : Int)))) h3)) h3)))
  (callT Tryd.prog 89 [.slice none 0 0, .int .i64 s2.1] [.sc .slice] (fun (r6 : (Option Addr × Nat × Nat)) h7 =>
  loopT [.sc .slice, .sc (.int .i64)] (fun (s9 : (Option Addr × Nat × Nat) × Int) _ (K8 : ((Option Addr × Nat × Nat) × Int) → Heap → Prop) h10 =>
  br (decide (s9.2 < (((slices_0l : Nat) : Int))))
  (ptrW slices_0 (fun a11 =>
  idxW s9.2 slices_0l true (ldW .slice (Addr.add a11 (Int.toNat s9.2 * 1)) (fun (x12 : Option Addr × Nat × Nat) =>
  apW Tryd.prog #[55, 55] #[.slice s9.1.1 s9.1.2.1 s9.1.2.2, .slice x12.1 x12.2.1 x12.2.2] (fun b13 n14 c15 h16 =>
  K8 ((b13, n14, c15), (IntKind.wrap .i64 (s9.2 + (1 : Int)))) h16) h10) h10)))
  (K (.slice s9.1.1 s9.1.2.1 s9.1.2.2) h10)) ((r6.1, r6.2.1, r6.2.2), (0 : Int)) h7) h3)) ((0 : Int), (0 : Int)) h0)
set_option maxRecDepth 100000 in
theorem F52_eq (slices_0 : Option Addr) (slices_0l slices_0c : Nat) (K : Value → Heap → Prop) (h0 : Heap) : funWE Tryd.prog 52 (.seq (.leaf) (.seq (.leaf) (.seq (.seq (.leaf) (.block (.loop [(3, .sc (.int .i64)), (11, .sc (.int .i64))] (.seq (.leaf) (.seq (.cond (.leaf) (.leaf)) (.seq (.block (.seq (.leaf) (.seq (.leaf) (.seq (.leaf) (.cond (.leaf) (.leaf)))))) (.leaf))))))) (.seq (.leaf) (.seq (.seq (.leaf) (.block (.loop [(6, .sc .slice), (27, .sc (.int .i64))] (.seq (.leaf) (.seq (.cond (.leaf) (.leaf)) (.seq (.block (.seq (.leaf) (.leaf))) (.leaf))))))) (.seq (.leaf) (.leaf))))))) [.slice slices_0 slices_0l slices_0c] K h0 = F52 slices_0 slices_0l slices_0c K h0 := by kernel_rfl

-- function 84
set_option maxRecDepth 100000 in
def F84 (slices_0 : Option Addr) (slices_0l _slices_0c : Nat) (K : Value → Heap → Prop) (h0 : Heap) : Prop := (
  loopT [.sc (.int .i64), .sc (.int .i64)] (fun (s2 : Int × Int) _ (K1 : (Int × Int) → Heap → Prop) h3 =>
  br (decide (s2.2 < (((slices_0l : Nat) : Int))))
  (ptrW slices_0 (fun a4 =>
  idxW s2.2 slices_0l true (ldW .slice (Addr.add a4 (Int.toNat s2.2 * 1)) (fun (x5 : Option Addr × Nat × Nat) =>
  br (decide ((IntKind.wrap .i64 (s2.1 + (((x5.2.1 : Nat) : Int)))) < (0 : Int)))
  (False)
  (K1 ((IntKind.wrap .i64 (s2.1 + (((x5.2.1 : Nat) : Int)))), (IntKind.wrap .i64 (s2.2 + (1 : Int)))) h3)) h3)))
  (callT Tryd.prog 114 [.slice none 0 0, .int .i64 s2.1] [.sc .slice] (fun (r6 : (Option Addr × Nat × Nat)) h7 =>
  loopT [.sc .slice, .sc (.int .i64)] (fun (s9 : (Option Addr × Nat × Nat) × Int) _ (K8 : ((Option Addr × Nat × Nat) × Int) → Heap → Prop) h10 =>
  br (decide (s9.2 < (((slices_0l : Nat) : Int))))
  (ptrW slices_0 (fun a11 =>
  idxW s9.2 slices_0l true (ldW .slice (Addr.add a11 (Int.toNat s9.2 * 1)) (fun (x12 : Option Addr × Nat × Nat) =>
  apW Tryd.prog #[25, 25] #[.slice s9.1.1 s9.1.2.1 s9.1.2.2, .slice x12.1 x12.2.1 x12.2.2] (fun b13 n14 c15 h16 =>
  K8 ((b13, n14, c15), (IntKind.wrap .i64 (s9.2 + (1 : Int)))) h16) h10) h10)))
  (K (.slice s9.1.1 s9.1.2.1 s9.1.2.2) h10)) ((r6.1, r6.2.1, r6.2.2), (0 : Int)) h7) h3)) ((0 : Int), (0 : Int)) h0)
set_option maxRecDepth 100000 in
theorem F84_eq (slices_0 : Option Addr) (slices_0l slices_0c : Nat) (K : Value → Heap → Prop) (h0 : Heap) : funWE Tryd.prog 84 (.seq (.leaf) (.seq (.leaf) (.seq (.seq (.leaf) (.block (.loop [(3, .sc (.int .i64)), (11, .sc (.int .i64))] (.seq (.leaf) (.seq (.cond (.leaf) (.leaf)) (.seq (.block (.seq (.leaf) (.seq (.leaf) (.seq (.leaf) (.cond (.leaf) (.leaf)))))) (.leaf))))))) (.seq (.leaf) (.seq (.seq (.leaf) (.block (.loop [(6, .sc .slice), (27, .sc (.int .i64))] (.seq (.leaf) (.seq (.cond (.leaf) (.leaf)) (.seq (.block (.seq (.leaf) (.leaf))) (.leaf))))))) (.seq (.leaf) (.leaf))))))) [.slice slices_0 slices_0l slices_0c] K h0 = F84 slices_0 slices_0l slices_0c K h0 := by kernel_rfl

-- function 47
set_option maxRecDepth 100000 in
def F47 (s_0 : Option Addr) (s_0l s_0c : Nat) (n_1 : Int) (K : Value → Heap → Prop) (h0 : Heap) : Prop := (
  newW (.cells #[.slice s_0 s_0l s_0c] 55) (fun a1 h2 =>
  newW (.cells #[.int .i64 n_1] 3) (fun a3 h4 =>
  ldW (.int .i64) a3 (fun (x5 : Int) =>
  br (decide (x5 < (1 : Int)))
  (False)
  (K (.func (.func 87) #[] #[.pointer (some a1), .pointer (some a3)]) h4)) h4) h2) h0)
set_option maxRecDepth 100000 in
theorem F47_eq (s_0 : Option Addr) (s_0l s_0c : Nat) (n_1 : Int) (K : Value → Heap → Prop) (h0 : Heap) : funWE Tryd.prog 47 (.seq (.leaf) (.seq (.seq (.leaf) (.cond (.leaf) (.leaf))) (.seq (.leaf) (.leaf)))) [.slice s_0 s_0l s_0c, .int .i64 n_1] K h0 = F47 s_0 s_0l s_0c n_1 K h0 := by kernel_rfl

-- function 87
set_option maxRecDepth 100000 in
def F87 (yield_0 : Nat) (cap_0 : Addr) (cap_1 : Addr) (K : Value → Heap → Prop) (h0 : Heap) : Prop := (
  loopT [.sc (.int .i64)] (fun (s2 : Int) _ (K1 : Int → Heap → Prop) h3 =>
  ldW .slice cap_0 (fun (x4 : Option Addr × Nat × Nat) =>
  br (decide (s2 < (((x4.2.1 : Nat) : Int))))
  (ldW (.int .i64) cap_1 (fun (x5 : Int) =>
  ldW .slice cap_0 (fun (x6 : Option Addr × Nat × Nat) =>
  slW x6.1 x6.2.2 1 s2 (((x6.2.1 : Nat) : Int)) (((x6.2.2 : Nat) : Int)) (fun _b7 n8 _c9 =>
  ldW .slice cap_0 (fun (x10 : Option Addr × Nat × Nat) =>
  slW x10.1 x10.2.2 1 s2 (IntKind.wrap .i64 (s2 + (mm2 false x5 (((n8 : Nat) : Int))))) (IntKind.wrap .i64 (s2 + (mm2 false x5 (((n8 : Nat) : Int))))) (fun b11 n12 c13 =>
  callW Tryd.prog (.sc .bool) (.func (.yield yield_0) #[] #[]) [.slice b11 n12 c13] (fun (x14 : Bool) h15 =>
  br (!x14)
  (K (.tuple #[]) h15)
  (ldW (.int .i64) cap_1 (fun (x16 : Int) =>
  K1 (IntKind.wrap .i64 (s2 + x16)) h15) h15)) h3)) h3)) h3) h3)
  (K (.tuple #[]) h3)) h3) (0 : Int) h0)
set_option maxRecDepth 100000 in
theorem F87_eq (yield_0 : Nat) (cap_0 : Addr) (cap_1 : Addr) (K : Value → Heap → Prop) (h0 : Heap) : funWE Tryd.prog 87 (.seq (.leaf) (.block (.loop [(4, .sc (.int .i64))] (.seq (.seq (.leaf) (.cond (.leaf) (.leaf))) (.seq (.block (.seq (.draw (odp [0, 1, 2, 3, 4, 5, 6] .nil) []) (.seq (.leaf) (.cond (.leaf) (.leaf))))) (.leaf)))))) [.func (.yield yield_0) #[] #[], .pointer (some cap_0), .pointer (some cap_1)] K h0 = F87 yield_0 cap_0 cap_1 K h0 := by kernel_rfl

-- function 86
set_option maxRecDepth 100000 in
def F86 (s_0 : Option Addr) (s_0l s_0c : Nat) (seq_1 : Value) (K : Value → Heap → Prop) (h0 : Heap) : Prop := (
  newW (.cells #[.slice s_0 s_0l s_0c] 28) (fun a1 h2 =>
  rfW seq_1 (fun n26 x27 x28 =>
  rangeW Tryd.prog n26 x27 x28 [.sc .slice] (fun l3 o4 (s5 : (Option Addr × Nat × Nat)) Y6 h7 =>
  roundIn l3 o4 (fun h9 =>
  ldW .slice a1 (fun (x11 : Option Addr × Nat × Nat) =>
  newW (.cells #[.slice s5.1 s5.2.1 s5.2.2] 55) (fun a12 h13 =>
  apW Tryd.prog #[28, 28] #[.slice x11.1 x11.2.1 x11.2.2, .slice (some a12) 1 1] (fun b14 n15 c16 h17 =>
  stW a1 (.slice b14 n15 c16) (fun h18 =>
  roundEnd l3 o4.rdy (Y6 true) h18) h17) h13) h9) h9) h7) (fun l24 o25 h19 =>
  (roundDone l24 o25.rdy (fun h20 =>
  ldW .slice a1 (fun (x21 : Option Addr × Nat × Nat) =>
  (∀ h22, Taken h0.size h20 h22 →
  K (.slice x21.1 x21.2.1 x21.2.2) h22)) h20) h19) ∨
  (roundDone l24 (o25.dn .ret) (fun h20 =>
  (∀ h23, Taken h0.size h20 h23 →
  K (.slice none 0 0) h23)) h19) ∨ False) h2)) h0)
set_option maxRecDepth 100000 in
theorem F86_eq (s_0 : Option Addr) (s_0l s_0c : Nat) (seq_1 : Value) (K : Value → Heap → Prop) (h0 : Heap) : funWE Tryd.prog 86 (.seq (.leaf) (.seq (.seq (.leaf) (.block (.range [.sc .slice] [] (.leaf) (.block (.leaf))))) (.seq (.leaf) (.leaf)))) [.slice s_0 s_0l s_0c, seq_1] K h0 = F86 s_0 s_0l s_0c seq_1 K h0 := by kernel_rfl

-- function 46
set_option maxRecDepth 100000 in
def F46 (seq_0 : Value) (K : Value → Heap → Prop) (h0 : Heap) : Prop := (
  callT Tryd.prog 86 [.slice none 0 0, seq_0] [.sc .slice] (fun (r1 : (Option Addr × Nat × Nat)) h2 =>
  K (.slice r1.1 r1.2.1 r1.2.2) h2) h0)
set_option maxRecDepth 100000 in
theorem F46_eq (seq_0 : Value) (K : Value → Heap → Prop) (h0 : Heap) : funWE Tryd.prog 46 (.seq (.leaf) (.seq (.leaf) (.leaf))) [seq_0] K h0 = F46 seq_0 K h0 := by kernel_rfl

-- function 11
set_option maxRecDepth 100000 in
def F11 (c_0_0 : Int) (c_0_1 : Int) (c_0_2 : Int) (c_0_3 : Int) (c_0_4 : Int) (c_0_5 : Int) (c_0_6 : Option Addr) (c_0_6l c_0_6c : Nat) (K : Value → Heap → Prop) (h0 : Heap) : Prop := (
  newW (.cells #[.int .u32 c_0_0, .int .u32 c_0_1, .int .u32 c_0_2, .int .i64 c_0_3, .int .i64 c_0_4, .int .i64 c_0_5, .slice c_0_6 c_0_6l c_0_6c] 27) (fun a1 h2 =>
  ldAggW [.int .u32, .int .u32, .int .u32, .int .i64, .int .i64, .int .i64, .slice] a1 (fun (x3 : Int × Int × Int × Int × Int × Int × (Option Addr × Nat × Nat)) =>
  callT Tryd.prog 21 [.agg #[.int .u32 x3.1, .int .u32 x3.2.1, .int .u32 x3.2.2.1, .int .i64 x3.2.2.2.1, .int .i64 x3.2.2.2.2.1, .int .i64 x3.2.2.2.2.2.1, .slice x3.2.2.2.2.2.2.1 x3.2.2.2.2.2.2.2.1 x3.2.2.2.2.2.2.2.2]] [.sc .bool] (fun (r4 : Bool) h5 =>
  br (!r4)
  ((∀ h6, Taken h0.size h5 h6 →
  K (.tuple #[.slice none 0 0, .iface 35 (.int .i64 1)]) h6))
  (newW (.cells (zeroC Tryd.prog 55) 55) (fun a7 h8 =>
  ldAggW [.int .u32, .int .u32, .int .u32, .int .i64, .int .i64, .int .i64, .slice] a1 (fun (x9 : Int × Int × Int × Int × Int × Int × (Option Addr × Nat × Nat)) =>
  callT Tryd.prog 43 [.agg #[.int .u32 x9.1, .int .u32 x9.2.1, .int .u32 x9.2.2.1, .int .i64 x9.2.2.2.1, .int .i64 x9.2.2.2.2.1, .int .i64 x9.2.2.2.2.2.1, .slice x9.2.2.2.2.2.2.1 x9.2.2.2.2.2.2.2.1 x9.2.2.2.2.2.2.2.2]] [.sc .any] (fun (r10 : Value) h11 =>
  rfW r10 (fun n52 x53 x54 =>
  rangeW Tryd.prog n52 x53 x54 [.sc (.int .u32)] (fun l12 o13 (s14 : Int) Y15 h16 =>
  roundIn l12 o13 (fun h18 =>
  ldW .slice a7 (fun (x20 : Option Addr × Nat × Nat) =>
  callT Tryd.prog 44 [.slice x20.1 x20.2.1 x20.2.2, .int .u32 s14] [.sc .slice] (fun (r21 : (Option Addr × Nat × Nat)) h22 =>
  stW a7 (.slice r21.1 r21.2.1 r21.2.2) (fun h23 =>
  roundEnd l12 o13.rdy (Y15 true) h23) h22) h18) h18) h16) (fun l50 o51 h24 =>
  (roundDone l50 o51.rdy (fun h25 =>
  ldW .slice a7 (fun (x26 : Option Addr × Nat × Nat) =>
  ldW .slice a7 (fun (x27 : Option Addr × Nat × Nat) =>
  callT Tryd.prog 45 [.slice x27.1 x27.2.1 x27.2.2] [.sc (.int .u32)] (fun (r28 : Int) h29 =>
  (cellH h29 a7 = some (.slice x26.1 x26.2.1 x26.2.2) ∧ callT Tryd.prog 44 [.slice x26.1 x26.2.1 x26.2.2, .int .u32 r28] [.sc .slice] (fun (r30 : (Option Addr × Nat × Nat)) h31 =>
  stW a7 (.slice r30.1 r30.2.1 r30.2.2) (fun h32 =>
  ldW .slice a7 (fun (x33 : Option Addr × Nat × Nat) =>
  ldW (.int .i64) (Addr.add (Addr.add a1 3) 2) (fun (x34 : Int) =>
  ldW .slice a7 (fun (x35 : Option Addr × Nat × Nat) =>
  callT Tryd.prog 16 [.int .i64 x34] [.sc (.int .i64)] (fun (r36 : Int) h37 =>
  (cellH h37 a7 = some (.slice x35.1 x35.2.1 x35.2.2) ∧ (cellH h37 a7 = some (.slice x33.1 x33.2.1 x33.2.2) ∧ apW Tryd.prog #[55, 3] #[.slice x33.1 x33.2.1 x33.2.2, .int .i64 (IntKind.wrap .i64 ((IntKind.wrap .i64 (r36 * (16 : Int))) - (((x35.2.1 : Nat) : Int))))] (fun b38 n39 c40 h41 =>
  (cellH h41 a7 = some (.slice x35.1 x35.2.1 x35.2.2) ∧ stW a7 (.slice b38 n39 c40) (fun h42 =>
  ldW .slice a7 (fun (x43 : Option Addr × Nat × Nat) =>
  callT Tryd.prog 47 [.slice x43.1 x43.2.1 x43.2.2, .int .i64 16] [.sc .any] (fun (r44 : Value) h45 =>
  callT Tryd.prog 46 [r44] [.sc .slice] (fun (r46 : (Option Addr × Nat × Nat)) h47 =>
  (∀ h48, Taken h0.size h47 h48 →
  K (.tuple #[.slice r46.1 r46.2.1 r46.2.2, .nilIface]) h48)) h45) h42) h42) h41)) h37))) h32) h32) h32) h32) h31) h29)) h25) h25) h25) h24) ∨
  (roundDone l50 (o51.dn .ret) (fun h25 =>
  (∀ h49, Taken h0.size h25 h49 →
  K (.tuple #[.slice none 0 0, .nilIface]) h49)) h24) ∨ False) h11)) h8) h8) h5)) h2) h2) h0)
set_option maxRecDepth 100000 in
theorem F11_eq (c_0_0 : Int) (c_0_1 : Int) (c_0_2 : Int) (c_0_3 : Int) (c_0_4 : Int) (c_0_5 : Int) (c_0_6 : Option Addr) (c_0_6l c_0_6c : Nat) (K : Value → Heap → Prop) (h0 : Heap) : funWE Tryd.prog 11 (.seq (.leaf) (.seq (.seq (.leaf) (.cond (.seq (.leaf) (.leaf)) (.leaf))) (.seq (.leaf) (.seq (.seq (.leaf) (.block (.range [.sc (.int .u32)] [] (.leaf) (.block (.leaf))))) (.seq (.draw (odp [0, 1, 2, 3, 4] .nil) [200000]) (.seq (.draw (odp [0, 1, 2, 3, 6, 7, 4, 5, 8, 9, 10] .nil) [200000, 200006]) (.seq (.leaf) (.leaf)))))))) [.agg #[.int .u32 c_0_0, .int .u32 c_0_1, .int .u32 c_0_2, .int .i64 c_0_3, .int .i64 c_0_4, .int .i64 c_0_5, .slice c_0_6 c_0_6l c_0_6c]] K h0 = F11 c_0_0 c_0_1 c_0_2 c_0_3 c_0_4 c_0_5 c_0_6 c_0_6l c_0_6c K h0 := by kernel_rfl

-- function 14
set_option maxRecDepth 100000 in
def F14 (l_0 : Option Addr) (l_0l l_0c : Nat) (K : Value → Heap → Prop) (h0 : Heap) : Prop := (
  newW (.cells (zeroC Tryd.prog 27) 27) (fun a1 h2 =>
  cutT [] (fun (K3 : Unit → Heap → Prop) h10 =>
  br (decide ((((l_0l : Nat) : Int)) < (2 : Int)))
  (stLW a1 [.int .u32 0, .int .u32 0, .int .u32 0, .int .i64 0, .int .i64 0, .int .i64 0, .slice none 0 0] (fun h4 =>
  ldAggW [.int .u32, .int .u32, .int .u32, .int .i64, .int .i64, .int .i64, .slice] a1 (fun (x5 : Int × Int × Int × Int × Int × Int × (Option Addr × Nat × Nat)) =>
  K (.tuple #[.agg #[.int .u32 x5.1, .int .u32 x5.2.1, .int .u32 x5.2.2.1, .int .i64 x5.2.2.2.1, .int .i64 x5.2.2.2.2.1, .int .i64 x5.2.2.2.2.2.1, .slice x5.2.2.2.2.2.2.1 x5.2.2.2.2.2.2.2.1 x5.2.2.2.2.2.2.2.2], .iface 35 (.int .i64 3)]) h4) h4) h10)
  (callT Tryd.prog 50 [.slice l_0 l_0l l_0c, .func (.func 51) #[] #[]] [.sc .bool] (fun (r6 : Bool) h7 =>
  br r6
  (stLW a1 [.int .u32 0, .int .u32 0, .int .u32 0, .int .i64 0, .int .i64 0, .int .i64 0, .slice none 0 0] (fun h8 =>
  ldAggW [.int .u32, .int .u32, .int .u32, .int .i64, .int .i64, .int .i64, .slice] a1 (fun (x9 : Int × Int × Int × Int × Int × Int × (Option Addr × Nat × Nat)) =>
  K (.tuple #[.agg #[.int .u32 x9.1, .int .u32 x9.2.1, .int .u32 x9.2.2.1, .int .i64 x9.2.2.2.1, .int .i64 x9.2.2.2.2.1, .int .i64 x9.2.2.2.2.2.1, .slice x9.2.2.2.2.2.2.1 x9.2.2.2.2.2.2.2.1 x9.2.2.2.2.2.2.2.2], .iface 35 (.int .i64 3)]) h8) h8) h7)
  (K3 () h7)) h10)) (fun (_s11 : Unit) _ h12 =>
  callT Tryd.prog 52 [.slice l_0 l_0l l_0c] [.sc .slice] (fun (r13 : (Option Addr × Nat × Nat)) h14 =>
  callT Tryd.prog 53 [.slice r13.1 r13.2.1 r13.2.2, .int .i64 0] [.sc (.int .u32)] (fun (r15 : Int) h16 =>
  callT Tryd.prog 53 [.slice r13.1 r13.2.1 r13.2.2, .int .i64 1] [.sc (.int .u32)] (fun (r17 : Int) h18 =>
  callT Tryd.prog 53 [.slice r13.1 r13.2.1 r13.2.2, .int .i64 2] [.sc (.int .u32)] (fun (r19 : Int) h20 =>
  callT Tryd.prog 53 [.slice r13.1 r13.2.1 r13.2.2, .int .i64 3] [.sc (.int .u32)] (fun (r21 : Int) h22 =>
  callT Tryd.prog 53 [.slice r13.1 r13.2.1 r13.2.2, .int .i64 4] [.sc (.int .u32)] (fun (r23 : Int) h24 =>
  callT Tryd.prog 53 [.slice r13.1 r13.2.1 r13.2.2, .int .i64 5] [.sc (.int .u32)] (fun (r25 : Int) h26 =>
  newW (.cells (zeroC Tryd.prog 27) 27) (fun a27 h28 =>
  stLW a27 [.int .u32 r15, .int .u32 r17, .int .u32 r19, .int .i64 (IntKind.wrap .i64 r21), .int .i64 (IntKind.wrap .i64 r23), .int .i64 (IntKind.wrap .i64 r25), .slice none 0 0] (fun h29 =>
  ldAggW [.int .i64, .int .i64, .int .i64] (Addr.add a27 3) (fun (x30 : Int × Int × Int) =>
  callT Tryd.prog 54 [.agg #[.int .i64 x30.1, .int .i64 x30.2.1, .int .i64 x30.2.2]] [.sc .bool] (fun (r31 : Bool) h32 =>
  br (!r31)
  (stLW a1 [.int .u32 0, .int .u32 0, .int .u32 0, .int .i64 0, .int .i64 0, .int .i64 0, .slice none 0 0] (fun h33 =>
  ldAggW [.int .u32, .int .u32, .int .u32, .int .i64, .int .i64, .int .i64, .slice] a1 (fun (x34 : Int × Int × Int × Int × Int × Int × (Option Addr × Nat × Nat)) =>
  K (.tuple #[.agg #[.int .u32 x34.1, .int .u32 x34.2.1, .int .u32 x34.2.2.1, .int .i64 x34.2.2.2.1, .int .i64 x34.2.2.2.2.1, .int .i64 x34.2.2.2.2.2.1, .slice x34.2.2.2.2.2.2.1 x34.2.2.2.2.2.2.2.1 x34.2.2.2.2.2.2.2.2], .iface 35 (.int .i64 2)]) h33) h33) h32)
  (ldW (.int .i64) (Addr.add (Addr.add a27 3) 2) (fun (x35 : Int) =>
  callT Tryd.prog 16 [.int .i64 x35] [.sc (.int .i64)] (fun (r36 : Int) h37 =>
  br ((((l_0l : Nat) : Int)) != r36)
  (stLW a1 [.int .u32 0, .int .u32 0, .int .u32 0, .int .i64 0, .int .i64 0, .int .i64 0, .slice none 0 0] (fun h38 =>
  ldAggW [.int .u32, .int .u32, .int .u32, .int .i64, .int .i64, .int .i64, .slice] a1 (fun (x39 : Int × Int × Int × Int × Int × Int × (Option Addr × Nat × Nat)) =>
  K (.tuple #[.agg #[.int .u32 x39.1, .int .u32 x39.2.1, .int .u32 x39.2.2.1, .int .i64 x39.2.2.2.1, .int .i64 x39.2.2.2.2.1, .int .i64 x39.2.2.2.2.2.1, .slice x39.2.2.2.2.2.2.1 x39.2.2.2.2.2.2.2.1 x39.2.2.2.2.2.2.2.2], .iface 35 (.int .i64 3)]) h38) h38) h37)
  (ldW (.int .i64) (Addr.add (Addr.add a27 3) 2) (fun (x40 : Int) =>
  callT Tryd.prog 55 [.int .i64 x40] [.sc (.int .i64)] (fun (r41 : Int) h42 =>
  slW r13.1 r13.2.2 1 (0 : Int) r41 (((r13.2.2 : Nat) : Int)) (fun b43 n44 c45 =>
  callT Tryd.prog 45 [.slice b43 n44 c45] [.sc (.int .u32)] (fun (r46 : Int) h47 =>
  callT Tryd.prog 53 [.slice r13.1 r13.2.1 r13.2.2, .int .i64 (IntKind.wrap .i64 (Int.tdiv r41 (4 : Int)))] [.sc (.int .u32)] (fun (r48 : Int) h49 =>
  br (r46 != r48)
  (stLW a1 [.int .u32 0, .int .u32 0, .int .u32 0, .int .i64 0, .int .i64 0, .int .i64 0, .slice none 0 0] (fun h50 =>
  ldAggW [.int .u32, .int .u32, .int .u32, .int .i64, .int .i64, .int .i64, .slice] a1 (fun (x51 : Int × Int × Int × Int × Int × Int × (Option Addr × Nat × Nat)) =>
  K (.tuple #[.agg #[.int .u32 x51.1, .int .u32 x51.2.1, .int .u32 x51.2.2.1, .int .i64 x51.2.2.2.1, .int .i64 x51.2.2.2.2.1, .int .i64 x51.2.2.2.2.2.1, .slice x51.2.2.2.2.2.2.1 x51.2.2.2.2.2.2.2.1 x51.2.2.2.2.2.2.2.2], .iface 35 (.int .i64 4)]) h50) h50) h49)
  (slW r13.1 r13.2.2 1 (IntKind.wrap .i64 (r41 + (4 : Int))) (((r13.2.1 : Nat) : Int)) (((r13.2.2 : Nat) : Int)) (fun b52 n53 c54 =>
  callT Tryd.prog 56 [.slice b52 n53 c54, .func (.func 57) #[] #[]] [.sc .bool] (fun (r55 : Bool) h56 =>
  br r55
  (stLW a1 [.int .u32 0, .int .u32 0, .int .u32 0, .int .i64 0, .int .i64 0, .int .i64 0, .slice none 0 0] (fun h57 =>
  ldAggW [.int .u32, .int .u32, .int .u32, .int .i64, .int .i64, .int .i64, .slice] a1 (fun (x58 : Int × Int × Int × Int × Int × Int × (Option Addr × Nat × Nat)) =>
  K (.tuple #[.agg #[.int .u32 x58.1, .int .u32 x58.2.1, .int .u32 x58.2.2.1, .int .i64 x58.2.2.2.1, .int .i64 x58.2.2.2.2.1, .int .i64 x58.2.2.2.2.2.1, .slice x58.2.2.2.2.2.2.1 x58.2.2.2.2.2.2.2.1 x58.2.2.2.2.2.2.2.2], .iface 35 (.int .i64 2)]) h57) h57) h56)
  (ldW (.int .i64) (Addr.add (Addr.add a27 3) 2) (fun (x59 : Int) =>
  callT Tryd.prog 30 [.int .i64 x59] [.sc (.int .i64)] (fun (r60 : Int) h61 =>
  loopT [.sc (.int .i64)] (fun (s63 : Int) _ (K62 : Int → Heap → Prop) h64 =>
  br (decide (s63 < r60))
  (ldW .slice (Addr.add a27 6) (fun (x65 : Option Addr × Nat × Nat) =>
  callT Tryd.prog 53 [.slice r13.1 r13.2.1 r13.2.2, .int .i64 (IntKind.wrap .i64 ((6 : Int) + s63))] [.sc (.int .u32)] (fun (r66 : Int) h67 =>
  (cellH h67 (Addr.add a27 6) = some (.slice x65.1 x65.2.1 x65.2.2) ∧ newW (.cells #[.int .u32 r66] 22) (fun a68 h69 =>
  apW Tryd.prog #[25, 25] #[.slice x65.1 x65.2.1 x65.2.2, .slice (some a68) 1 1] (fun b70 n71 c72 h73 =>
  stW (Addr.add a27 6) (.slice b70 n71 c72) (fun h74 =>
  K62 (IntKind.wrap .i64 (s63 + (1 : Int))) h74) h73) h69) h67)) h64) h64)
  (ldAggW [.int .u32, .int .u32, .int .u32, .int .i64, .int .i64, .int .i64, .slice] a27 (fun (x75 : Int × Int × Int × Int × Int × Int × (Option Addr × Nat × Nat)) =>
  stLW a1 [.int .u32 x75.1, .int .u32 x75.2.1, .int .u32 x75.2.2.1, .int .i64 x75.2.2.2.1, .int .i64 x75.2.2.2.2.1, .int .i64 x75.2.2.2.2.2.1, .slice x75.2.2.2.2.2.2.1 x75.2.2.2.2.2.2.2.1 x75.2.2.2.2.2.2.2.2] (fun h76 =>
  ldAggW [.int .u32, .int .u32, .int .u32, .int .i64, .int .i64, .int .i64, .slice] a1 (fun (x77 : Int × Int × Int × Int × Int × Int × (Option Addr × Nat × Nat)) =>
  K (.tuple #[.agg #[.int .u32 x77.1, .int .u32 x77.2.1, .int .u32 x77.2.2.1, .int .i64 x77.2.2.2.1, .int .i64 x77.2.2.2.2.1, .int .i64 x77.2.2.2.2.2.1, .slice x77.2.2.2.2.2.2.1 x77.2.2.2.2.2.2.2.1 x77.2.2.2.2.2.2.2.2], .nilIface]) h76) h76) h64) h64)) (0 : Int) h61) h56) h56)) h49))) h47) h42)) h37) h37)) h32) h32)) h29) h29) h28) h26) h24) h22) h20) h18) h16) h14) h12) h2) h0)
set_option maxRecDepth 100000 in
theorem F14_eq (l_0 : Option Addr) (l_0l l_0c : Nat) (K : Value → Heap → Prop) (h0 : Heap) : funWE Tryd.prog 14 (.seq (.leaf) (.cut [] (.seq (.leaf) (.cond (.seq (.leaf) (.leaf)) (.leaf))) (.seq (.leaf) (.seq (.leaf) (.seq (.seq (.leaf) (.cond (.seq (.leaf) (.leaf)) (.leaf))) (.seq (.seq (.leaf) (.cond (.seq (.leaf) (.leaf)) (.leaf))) (.seq (.leaf) (.seq (.block (.seq (.leaf) (.cond (.seq (.leaf) (.leaf)) (.seq (.leaf) (.cond (.seq (.leaf) (.leaf)) (.leaf)))))) (.seq (.seq (.leaf) (.block (.loop [(79, .sc (.int .i64))] (.seq (.leaf) (.seq (.cond (.leaf) (.leaf)) (.seq (.block (.seq (.leaf) (.draw (odp [0, 1, 2, 3, 4, 5, 6, 7, 8, 9] .nil) [200001]))) (.leaf))))))) (.seq (.leaf) (.leaf))))))))))) [.slice l_0 l_0l l_0c] K h0 = F14 l_0 l_0l l_0c K h0 := by kernel_rfl

end Go.Proofs.YthimfpkkdhpceaaDoor.W
