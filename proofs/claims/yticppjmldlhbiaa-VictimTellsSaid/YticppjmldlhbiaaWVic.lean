/-
  The formulas of package victim. Each formula checked by the kernel. Printed by a program of this repo.
-/
import Derived.Test.YticppjmldlhbiaaProg
import Derived.Test.YticppjmldlhbiaaPl
namespace Go.Proofs.Yticppjmldlhbiaa.W
open Go.Pl

-- function 33
set_option maxRecDepth 100000 in
def F33 (pages_0 : Int) (l_1 : Option Addr) (l_1l l_1c : Nat) (K : Value → Heap → Prop) (h0 : Heap) : Prop := (
  loopT [.sc (.int .i64)] (fun (s2 : Int) _ (K1 : Int → Heap → Prop) h3 =>
  br (decide (s2 < (((l_1l : Nat) : Int))))
  (ptrW l_1 (fun a4 =>
  idxW s2 l_1l true (ldAggW [.int .i64, .int .i64, .int .u32] (Addr.add a4 (Int.toNat s2 * 3)) (fun (x5 : Int × Int × Int) =>
  newW (.cells (zeroC Try.prog 72) 72) (fun a6 h7 =>
  stLW a6 [.int .i64 x5.1, .int .i64 x5.2.1, .int .u32 x5.2.2] (fun h8 =>
  ldW (.int .i64) (Addr.add a6 0) (fun (x9 : Int) =>
  br (decide (x9 < (0 : Int)))
  (K (.bool false) h8)
  (ldW (.int .i64) (Addr.add a6 1) (fun (x10 : Int) =>
  br (decide (x10 < (0 : Int)))
  (K (.bool false) h8)
  (ldW (.int .i64) (Addr.add a6 1) (fun (x11 : Int) =>
  br (decide (x11 > pages_0))
  (K (.bool false) h8)
  (slW l_1 l_1c 3 (0 : Int) s2 (((l_1c : Nat) : Int)) (fun b12 n13 c14 =>
  callT Try.prog 54 [.slice b12 n13 c14, .func (.func 55) #[] #[.pointer (some a6)]] [.sc .bool] (fun (r15 : Bool) h16 =>
  br r15
  (K (.bool false) h16)
  (K1 (IntKind.wrap .i64 (s2 + (1 : Int))) h16)) h8))) h8)) h8)) h8) h7) h3) h3)))
  (K (.bool (decide ((((l_1l : Nat) : Int)) ≤ (24 : Int)))) h3)) (0 : Int) h0)
set_option maxRecDepth 100000 in
theorem F33_eq (pages_0 : Int) (l_1 : Option Addr) (l_1l l_1c : Nat) (K : Value → Heap → Prop) (h0 : Heap) : funWE Try.prog 33 (.seq (.leaf) (.seq (.seq (.leaf) (.block (.loop [(9, .sc (.int .i64))] (.seq (.leaf) (.seq (.cond (.leaf) (.leaf)) (.seq (.block (.seq (.leaf) (.seq (.leaf) (.cond (.seq (.leaf) (.leaf)) (.leaf))))) (.leaf))))))) (.seq (.leaf) (.leaf)))) [.int .i64 pages_0, .slice l_1 l_1l l_1c] K h0 = F33 pages_0 l_1 l_1l l_1c K h0 := by kernel_rfl

-- function 55
set_option maxRecDepth 100000 in
def F55 (y_0_0 : Int) (y_0_1 : Int) (y_0_2 : Int) (cap_0 : Addr) (K : Value → Heap → Prop) (h0 : Heap) : Prop := (
  newW (.cells #[.int .i64 y_0_0, .int .i64 y_0_1, .int .u32 y_0_2] 72) (fun a1 h2 =>
  ldW (.int .i64) (Addr.add a1 0) (fun (x3 : Int) =>
  ldW (.int .i64) (Addr.add cap_0 0) (fun (x4 : Int) =>
  K (.bool (x3 == x4)) h2) h2) h2) h0)
set_option maxRecDepth 100000 in
theorem F55_eq (y_0_0 : Int) (y_0_1 : Int) (y_0_2 : Int) (cap_0 : Addr) (K : Value → Heap → Prop) (h0 : Heap) : funWE Try.prog 55 (.seq (.leaf) (.seq (.leaf) (.leaf))) [.agg #[.int .i64 y_0_0, .int .i64 y_0_1, .int .u32 y_0_2], .pointer (some cap_0)] K h0 = F55 y_0_0 y_0_1 y_0_2 cap_0 K h0 := by kernel_rfl

-- function 54
set_option maxRecDepth 100000 in
def F54 (s_0 : Option Addr) (s_0l s_0c : Nat) (f_1 : Value) (K : Value → Heap → Prop) (h0 : Heap) : Prop := (
  callT Try.prog 65 [.slice s_0 s_0l s_0c, f_1] [.sc (.int .i64)] (fun (r1 : Int) h2 =>
  K (.bool (decide (r1 ≥ (0 : Int)))) h2) h0)
set_option maxRecDepth 100000 in
theorem F54_eq (s_0 : Option Addr) (s_0l s_0c : Nat) (f_1 : Value) (K : Value → Heap → Prop) (h0 : Heap) : funWE Try.prog 54 (.seq (.leaf) (.seq (.leaf) (.leaf))) [.slice s_0 s_0l s_0c, f_1] K h0 = F54 s_0 s_0l s_0c f_1 K h0 := by kernel_rfl

-- function 65
set_option maxRecDepth 100000 in
def F65 (s_0 : Option Addr) (s_0l _s_0c : Nat) (f_1 : Value) (K : Value → Heap → Prop) (h0 : Heap) : Prop := (
  loopT [.sc (.int .i64)] (fun (s2 : Int) _ (K1 : Int → Heap → Prop) h3 =>
  br (decide (s2 < (((s_0l : Nat) : Int))))
  (ptrW s_0 (fun a4 =>
  idxW s2 s_0l true (ldAggW [.int .i64, .int .i64, .int .u32] (Addr.add a4 (Int.toNat s2 * 3)) (fun (x5 : Int × Int × Int) =>
  callW Try.prog (.sc .bool) f_1 [.agg #[.int .i64 x5.1, .int .i64 x5.2.1, .int .u32 x5.2.2]] (fun (x6 : Bool) h7 =>
  br x6
  (K (.int .i64 s2) h7)
  (K1 (IntKind.wrap .i64 (s2 + (1 : Int))) h7)) h3) h3)))
  (K (.int .i64 (-1)) h3)) (0 : Int) h0)
set_option maxRecDepth 100000 in
theorem F65_eq (s_0 : Option Addr) (s_0l s_0c : Nat) (f_1 : Value) (K : Value → Heap → Prop) (h0 : Heap) : funWE Try.prog 65 (.seq (.leaf) (.seq (.seq (.leaf) (.block (.loop [(8, .sc (.int .i64))] (.seq (.leaf) (.seq (.cond (.leaf) (.leaf)) (.seq (.block (.seq (.leaf) (.seq (.leaf) (.cond (.seq (.leaf) (.leaf)) (.leaf))))) (.leaf))))))) (.seq (.leaf) (.leaf)))) [.slice s_0 s_0l s_0c, f_1] K h0 = F65 s_0 s_0l s_0c f_1 K h0 := by kernel_rfl

-- function 57
set_option maxRecDepth 100000 in
def F57 (policy_0 : Int) (pages_1 : Int) (l_2 : Option Addr) (l_2l l_2c : Nat) (K : Value → Heap → Prop) (h0 : Heap) : Prop := (
  newW (.cells #[.int .i64 policy_0] 3) (fun a1 h2 =>
  newW (.cells #[.int .i64 pages_1] 3) (fun a3 h4 =>
  newW (.cells (zeroC Try.prog 114) 114) (fun a5 h6 =>
  stW a5 (.func (.func 66) #[] #[.pointer (some a3)]) (fun h7 =>
  callT Try.prog 68 [.slice l_2 l_2l l_2c] [.sc .any] (fun (r8 : Value) h9 =>
  callT Try.prog 67 [r8, .func (.func 69) #[] #[.pointer (some a1), .pointer (some a5)]] [.sc .slice] (fun (r10 : (Option Addr × Nat × Nat)) h11 =>
  K (.slice r10.1 r10.2.1 r10.2.2) h11) h9) h7) h6) h4) h2) h0)
set_option maxRecDepth 100000 in
theorem F57_eq (policy_0 : Int) (pages_1 : Int) (l_2 : Option Addr) (l_2l l_2c : Nat) (K : Value → Heap → Prop) (h0 : Heap) : funWE Try.prog 57 (.seq (.leaf) (.seq (.leaf) (.seq (.leaf) (.leaf)))) [.int .i64 policy_0, .int .i64 pages_1, .slice l_2 l_2l l_2c] K h0 = F57 policy_0 pages_1 l_2 l_2l l_2c K h0 := by kernel_rfl

-- function 66
set_option maxRecDepth 100000 in
def F66 (z_0_0 : Int) (z_0_1 : Int) (z_0_2 : Int) (by_1_0 : Int) (by_1_1 : Int) (by_1_2 : Int) (cap_0 : Addr) (K : Value → Heap → Prop) (h0 : Heap) : Prop := (
  newW (.cells #[.int .i64 z_0_0, .int .i64 z_0_1, .int .u32 z_0_2] 72) (fun a1 h2 =>
  newW (.cells #[.int .i64 by_1_0, .int .i64 by_1_1, .int .u32 by_1_2] 72) (fun a3 h4 =>
  ldW (.int .u32) (Addr.add a1 2) (fun (x5 : Int) =>
  ldW (.int .i64) cap_0 (fun (x6 : Int) =>
  ldW (.int .i64) (Addr.add a1 1) (fun (x7 : Int) =>
  ldW (.int .i64) (Addr.add a3 1) (fun (x8 : Int) =>
  K (.int .u64 (IntKind.wrap .u64 ((IntKind.wrap .u64 ((IntKind.wrap .u64 ((IntKind.wrap .u64 x5) + (1 : Int))) * (IntKind.wrap .u64 (IntKind.wrap .i64 (x6 - x7))))) * (IntKind.wrap .u64 (IntKind.wrap .i64 (x8 + (1 : Int))))))) h4) h4) h4) h4) h4) h2) h0)
set_option maxRecDepth 100000 in
theorem F66_eq (z_0_0 : Int) (z_0_1 : Int) (z_0_2 : Int) (by_1_0 : Int) (by_1_1 : Int) (by_1_2 : Int) (cap_0 : Addr) (K : Value → Heap → Prop) (h0 : Heap) : funWE Try.prog 66 (.seq (.leaf) (.seq (.leaf) (.leaf))) [.agg #[.int .i64 z_0_0, .int .i64 z_0_1, .int .u32 z_0_2], .agg #[.int .i64 by_1_0, .int .i64 by_1_1, .int .u32 by_1_2], .pointer (some cap_0)] K h0 = F66 z_0_0 z_0_1 z_0_2 by_1_0 by_1_1 by_1_2 cap_0 K h0 := by kernel_rfl

-- function 69
set_option maxRecDepth 100000 in
def F69 (a_0_0 : Int) (a_0_1 : Int) (a_0_2 : Int) (b_1_0 : Int) (b_1_1 : Int) (b_1_2 : Int) (cap_0 : Addr) (cap_1 : Addr) (K : Value → Heap → Prop) (h0 : Heap) : Prop := (
  newW (.cells #[.int .i64 a_0_0, .int .i64 a_0_1, .int .u32 a_0_2] 72) (fun a1 h2 =>
  newW (.cells #[.int .i64 b_1_0, .int .i64 b_1_1, .int .u32 b_1_2] 72) (fun a3 h4 =>
  ldW (.int .i64) (Addr.add a1 1) (fun (x5 : Int) =>
  ldW (.int .i64) (Addr.add a3 1) (fun (x6 : Int) =>
  callT Try.prog 70 [.int .i64 x5, .int .i64 x6] [.sc (.int .i64)] (fun (r7 : Int) h8 =>
  cutT [.sc (.int .i64)] (fun (K9 : Int → Heap → Prop) h23 =>
  ldW (.int .i64) cap_0 (fun (x10 : Int) =>
  br (x10 != (0 : Int))
  (ldW .any cap_1 (fun (x11 : Value) =>
  ldAggW [.int .i64, .int .i64, .int .u32] a3 (fun (x12 : Int × Int × Int) =>
  ldAggW [.int .i64, .int .i64, .int .u32] a1 (fun (x13 : Int × Int × Int) =>
  ldW .any cap_1 (fun (x14 : Value) =>
  ldAggW [.int .i64, .int .i64, .int .u32] a1 (fun (x15 : Int × Int × Int) =>
  ldAggW [.int .i64, .int .i64, .int .u32] a3 (fun (x16 : Int × Int × Int) =>
  callW Try.prog (.sc (.int .u64)) x11 [.agg #[.int .i64 x12.1, .int .i64 x12.2.1, .int .u32 x12.2.2], .agg #[.int .i64 x13.1, .int .i64 x13.2.1, .int .u32 x13.2.2]] (fun (x17 : Int) h18 =>
  (cellH h18 (Addr.add a3 0) = some (.int .i64 x16.1) ∧ (cellH h18 (Addr.add a3 1) = some (.int .i64 x16.2.1) ∧ (cellH h18 (Addr.add a3 2) = some (.int .u32 x16.2.2) ∧ (cellH h18 (Addr.add a1 0) = some (.int .i64 x15.1) ∧ (cellH h18 (Addr.add a1 1) = some (.int .i64 x15.2.1) ∧ (cellH h18 (Addr.add a1 2) = some (.int .u32 x15.2.2) ∧ (cellH h18 cap_1 = some (x14) ∧ callW Try.prog (.sc (.int .u64)) x14 [.agg #[.int .i64 x15.1, .int .i64 x15.2.1, .int .u32 x15.2.2], .agg #[.int .i64 x16.1, .int .i64 x16.2.1, .int .u32 x16.2.2]] (fun (x19 : Int) h20 =>
  callT Try.prog 71 [.int .u64 x17, .int .u64 x19] [.sc (.int .i64)] (fun (r21 : Int) h22 =>
  K9 r21 h22) h20) h18)))))))) h23) h23) h23) h23) h23) h23) h23)
  (K9 r7 h23)) h23) (fun (s24 : Int) _ h25 =>
  ldW (.int .i64) (Addr.add a1 0) (fun (x26 : Int) =>
  ldW (.int .i64) (Addr.add a3 0) (fun (x27 : Int) =>
  callT Try.prog 70 [.int .i64 x26, .int .i64 x27] [.sc (.int .i64)] (fun (r28 : Int) h29 =>
  newW (.cells #[.int .i64 s24, .int .i64 r28] 3) (fun a30 h31 =>
  callT Try.prog 72 [.slice (some a30) 2 2] [.sc (.int .i64)] (fun (r32 : Int) h33 =>
  K (.int .i64 r32) h33) h31) h29) h25) h25) h25) h8) h4) h4) h4) h2) h0)
set_option maxRecDepth 100000 in
theorem F69_eq (a_0_0 : Int) (a_0_1 : Int) (a_0_2 : Int) (b_1_0 : Int) (b_1_1 : Int) (b_1_2 : Int) (cap_0 : Addr) (cap_1 : Addr) (K : Value → Heap → Prop) (h0 : Heap) : funWE Try.prog 69 (.seq (.leaf) (.seq (.leaf) (.cut [(7, .sc (.int .i64))] (.seq (.leaf) (.cond (.draw (odp [0, 1, 2, 4, 5, 6, 3, 7, 8, 9] .nil) [200004, 200005, 200006]) (.leaf))) (.seq (.leaf) (.leaf))))) [.agg #[.int .i64 a_0_0, .int .i64 a_0_1, .int .u32 a_0_2], .agg #[.int .i64 b_1_0, .int .i64 b_1_1, .int .u32 b_1_2], .pointer (some cap_0), .pointer (some cap_1)] K h0 = F69 a_0_0 a_0_1 a_0_2 b_1_0 b_1_1 b_1_2 cap_0 cap_1 K h0 := by kernel_rfl

-- function 67
set_option maxRecDepth 100000 in
def F67 (seq_0 : Value) (cmp_1 : Value) (K : Value → Heap → Prop) (h0 : Heap) : Prop := (
  callT Try.prog 76 [seq_0] [.sc .slice] (fun (r1 : (Option Addr × Nat × Nat)) h2 =>
  callT Try.prog 77 [.slice r1.1 r1.2.1 r1.2.2, cmp_1] [] (fun (_r3 : Unit) h4 =>
  K (.slice r1.1 r1.2.1 r1.2.2) h4) h2) h0)
set_option maxRecDepth 100000 in
theorem F67_eq (seq_0 : Value) (cmp_1 : Value) (K : Value → Heap → Prop) (h0 : Heap) : funWE Try.prog 67 (.seq (.leaf) (.seq (.leaf) (.seq (.leaf) (.seq (.leaf) (.leaf))))) [seq_0, cmp_1] K h0 = F67 seq_0 cmp_1 K h0 := by kernel_rfl

-- function 68
set_option maxRecDepth 100000 in
def F68 (s_0 : Option Addr) (s_0l s_0c : Nat) (K : Value → Heap → Prop) (h0 : Heap) : Prop := (
  newW (.cells #[.slice s_0 s_0l s_0c] 60) (fun a1 h2 =>
  K (.func (.func 78) #[] #[.pointer (some a1)]) h2) h0)
set_option maxRecDepth 100000 in
theorem F68_eq (s_0 : Option Addr) (s_0l s_0c : Nat) (K : Value → Heap → Prop) (h0 : Heap) : funWE Try.prog 68 (.seq (.leaf) (.seq (.leaf) (.leaf))) [.slice s_0 s_0l s_0c] K h0 = F68 s_0 s_0l s_0c K h0 := by kernel_rfl

-- function 78
set_option maxRecDepth 100000 in
def F78 (yield_0 : Nat) (cap_0 : Addr) (K : Value → Heap → Prop) (h0 : Heap) : Prop := (
  ldW .slice cap_0 (fun (x1 : Option Addr × Nat × Nat) =>
  loopT [.sc (.int .i64)] (fun (s3 : Int) _ (K2 : Int → Heap → Prop) h4 =>
  br (decide (s3 < (((x1.2.1 : Nat) : Int))))
  (ptrW x1.1 (fun a5 =>
  idxW s3 x1.2.1 true (ldAggW [.int .i64, .int .i64, .int .u32] (Addr.add a5 (Int.toNat s3 * 3)) (fun (x6 : Int × Int × Int) =>
  newW (.cells (zeroC Try.prog 72) 72) (fun a7 h8 =>
  stLW a7 [.int .i64 x6.1, .int .i64 x6.2.1, .int .u32 x6.2.2] (fun h9 =>
  ldAggW [.int .i64, .int .i64, .int .u32] a7 (fun (x10 : Int × Int × Int) =>
  callW Try.prog (.sc .bool) (.func (.yield yield_0) #[] #[]) [.agg #[.int .i64 x10.1, .int .i64 x10.2.1, .int .u32 x10.2.2]] (fun (x11 : Bool) h12 =>
  br (!x11)
  (K (.tuple #[]) h12)
  (K2 (IntKind.wrap .i64 (s3 + (1 : Int))) h12)) h9) h9) h8) h4) h4)))
  (K (.tuple #[]) h4)) (0 : Int) h0) h0)
set_option maxRecDepth 100000 in
theorem F78_eq (yield_0 : Nat) (cap_0 : Addr) (K : Value → Heap → Prop) (h0 : Heap) : funWE Try.prog 78 (.seq (.leaf) (.block (.loop [(7, .sc (.int .i64))] (.seq (.leaf) (.seq (.cond (.leaf) (.leaf)) (.seq (.block (.seq (.leaf) (.seq (.leaf) (.cond (.leaf) (.leaf))))) (.leaf))))))) [.func (.yield yield_0) #[] #[], .pointer (some cap_0)] K h0 = F78 yield_0 cap_0 K h0 := by kernel_rfl

-- function 76
set_option maxRecDepth 100000 in
def F76 (seq_0 : Value) (K : Value → Heap → Prop) (h0 : Heap) : Prop := (
  callT Try.prog 81 [.slice none 0 0, seq_0] [.sc .slice] (fun (r1 : (Option Addr × Nat × Nat)) h2 =>
  K (.slice r1.1 r1.2.1 r1.2.2) h2) h0)
set_option maxRecDepth 100000 in
theorem F76_eq (seq_0 : Value) (K : Value → Heap → Prop) (h0 : Heap) : funWE Try.prog 76 (.seq (.leaf) (.seq (.leaf) (.leaf))) [seq_0] K h0 = F76 seq_0 K h0 := by kernel_rfl

-- function 81
set_option maxRecDepth 100000 in
def F81 (s_0 : Option Addr) (s_0l s_0c : Nat) (seq_1 : Value) (K : Value → Heap → Prop) (h0 : Heap) : Prop := (
  newW (.cells #[.slice s_0 s_0l s_0c] 60) (fun a1 h2 =>
  rfW seq_1 (fun n30 x31 x32 =>
  rangeW Try.prog n30 x31 x32 [.agg [.int .i64, .int .i64, .int .u32]] (fun l3 o4 (s5 : (Int × Int × Int)) Y6 h7 =>
  newW (.cells (zeroC Try.prog 72) 72) (fun a11 h12 =>
  stLW a11 [.int .i64 s5.1, .int .i64 s5.2.1, .int .u32 s5.2.2] (fun h13 =>
  roundIn l3 o4 (fun h9 =>
  ldW .slice a1 (fun (x14 : Option Addr × Nat × Nat) =>
  ldAggW [.int .i64, .int .i64, .int .u32] a11 (fun (x15 : Int × Int × Int) =>
  newW (.cells #[.int .i64 x15.1, .int .i64 x15.2.1, .int .u32 x15.2.2] 72) (fun a16 h17 =>
  apW Try.prog #[60, 60] #[.slice x14.1 x14.2.1 x14.2.2, .slice (some a16) 1 1] (fun b18 n19 c20 h21 =>
  stW a1 (.slice b18 n19 c20) (fun h22 =>
  roundEnd l3 o4.rdy (Y6 true) h22) h21) h17) h9) h9) h9) h13) h12) h7) (fun l28 o29 h23 =>
  (roundDone l28 o29.rdy (fun h24 =>
  ldW .slice a1 (fun (x25 : Option Addr × Nat × Nat) =>
  (∀ h26, Taken h0.size h24 h26 →
  K (.slice x25.1 x25.2.1 x25.2.2) h26)) h24) h23) ∨
  (roundDone l28 (o29.dn .ret) (fun h24 =>
  (∀ h27, Taken h0.size h24 h27 →
  K (.slice none 0 0) h27)) h23) ∨ False) h2)) h0)
set_option maxRecDepth 100000 in
theorem F81_eq (s_0 : Option Addr) (s_0l s_0c : Nat) (seq_1 : Value) (K : Value → Heap → Prop) (h0 : Heap) : funWE Try.prog 81 (.seq (.leaf) (.seq (.seq (.leaf) (.block (.range [.agg [.int .i64, .int .i64, .int .u32]] [] (.leaf) (.block (.leaf))))) (.seq (.leaf) (.leaf)))) [.slice s_0 s_0l s_0c, seq_1] K h0 = F81 s_0 s_0l s_0c seq_1 K h0 := by kernel_rfl

-- function 70
set_option maxRecDepth 100000 in
def F70 (x_0 : Int) (y_1 : Int) (K : Value → Heap → Prop) (h0 : Heap) : Prop := (
  callT Try.prog 79 [.int .i64 x_0] [.sc .bool] (fun (r1 : Bool) h2 =>
  callT Try.prog 79 [.int .i64 y_1] [.sc .bool] (fun (r3 : Bool) h4 =>
  br r1
  (br r3
  (K (.int .i64 0) h4)
  (K (.int .i64 (-1)) h4))
  (br r3
  (K (.int .i64 1) h4)
  (br (decide (x_0 < y_1))
  (K (.int .i64 (-1)) h4)
  (br (decide (x_0 > y_1))
  (K (.int .i64 1) h4)
  (K (.int .i64 0) h4))))) h2) h0)
set_option maxRecDepth 100000 in
theorem F70_eq (x_0 : Int) (y_1 : Int) (K : Value → Heap → Prop) (h0 : Heap) : funWE Try.prog 70 (.seq (.leaf) (.seq (.leaf) (.seq (.leaf) (.seq (.seq (.leaf) (.cond (.seq (.seq (.leaf) (.cond (.seq (.leaf) (.leaf)) (.leaf))) (.seq (.leaf) (.leaf))) (.leaf))) (.seq (.seq (.leaf) (.cond (.seq (.leaf) (.leaf)) (.leaf))) (.seq (.seq (.leaf) (.cond (.seq (.leaf) (.leaf)) (.leaf))) (.seq (.seq (.leaf) (.cond (.seq (.leaf) (.leaf)) (.leaf))) (.seq (.leaf) (.leaf))))))))) [.int .i64 x_0, .int .i64 y_1] K h0 = F70 x_0 y_1 K h0 := by kernel_rfl

-- function 71
set_option maxRecDepth 100000 in
def F71 (x_0 : Int) (y_1 : Int) (K : Value → Heap → Prop) (h0 : Heap) : Prop := (
  callT Try.prog 80 [.int .u64 x_0] [.sc .bool] (fun (r1 : Bool) h2 =>
  callT Try.prog 80 [.int .u64 y_1] [.sc .bool] (fun (r3 : Bool) h4 =>
  br r1
  (br r3
  (K (.int .i64 0) h4)
  (K (.int .i64 (-1)) h4))
  (br r3
  (K (.int .i64 1) h4)
  (br (decide (x_0 < y_1))
  (K (.int .i64 (-1)) h4)
  (br (decide (x_0 > y_1))
  (K (.int .i64 1) h4)
  (K (.int .i64 0) h4))))) h2) h0)
set_option maxRecDepth 100000 in
theorem F71_eq (x_0 : Int) (y_1 : Int) (K : Value → Heap → Prop) (h0 : Heap) : funWE Try.prog 71 (.seq (.leaf) (.seq (.leaf) (.seq (.leaf) (.seq (.seq (.leaf) (.cond (.seq (.seq (.leaf) (.cond (.seq (.leaf) (.leaf)) (.leaf))) (.seq (.leaf) (.leaf))) (.leaf))) (.seq (.seq (.leaf) (.cond (.seq (.leaf) (.leaf)) (.leaf))) (.seq (.seq (.leaf) (.cond (.seq (.leaf) (.leaf)) (.leaf))) (.seq (.seq (.leaf) (.cond (.seq (.leaf) (.leaf)) (.leaf))) (.seq (.leaf) (.leaf))))))))) [.int .u64 x_0, .int .u64 y_1] K h0 = F71 x_0 y_1 K h0 := by kernel_rfl

-- function 72
set_option maxRecDepth 100000 in
def F72 (vals_0 : Option Addr) (vals_0l _vals_0c : Nat) (K : Value → Heap → Prop) (h0 : Heap) : Prop := (
  loopT [.sc (.int .i64)] (fun (s2 : Int) _ (K1 : Int → Heap → Prop) h3 =>
  br (decide (s2 < (((vals_0l : Nat) : Int))))
  (ptrW vals_0 (fun a4 =>
  idxW s2 vals_0l true (ldW (.int .i64) (Addr.add a4 (Int.toNat s2 * 1)) (fun (x5 : Int) =>
  br (x5 != (0 : Int))
  (K (.int .i64 x5) h3)
  (K1 (IntKind.wrap .i64 (s2 + (1 : Int))) h3)) h3)))
  (K (.int .i64 0) h3)) (0 : Int) h0)
set_option maxRecDepth 100000 in
theorem F72_eq (vals_0 : Option Addr) (vals_0l vals_0c : Nat) (K : Value → Heap → Prop) (h0 : Heap) : funWE Try.prog 72 (.seq (.leaf) (.seq (.leaf) (.seq (.seq (.leaf) (.block (.loop [(8, .sc (.int .i64))] (.seq (.leaf) (.seq (.cond (.leaf) (.leaf)) (.seq (.block (.seq (.leaf) (.seq (.leaf) (.cond (.seq (.leaf) (.leaf)) (.leaf))))) (.leaf))))))) (.seq (.leaf) (.leaf))))) [.slice vals_0 vals_0l vals_0c] K h0 = F72 vals_0 vals_0l vals_0c K h0 := by kernel_rfl

-- function 79
set_option maxRecDepth 100000 in
def F79 (x_0 : Int) (K : Value → Heap → Prop) (h0 : Heap) : Prop := (
  K (.bool (x_0 != x_0)) h0)
set_option maxRecDepth 100000 in
theorem F79_eq (x_0 : Int) (K : Value → Heap → Prop) (h0 : Heap) : funWE Try.prog 79 (.seq (.leaf) (.seq (.leaf) (.leaf))) [.int .i64 x_0] K h0 = F79 x_0 K h0 := by kernel_rfl

-- function 80
set_option maxRecDepth 100000 in
def F80 (x_0 : Int) (K : Value → Heap → Prop) (h0 : Heap) : Prop := (
  K (.bool (x_0 != x_0)) h0)
set_option maxRecDepth 100000 in
theorem F80_eq (x_0 : Int) (K : Value → Heap → Prop) (h0 : Heap) : funWE Try.prog 80 (.seq (.leaf) (.seq (.leaf) (.leaf))) [.int .u64 x_0] K h0 = F80 x_0 K h0 := by kernel_rfl

-- function 56
set_option maxRecDepth 100000 in
def F56 (l_0 : Option Addr) (l_0l _l_0c : Nat) (K : Value → Heap → Prop) (h0 : Heap) : Prop := (
  loopT [.sc .slice, .sc (.int .i64)] (fun (s2 : (Option Addr × Nat × Nat) × Int) _ (K1 : ((Option Addr × Nat × Nat) × Int) → Heap → Prop) h3 =>
  br (decide (s2.2 < (((l_0l : Nat) : Int))))
  (ptrW l_0 (fun a4 =>
  idxW s2.2 l_0l true (ldAggW [.int .i64, .int .i64, .int .u32] (Addr.add a4 (Int.toNat s2.2 * 3)) (fun (x5 : Int × Int × Int) =>
  newW (.cells (zeroC Try.prog 72) 72) (fun a6 h7 =>
  stLW a6 [.int .i64 x5.1, .int .i64 x5.2.1, .int .u32 x5.2.2] (fun h8 =>
  ldW (.int .i64) (Addr.add a6 0) (fun (x9 : Int) =>
  newW (.cells #[.int .i64 x9] 3) (fun a10 h11 =>
  apW Try.prog #[36, 36] #[.slice s2.1.1 s2.1.2.1 s2.1.2.2, .slice (some a10) 1 1] (fun b12 n13 c14 h15 =>
  K1 ((b12, n13, c14), (IntKind.wrap .i64 (s2.2 + (1 : Int)))) h15) h11) h8) h8) h7) h3) h3)))
  (K (.slice s2.1.1 s2.1.2.1 s2.1.2.2) h3)) ((none, 0, 0), (0 : Int)) h0)
set_option maxRecDepth 100000 in
theorem F56_eq (l_0 : Option Addr) (l_0l l_0c : Nat) (K : Value → Heap → Prop) (h0 : Heap) : funWE Try.prog 56 (.seq (.leaf) (.seq (.leaf) (.seq (.seq (.leaf) (.block (.loop [(3, .sc .slice), (8, .sc (.int .i64))] (.seq (.leaf) (.seq (.cond (.leaf) (.leaf)) (.seq (.block (.seq (.leaf) (.leaf))) (.leaf))))))) (.seq (.leaf) (.leaf))))) [.slice l_0 l_0l l_0c] K h0 = F56 l_0 l_0l l_0c K h0 := by kernel_rfl

-- function 37
set_option maxRecDepth 100000 in
def F37 (policy_0 : Int) (pages_1 : Int) (l_2 : Option Addr) (l_2l l_2c : Nat) (K : Value → Heap → Prop) (h0 : Heap) : Prop := (
  callT Try.prog 57 [.int .i64 policy_0, .int .i64 pages_1, .slice l_2 l_2l l_2c] [.sc .slice] (fun (r1 : (Option Addr × Nat × Nat)) h2 =>
  callT Try.prog 56 [.slice r1.1 r1.2.1 r1.2.2] [.sc .slice] (fun (r3 : (Option Addr × Nat × Nat)) h4 =>
  K (.slice r3.1 r3.2.1 r3.2.2) h4) h2) h0)
set_option maxRecDepth 100000 in
theorem F37_eq (policy_0 : Int) (pages_1 : Int) (l_2 : Option Addr) (l_2l l_2c : Nat) (K : Value → Heap → Prop) (h0 : Heap) : funWE Try.prog 37 (.seq (.leaf) (.seq (.leaf) (.leaf))) [.int .i64 policy_0, .int .i64 pages_1, .slice l_2 l_2l l_2c] K h0 = F37 policy_0 pages_1 l_2 l_2l l_2c K h0 := by kernel_rfl

-- function 40
set_option maxRecDepth 100000 in
def F40 (policy_0 : Int) (pages_1 : Int) (extra_2 : Int) (l_3 : Option Addr) (l_3l l_3c : Nat) (K : Value → Heap → Prop) (h0 : Heap) : Prop := (
  callT Try.prog 57 [.int .i64 policy_0, .int .i64 pages_1, .slice l_3 l_3l l_3c] [.sc .slice] (fun (r1 : (Option Addr × Nat × Nat)) h2 =>
  loopT [.sc (.int .i64), .sc (.int .i64)] (fun (s4 : Int × Int) _ (K3 : (Int × Int) → Heap → Prop) h5 =>
  br (decide (s4.2 < (((r1.2.1 : Nat) : Int))))
  (ptrW r1.1 (fun a6 =>
  idxW s4.2 r1.2.1 true (ldAggW [.int .i64, .int .i64, .int .u32] (Addr.add a6 (Int.toNat s4.2 * 3)) (fun (x7 : Int × Int × Int) =>
  newW (.cells (zeroC Try.prog 72) 72) (fun a8 h9 =>
  stLW a8 [.int .i64 x7.1, .int .i64 x7.2.1, .int .u32 x7.2.2] (fun h10 =>
  ldW (.int .i64) (Addr.add a8 1) (fun (x11 : Int) =>
  ckB (!decide (pages_1 = 0)) (br (decide ((IntKind.wrap .i64 (Int.tdiv (IntKind.wrap .i64 ((IntKind.wrap .i64 ((IntKind.wrap .i64 (s4.1 + x11)) + pages_1)) - (1 : Int))) pages_1)) ≤ (mm2 false s4.2 (3 : Int))))
  (slW r1.1 r1.2.2 3 (0 : Int) (IntKind.wrap .i64 (s4.2 + (1 : Int))) (((r1.2.2 : Nat) : Int)) (fun b12 n13 c14 =>
  callT Try.prog 56 [.slice b12 n13 c14] [.sc .slice] (fun (r15 : (Option Addr × Nat × Nat)) h16 =>
  K (.slice r15.1 r15.2.1 r15.2.2) h16) h10))
  (K3 ((IntKind.wrap .i64 (s4.1 + x11)), (IntKind.wrap .i64 (s4.2 + (1 : Int)))) h10))) h10) h9) h5) h5)))
  (br (policy_0 != (0 : Int))
  (callT Try.prog 40 [.int .i64 0, .int .i64 pages_1, .int .i64 extra_2, .slice l_3 l_3l l_3c] [.sc .slice] (fun (r17 : (Option Addr × Nat × Nat)) h18 =>
  K (.slice r17.1 r17.2.1 r17.2.2) h18) h5)
  (K (.slice none 0 0) h5))) (extra_2, (0 : Int)) h2) h0)
set_option maxRecDepth 100000 in
theorem F40_eq (policy_0 : Int) (pages_1 : Int) (extra_2 : Int) (l_3 : Option Addr) (l_3l l_3c : Nat) (K : Value → Heap → Prop) (h0 : Heap) : funWE Try.prog 40 (.seq (.leaf) (.seq (.leaf) (.seq (.leaf) (.seq (.seq (.leaf) (.block (.loop [(10, .sc (.int .i64)), (21, .sc (.int .i64))] (.seq (.leaf) (.seq (.cond (.leaf) (.leaf)) (.seq (.block (.seq (.leaf) (.seq (.leaf) (.seq (.leaf) (.seq (.leaf) (.cond (.seq (.leaf) (.leaf)) (.leaf))))))) (.leaf))))))) (.seq (.seq (.leaf) (.cond (.seq (.leaf) (.leaf)) (.leaf))) (.seq (.leaf) (.leaf))))))) [.int .i64 policy_0, .int .i64 pages_1, .int .i64 extra_2, .slice l_3 l_3l l_3c] K h0 = F40 policy_0 pages_1 extra_2 l_3 l_3l l_3c K h0 := by kernel_rfl

end Go.Proofs.Yticppjmldlhbiaa.W
