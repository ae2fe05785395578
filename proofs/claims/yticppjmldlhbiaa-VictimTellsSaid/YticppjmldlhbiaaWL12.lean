/-
  The formulas of the laws of victim. Each formula checked by the kernel. Printed by a program of this repo.
-/
import Derived.Test.YticppjmldlhbiaaProg
import Derived.Test.YticppjmldlhbiaaPl
namespace Go.Proofs.Yticppjmldlhbiaa.W
open Go.Pl

-- function 32
set_option maxRecDepth 100000 in
def F32  (K : Value → Heap → Prop) (h0 : Heap) : Prop := (
  newW (.cells #[.int .i64 0, .int .i64 4, .int .u32 0, .int .i64 1, .int .i64 1, .int .u32 0, .int .i64 2, .int .i64 1, .int .u32 0, .int .i64 3, .int .i64 2, .int .u32 9] 72) (fun a1 h2 =>
  callT Try.prog 40 [.int .i64 0, .int .i64 4, .int .i64 2, .slice (some a1) 4 4] [.sc .slice] (fun (r3 : (Option Addr × Nat × Nat)) h4 =>
  newW (.cells #[.int .i64 1, .int .i64 2] 3) (fun a5 h6 =>
  callT Try.prog 20 [.slice r3.1 r3.2.1 r3.2.2, .slice (some a5) 2 2] [.sc .bool] (fun (r7 : Bool) h8 =>
  br r7
  (callT Try.prog 37 [.int .i64 0, .int .i64 4, .slice (some a1) 4 4] [.sc .slice] (fun (r9 : (Option Addr × Nat × Nat)) h10 =>
  newW (.cells #[.int .i64 1, .int .i64 2, .int .i64 3, .int .i64 0] 3) (fun a11 h12 =>
  callT Try.prog 20 [.slice r9.1 r9.2.1 r9.2.2, .slice (some a11) 4 4] [.sc .bool] (fun (r13 : Bool) h14 =>
  br r13
  (callT Try.prog 37 [.int .i64 1, .int .i64 4, .slice (some a1) 4 4] [.sc .slice] (fun (r15 : (Option Addr × Nat × Nat)) h16 =>
  newW (.cells #[.int .i64 3, .int .i64 1, .int .i64 2, .int .i64 0] 3) (fun a17 h18 =>
  callT Try.prog 20 [.slice r15.1 r15.2.1 r15.2.2, .slice (some a17) 4 4] [.sc .bool] (fun (r19 : Bool) h20 =>
  br r19
  (callT Try.prog 33 [.int .i64 4, .slice (some a1) 4 4] [.sc .bool] (fun (r21 : Bool) h22 =>
  br r21
  (callT Try.prog 33 [.int .i64 3, .slice (some a1) 4 4] [.sc .bool] (fun (r23 : Bool) h24 =>
  K (.bool (!r23)) h24) h22)
  (K (.bool false) h22)) h20)
  (K (.bool false) h20)) h18) h16) h14)
  (K (.bool false) h14)) h12) h10) h8)
  (K (.bool false) h8)) h6) h4) h2) h0)
set_option maxRecDepth 100000 in
theorem F32_eq  (K : Value → Heap → Prop) (h0 : Heap) : funWE Try.prog 32 (.seq (.leaf) (.seq (.leaf) (.seq (.leaf) (.leaf)))) [] K h0 = F32  K h0 := by kernel_rfl

-- function 35
set_option maxRecDepth 100000 in
def F35 (l_0 : Option Addr) (l_0l _l_0c : Nat) (K : Value → Heap → Prop) (h0 : Heap) : Prop := (
  newW (.cells #[] 101) (fun a1 h2 =>
  loopT [.sc .slice, .sc (.int .i64)] (fun (s4 : (Option Addr × Nat × Nat) × Int) _ (K3 : ((Option Addr × Nat × Nat) × Int) → Heap → Prop) h5 =>
  br (decide (s4.2 < (((l_0l : Nat) : Int))))
  (ptrW l_0 (fun a6 =>
  idxW s4.2 l_0l true (ldAggW [.int .i64, .int .i64, .int .u32] (Addr.add a6 (Int.toNat s4.2 * 3)) (fun (x7 : Int × Int × Int) =>
  newW (.cells (zeroC Try.prog 72) 72) (fun a8 h9 =>
  stLW a8 [.int .i64 x7.1, .int .i64 x7.2.1, .int .u32 x7.2.2] (fun h10 =>
  ldAggW [.int .i64, .int .i64, .int .u32] a8 (fun (x11 : Int × Int × Int) =>
  newW (.cells #[.int .i64 x11.1, .int .i64 x11.2.1, .int .u32 x11.2.2] 101) (fun a12 h13 =>
  apW Try.prog #[63, 63] #[.slice s4.1.1 s4.1.2.1 s4.1.2.2, .slice (some a12) 1 1] (fun b14 n15 c16 h17 =>
  K3 ((b14, n15, c16), (IntKind.wrap .i64 (s4.2 + (1 : Int)))) h17) h13) h10) h10) h9) h5) h5)))
  (K (.slice s4.1.1 s4.1.2.1 s4.1.2.2) h5)) (((some a1), 0, 0), (0 : Int)) h2) h0)
set_option maxRecDepth 100000 in
theorem F35_eq (l_0 : Option Addr) (l_0l l_0c : Nat) (K : Value → Heap → Prop) (h0 : Heap) : funWE Try.prog 35 (.seq (.leaf) (.seq (.leaf) (.seq (.seq (.leaf) (.block (.loop [(3, .sc .slice), (9, .sc (.int .i64))] (.seq (.leaf) (.seq (.cond (.leaf) (.leaf)) (.seq (.block (.seq (.leaf) (.leaf))) (.leaf))))))) (.seq (.leaf) (.leaf))))) [.slice l_0 l_0l l_0c] K h0 = F35 l_0 l_0l l_0c K h0 := by kernel_rfl

-- function 36
set_option maxRecDepth 100000 in
def F36 (pages_0 : Int) (l_1 : Option Addr) (l_1l l_1c : Nat) (K : Value → Heap → Prop) (h0 : Heap) : Prop := (
  br (decide (pages_0 < (1 : Int)))
  (K (.bool true) h0)
  (br (decide (pages_0 > (16 : Int)))
  (K (.bool true) h0)
  (br (decide ((((l_1l : Nat) : Int)) > (60 : Int)))
  (K (.bool true) h0)
  (callT Try.prog 35 [.slice l_1 l_1l l_1c] [.sc .slice] (fun (r1 : (Option Addr × Nat × Nat)) h2 =>
  callT Try.prog 34 [.int .i64 pages_0, .slice r1.1 r1.2.1 r1.2.2] [.sc .bool] (fun (r3 : Bool) h4 =>
  K (.bool (!r3)) h4) h2) h0))))
set_option maxRecDepth 100000 in
theorem F36_eq (pages_0 : Int) (l_1 : Option Addr) (l_1l l_1c : Nat) (K : Value → Heap → Prop) (h0 : Heap) : funWE Try.prog 36 (.seq (.leaf) (.seq (.leaf) (.leaf))) [.int .i64 pages_0, .slice l_1 l_1l l_1c] K h0 = F36 pages_0 l_1 l_1l l_1c K h0 := by kernel_rfl

-- function 6
set_option maxRecDepth 100000 in
def F6 (policy_0 : Int) (pages_1 : Int) (extra_2 : Int) (l_3 : Option Addr) (l_3l l_3c : Nat) (K : Value → Heap → Prop) (h0 : Heap) : Prop := (
  callT Try.prog 32 [] [.sc .bool] (fun (r1 : Bool) h2 =>
  br (!r1)
  (K (.bool false) h2)
  (cutT [] (fun (K3 : Unit → Heap → Prop) h4 =>
  br (decide (pages_1 < (1 : Int)))
  (K (.bool true) h4)
  (br (decide (pages_1 > (16 : Int)))
  (K (.bool true) h4)
  (br (decide ((((l_3l : Nat) : Int)) > (60 : Int)))
  (K (.bool true) h4)
  (K3 () h4)))) (fun (_s5 : Unit) _ h6 =>
  callT Try.prog 33 [.int .i64 pages_1, .slice l_3 l_3l l_3c] [.sc .bool] (fun (r7 : Bool) h8 =>
  callT Try.prog 35 [.slice l_3 l_3l l_3c] [.sc .slice] (fun (r9 : (Option Addr × Nat × Nat)) h10 =>
  callT Try.prog 34 [.int .i64 pages_1, .slice r9.1 r9.2.1 r9.2.2] [.sc .bool] (fun (r11 : Bool) h12 =>
  br (!(r7 == r11))
  (K (.bool false) h12)
  (cutT [] (fun (K13 : Unit → Heap → Prop) h16 =>
  callT Try.prog 36 [.int .i64 pages_1, .slice l_3 l_3l l_3c] [.sc .bool] (fun (r14 : Bool) h15 =>
  br r14
  (K (.bool true) h15)
  (br (decide (extra_2 < (0 : Int)))
  (K (.bool true) h15)
  (br (decide (extra_2 > (16 : Int)))
  (K (.bool true) h15)
  (K13 () h15)))) h16) (fun (_s17 : Unit) _ h18 =>
  callT Try.prog 37 [.int .i64 policy_0, .int .i64 pages_1, .slice l_3 l_3l l_3c] [.sc .slice] (fun (r19 : (Option Addr × Nat × Nat)) h20 =>
  callT Try.prog 35 [.slice l_3 l_3l l_3c] [.sc .slice] (fun (r21 : (Option Addr × Nat × Nat)) h22 =>
  callT Try.prog 39 [.int .i64 policy_0, .int .i64 pages_1, .slice r21.1 r21.2.1 r21.2.2] [.sc .slice] (fun (r23 : (Option Addr × Nat × Nat)) h24 =>
  callT Try.prog 38 [.slice r23.1 r23.2.1 r23.2.2] [.sc .slice] (fun (r25 : (Option Addr × Nat × Nat)) h26 =>
  callT Try.prog 20 [.slice r19.1 r19.2.1 r19.2.2, .slice r25.1 r25.2.1 r25.2.2] [.sc .bool] (fun (r27 : Bool) h28 =>
  br r27
  (callT Try.prog 40 [.int .i64 policy_0, .int .i64 pages_1, .int .i64 extra_2, .slice l_3 l_3l l_3c] [.sc .slice] (fun (r29 : (Option Addr × Nat × Nat)) h30 =>
  callT Try.prog 35 [.slice l_3 l_3l l_3c] [.sc .slice] (fun (r31 : (Option Addr × Nat × Nat)) h32 =>
  callT Try.prog 41 [.int .i64 policy_0, .int .i64 pages_1, .int .i64 extra_2, .slice r31.1 r31.2.1 r31.2.2] [.sc .slice] (fun (r33 : (Option Addr × Nat × Nat)) h34 =>
  callT Try.prog 20 [.slice r29.1 r29.2.1 r29.2.2, .slice r33.1 r33.2.1 r33.2.2] [.sc .bool] (fun (r35 : Bool) h36 =>
  K (.bool r35) h36) h34) h32) h30) h28)
  (K (.bool false) h28)) h26) h24) h22) h20) h18) h12)) h10) h8) h6) h2)) h0)
set_option maxRecDepth 100000 in
theorem F6_eq (policy_0 : Int) (pages_1 : Int) (extra_2 : Int) (l_3 : Option Addr) (l_3l l_3c : Nat) (K : Value → Heap → Prop) (h0 : Heap) : funWE Try.prog 6 (.seq (.leaf) (.seq (.seq (.leaf) (.cond (.seq (.leaf) (.leaf)) (.leaf))) (.cut [] (.seq (.leaf) (.cond (.seq (.leaf) (.leaf)) (.leaf))) (.seq (.seq (.leaf) (.cond (.seq (.leaf) (.leaf)) (.leaf))) (.cut [] (.seq (.leaf) (.cond (.seq (.leaf) (.leaf)) (.leaf))) (.seq (.leaf) (.leaf))))))) [.int .i64 policy_0, .int .i64 pages_1, .int .i64 extra_2, .slice l_3 l_3l l_3c] K h0 = F6 policy_0 pages_1 extra_2 l_3 l_3l l_3c K h0 := by kernel_rfl

-- function 7
set_option maxRecDepth 100000 in
def F7 (policy_0 : Int) (pages_1 : Int) (extra_2 : Int) (l_3 : Option Addr) (l_3l l_3c : Nat) (K : Value → Heap → Prop) (h0 : Heap) : Prop := (
  callT Try.prog 32 [] [.sc .bool] (fun (r1 : Bool) h2 =>
  br (!r1)
  (K (.bool false) h2)
  (cutT [] (fun (K3 : Unit → Heap → Prop) h6 =>
  callT Try.prog 36 [.int .i64 pages_1, .slice l_3 l_3l l_3c] [.sc .bool] (fun (r4 : Bool) h5 =>
  br r4
  (K (.bool true) h5)
  (br (decide (extra_2 < (0 : Int)))
  (K (.bool true) h5)
  (br (decide (extra_2 > pages_1))
  (K (.bool true) h5)
  (K3 () h5)))) h6) (fun (_s7 : Unit) _ h8 =>
  callT Try.prog 40 [.int .i64 policy_0, .int .i64 pages_1, .int .i64 extra_2, .slice l_3 l_3l l_3c] [.sc .slice] (fun (r9 : (Option Addr × Nat × Nat)) h10 =>
  loopT [.sc (.int .i64), .sc (.int .i64)] (fun (s12 : Int × Int) _ (K11 : (Int × Int) → Heap → Prop) h13 =>
  br (decide (s12.2 < (((l_3l : Nat) : Int))))
  (ptrW l_3 (fun a14 =>
  idxW s12.2 l_3l true (ldAggW [.int .i64, .int .i64, .int .u32] (Addr.add a14 (Int.toNat s12.2 * 3)) (fun (x15 : Int × Int × Int) =>
  newW (.cells (zeroC Try.prog 72) 72) (fun a16 h17 =>
  stLW a16 [.int .i64 x15.1, .int .i64 x15.2.1, .int .u32 x15.2.2] (fun h18 =>
  ldW (.int .i64) (Addr.add a16 1) (fun (x19 : Int) =>
  K11 ((IntKind.wrap .i64 (s12.1 + x19)), (IntKind.wrap .i64 (s12.2 + (1 : Int)))) h18) h18) h17) h13) h13)))
  (loopT [.sc (.int .i64), .sc (.int .i64)] (fun (s21 : Int × Int) _ (K20 : (Int × Int) → Heap → Prop) h22 =>
  br (decide (s21.2 < (((r9.2.1 : Nat) : Int))))
  (ptrW r9.1 (fun a23 =>
  idxW s21.2 r9.2.1 true (ldW (.int .i64) (Addr.add a23 (Int.toNat s21.2 * 1)) (fun (x24 : Int) =>
  loopT [.sc (.int .i64), .sc .bool, .sc (.int .i64)] (fun (s26 : Int × Bool × Int) _ (K25 : (Int × Bool × Int) → Heap → Prop) h27 =>
  br (decide (s26.2.2 < (((l_3l : Nat) : Int))))
  (ptrW l_3 (fun a28 =>
  idxW s26.2.2 l_3l true (ldAggW [.int .i64, .int .i64, .int .u32] (Addr.add a28 (Int.toNat s26.2.2 * 3)) (fun (x29 : Int × Int × Int) =>
  newW (.cells (zeroC Try.prog 72) 72) (fun a30 h31 =>
  stLW a30 [.int .i64 x29.1, .int .i64 x29.2.1, .int .u32 x29.2.2] (fun h32 =>
  ldW (.int .i64) (Addr.add a30 0) (fun (x33 : Int) =>
  br (x33 == x24)
  (ldW (.int .i64) (Addr.add a30 1) (fun (x34 : Int) =>
  K25 ((IntKind.wrap .i64 (s26.1 + x34)), true, (IntKind.wrap .i64 (s26.2.2 + (1 : Int)))) h32) h32)
  (K25 (s26.1, s26.2.1, (IntKind.wrap .i64 (s26.2.2 + (1 : Int)))) h32)) h32) h31) h27) h27)))
  (br (!s26.2.1)
  (K (.bool false) h27)
  (K20 (s26.1, (IntKind.wrap .i64 (s21.2 + (1 : Int)))) h27))) (s21.1, false, (0 : Int)) h22) h22)))
  (ckB (!decide (pages_1 = 0)) (cutT [] (fun (K35 : Unit → Heap → Prop) h36 =>
  br (decide ((((r9.2.1 : Nat) : Int)) > (0 : Int)))
  (br (decide ((IntKind.wrap .i64 (Int.tdiv (IntKind.wrap .i64 ((IntKind.wrap .i64 (s21.1 + pages_1)) - (1 : Int))) pages_1)) ≥ (((r9.2.1 : Nat) : Int))))
  (K (.bool false) h36)
  (br (decide ((IntKind.wrap .i64 (Int.tdiv (IntKind.wrap .i64 ((IntKind.wrap .i64 (s21.1 + pages_1)) - (1 : Int))) pages_1)) > (3 : Int)))
  (K (.bool false) h36)
  (br (decide ((((r9.2.1 : Nat) : Int)) > (((l_3l : Nat) : Int))))
  (K (.bool false) h36)
  (K35 () h36))))
  (K35 () h36)) (fun (_s37 : Unit) _ h38 =>
  br (decide ((((r9.2.1 : Nat) : Int)) > (0 : Int)))
  (K (.bool true) h38)
  (br (decide ((((l_3l : Nat) : Int)) < (4 : Int)))
  (K (.bool true) h38)
  (K (.bool (decide ((IntKind.wrap .i64 ((2 : Int) * s12.1)) > (IntKind.wrap .i64 ((((l_3l : Nat) : Int)) * pages_1))))) h38))) h22))) (extra_2, (0 : Int)) h13)) ((0 : Int), (0 : Int)) h10) h8) h2)) h0)
set_option maxRecDepth 100000 in
theorem F7_eq (policy_0 : Int) (pages_1 : Int) (extra_2 : Int) (l_3 : Option Addr) (l_3l l_3c : Nat) (K : Value → Heap → Prop) (h0 : Heap) : funWE Try.prog 7 (.seq (.leaf) (.seq (.seq (.leaf) (.cond (.seq (.leaf) (.leaf)) (.leaf))) (.cut [] (.seq (.leaf) (.cond (.seq (.leaf) (.leaf)) (.leaf))) (.seq (.leaf) (.seq (.leaf) (.seq (.seq (.leaf) (.block (.loop [(10, .sc (.int .i64)), (42, .sc (.int .i64))] (.seq (.leaf) (.seq (.cond (.leaf) (.leaf)) (.seq (.block (.seq (.leaf) (.leaf))) (.leaf))))))) (.seq (.seq (.leaf) (.block (.loop [(11, .sc (.int .i64)), (53, .sc (.int .i64))] (.seq (.leaf) (.seq (.cond (.leaf) (.leaf)) (.seq (.block (.seq (.leaf) (.seq (.leaf) (.seq (.seq (.leaf) (.block (.loop [(11, .sc (.int .i64)), (16, .sc .bool), (59, .sc (.int .i64))] (.seq (.leaf) (.seq (.cond (.leaf) (.leaf)) (.seq (.block (.seq (.leaf) (.seq (.leaf) (.cond (.seq (.leaf) (.leaf)) (.leaf))))) (.leaf))))))) (.seq (.leaf) (.cond (.seq (.leaf) (.leaf)) (.leaf))))))) (.leaf))))))) (.seq (.leaf) (.cut [] (.seq (.leaf) (.cond (.seq (.leaf) (.leaf)) (.leaf))) (.seq (.leaf) (.leaf))))))))))) [.int .i64 policy_0, .int .i64 pages_1, .int .i64 extra_2, .slice l_3 l_3l l_3c] K h0 = F7 policy_0 pages_1 extra_2 l_3 l_3l l_3c K h0 := by kernel_rfl

-- function 8
set_option maxRecDepth 100000 in
def F8 (policy_0 : Int) (pages_1 : Int) (extra_2 : Int) (l_3 : Option Addr) (l_3l l_3c : Nat) (turn_4 : Int) (K : Value → Heap → Prop) (h0 : Heap) : Prop := (
  callT Try.prog 32 [] [.sc .bool] (fun (r1 : Bool) h2 =>
  br (!r1)
  (K (.bool false) h2)
  (cutT [] (fun (K3 : Unit → Heap → Prop) h6 =>
  callT Try.prog 36 [.int .i64 pages_1, .slice l_3 l_3l l_3c] [.sc .bool] (fun (r4 : Bool) h5 =>
  br r4
  (K (.bool true) h5)
  (br (decide (extra_2 < (0 : Int)))
  (K (.bool true) h5)
  (br (decide (extra_2 > (16 : Int)))
  (K (.bool true) h5)
  (br (decide (turn_4 < (0 : Int)))
  (K (.bool true) h5)
  (br (decide (turn_4 > (((l_3l : Nat) : Int))))
  (K (.bool true) h5)
  (K3 () h5)))))) h6) (fun (_s7 : Unit) _ h8 =>
  slW l_3 l_3c 3 turn_4 (((l_3l : Nat) : Int)) (((l_3c : Nat) : Int)) (fun b9 n10 c11 =>
  slW l_3 l_3c 3 (0 : Int) turn_4 (((l_3c : Nat) : Int)) (fun b12 n13 c14 =>
  newW (.cells #[] 72) (fun a15 h16 =>
  apW Try.prog #[60, 60] #[.slice (some a15) 0 0, .slice b9 n10 c11] (fun b17 n18 c19 h20 =>
  apW Try.prog #[60, 60] #[.slice b17 n18 c19, .slice b12 n13 c14] (fun b21 n22 c23 h24 =>
  callT Try.prog 37 [.int .i64 policy_0, .int .i64 pages_1, .slice l_3 l_3l l_3c] [.sc .slice] (fun (r25 : (Option Addr × Nat × Nat)) h26 =>
  cutT [] (fun (K27 : Unit → Heap → Prop) h38 =>
  callT Try.prog 37 [.int .i64 policy_0, .int .i64 pages_1, .slice b21 n22 c23] [.sc .slice] (fun (r28 : (Option Addr × Nat × Nat)) h29 =>
  callT Try.prog 20 [.slice r25.1 r25.2.1 r25.2.2, .slice r28.1 r28.2.1 r28.2.2] [.sc .bool] (fun (r30 : Bool) h31 =>
  br (!r30)
  (K (.bool false) h31)
  (callT Try.prog 40 [.int .i64 policy_0, .int .i64 pages_1, .int .i64 extra_2, .slice l_3 l_3l l_3c] [.sc .slice] (fun (r32 : (Option Addr × Nat × Nat)) h33 =>
  callT Try.prog 40 [.int .i64 policy_0, .int .i64 pages_1, .int .i64 extra_2, .slice b21 n22 c23] [.sc .slice] (fun (r34 : (Option Addr × Nat × Nat)) h35 =>
  callT Try.prog 20 [.slice r32.1 r32.2.1 r32.2.2, .slice r34.1 r34.2.1 r34.2.2] [.sc .bool] (fun (r36 : Bool) h37 =>
  br (!r36)
  (K (.bool false) h37)
  (br ((((r25.2.1 : Nat) : Int)) != (((l_3l : Nat) : Int)))
  (K (.bool false) h37)
  (K27 () h37))) h35) h33) h31)) h29) h38) (fun (_s39 : Unit) _ h40 =>
  loopT [.sc (.int .i64), .sc (.int .i64)] (fun (s42 : Int × Int) _ (K41 : (Int × Int) → Heap → Prop) h43 =>
  br (decide (s42.2 < (((r25.2.1 : Nat) : Int))))
  (ptrW r25.1 (fun a44 =>
  idxW s42.2 r25.2.1 true (ldW (.int .i64) (Addr.add a44 (Int.toNat s42.2 * 1)) (fun (x45 : Int) =>
  loopT [.sc (.int .i64), .sc (.int .i64), .sc (.int .i64)] (fun (s47 : Int × Int × Int) _ (K46 : (Int × Int × Int) → Heap → Prop) h48 =>
  br (decide (s47.2.2 < (((l_3l : Nat) : Int))))
  (ptrW l_3 (fun a49 =>
  idxW s47.2.2 l_3l true (ldAggW [.int .i64, .int .i64, .int .u32] (Addr.add a49 (Int.toNat s47.2.2 * 3)) (fun (x50 : Int × Int × Int) =>
  newW (.cells (zeroC Try.prog 72) 72) (fun a51 h52 =>
  stLW a51 [.int .i64 x50.1, .int .i64 x50.2.1, .int .u32 x50.2.2] (fun h53 =>
  ldW (.int .i64) (Addr.add a51 0) (fun (x54 : Int) =>
  br (x54 == x45)
  (cutT [.sc .bool] (fun (K55 : Bool → Heap → Prop) h57 =>
  br (policy_0 == (0 : Int))
  (ldW (.int .i64) (Addr.add a51 1) (fun (x56 : Int) =>
  K55 (decide (x56 < s47.1)) h57) h57)
  (K55 false h57)) (fun (s58 : Bool) _ h59 =>
  br s58
  (K (.bool false) h59)
  (ldW (.int .i64) (Addr.add a51 1) (fun (x60 : Int) =>
  K46 (x60, (IntKind.wrap .i64 (s47.2.1 + (1 : Int))), (IntKind.wrap .i64 (s47.2.2 + (1 : Int)))) h59) h59)) h53)
  (K46 (s47.1, s47.2.1, (IntKind.wrap .i64 (s47.2.2 + (1 : Int)))) h53)) h53) h52) h48) h48)))
  (br (s47.2.1 != (1 : Int))
  (K (.bool false) h48)
  (K41 (s47.1, (IntKind.wrap .i64 (s42.2 + (1 : Int)))) h48))) (s42.1, (0 : Int), (0 : Int)) h43) h43)))
  (K (.bool true) h43)) ((0 : Int), (0 : Int)) h40) h26) h24) h20) h16) h8))) h2)) h0)
set_option maxRecDepth 100000 in
theorem F8_eq (policy_0 : Int) (pages_1 : Int) (extra_2 : Int) (l_3 : Option Addr) (l_3l l_3c : Nat) (turn_4 : Int) (K : Value → Heap → Prop) (h0 : Heap) : funWE Try.prog 8 (.seq (.leaf) (.seq (.seq (.leaf) (.cond (.seq (.leaf) (.leaf)) (.leaf))) (.cut [] (.seq (.leaf) (.cond (.seq (.leaf) (.leaf)) (.leaf))) (.seq (.draw (odp [1, 2, 3, 5, 6, 7, 0, 4, 8, 9] .nil) []) (.seq (.leaf) (.cut [] (.seq (.leaf) (.cond (.seq (.leaf) (.leaf)) (.leaf))) (.seq (.leaf) (.seq (.seq (.leaf) (.block (.loop [(13, .sc (.int .i64)), (85, .sc (.int .i64))] (.seq (.leaf) (.seq (.cond (.leaf) (.leaf)) (.seq (.block (.seq (.leaf) (.seq (.leaf) (.seq (.seq (.leaf) (.block (.loop [(13, .sc (.int .i64)), (16, .sc (.int .i64)), (91, .sc (.int .i64))] (.seq (.leaf) (.seq (.cond (.leaf) (.leaf)) (.seq (.block (.seq (.leaf) (.seq (.leaf) (.cond (.seq (.leaf) (.seq (.cut [(108, .sc .bool)] (.leaf) (.cond (.seq (.leaf) (.leaf)) (.leaf))) (.leaf))) (.leaf))))) (.leaf))))))) (.seq (.leaf) (.cond (.seq (.leaf) (.leaf)) (.leaf))))))) (.leaf))))))) (.seq (.leaf) (.leaf)))))))))) [.int .i64 policy_0, .int .i64 pages_1, .int .i64 extra_2, .slice l_3 l_3l l_3c, .int .i64 turn_4] K h0 = F8 policy_0 pages_1 extra_2 l_3 l_3l l_3c turn_4 K h0 := by kernel_rfl

-- function 9
set_option maxRecDepth 100000 in
def F9 (pages_0 : Int) (extra_1 : Int) (l_2 : Option Addr) (l_2l l_2c : Nat) (fewer_3 : Option Addr) (fewer_3l _fewer_3c : Nat) (K : Value → Heap → Prop) (h0 : Heap) : Prop := (
  callT Try.prog 32 [] [.sc .bool] (fun (r1 : Bool) h2 =>
  br (!r1)
  (K (.bool false) h2)
  (cutT [] (fun (K3 : Unit → Heap → Prop) h6 =>
  callT Try.prog 36 [.int .i64 pages_0, .slice l_2 l_2l l_2c] [.sc .bool] (fun (r4 : Bool) h5 =>
  br r4
  (K (.bool true) h5)
  (br (decide (extra_1 < (0 : Int)))
  (K (.bool true) h5)
  (br (decide (extra_1 > (16 : Int)))
  (K (.bool true) h5)
  (br (decide ((((fewer_3l : Nat) : Int)) > (60 : Int)))
  (K (.bool true) h5)
  (K3 () h5))))) h6) (fun (_s7 : Unit) _ h8 =>
  newW (.cells #[] 72) (fun a9 h10 =>
  apW Try.prog #[60, 60] #[.slice (some a9) 0 0, .slice l_2 l_2l l_2c] (fun b11 n12 c13 h14 =>
  loopT [.sc (.int .i64)] (fun (s16 : Int) _ (K15 : Int → Heap → Prop) h17 =>
  br (decide (s16 < (((n12 : Nat) : Int))))
  (cutT [.sc .bool] (fun (K18 : Bool → Heap → Prop) h21 =>
  br (decide (s16 < (((fewer_3l : Nat) : Int))))
  (ptrW fewer_3 (fun a19 =>
  idxW s16 fewer_3l true (ldW (.int .i64) (Addr.add a19 (Int.toNat s16 * 1)) (fun (x20 : Int) =>
  K18 (decide (x20 > (0 : Int))) h21) h21)))
  (K18 false h21)) (fun (s22 : Bool) _ h23 =>
  br s22
  (ptrW b11 (fun a24 =>
  idxW s16 n12 true (ldW (.int .i64) (Addr.add (Addr.add a24 (Int.toNat s16 * 3)) 1) (fun (x25 : Int) =>
  ptrW fewer_3 (fun a26 =>
  idxW s16 fewer_3l true (ldW (.int .i64) (Addr.add a26 (Int.toNat s16 * 1)) (fun (x27 : Int) =>
  ptrW b11 (fun a28 =>
  idxW s16 n12 true (stW (Addr.add (Addr.add a28 (Int.toNat s16 * 3)) 1) (.int .i64 (mm2 true (IntKind.wrap .i64 (x25 - (mm2 false x27 (16 : Int)))) (0 : Int))) (fun h29 =>
  K15 (IntKind.wrap .i64 (s16 + (1 : Int))) h29) h23))) h23))) h23)))
  (K15 (IntKind.wrap .i64 (s16 + (1 : Int))) h23)) h17)
  (callT Try.prog 40 [.int .i64 0, .int .i64 pages_0, .int .i64 extra_1, .slice l_2 l_2l l_2c] [.sc .slice] (fun (r30 : (Option Addr × Nat × Nat)) h31 =>
  callT Try.prog 40 [.int .i64 0, .int .i64 pages_0, .int .i64 extra_1, .slice b11 n12 c13] [.sc .slice] (fun (r32 : (Option Addr × Nat × Nat)) h33 =>
  br ((((r30.2.1 : Nat) : Int)) == (0 : Int))
  (K (.bool true) h33)
  (br (decide ((((r32.2.1 : Nat) : Int)) > (0 : Int)))
  (K (.bool (decide ((((r32.2.1 : Nat) : Int)) ≤ (((r30.2.1 : Nat) : Int))))) h33)
  (K (.bool false) h33))) h31) h17)) (0 : Int) h14) h10) h8) h2)) h0)
set_option maxRecDepth 100000 in
theorem F9_eq (pages_0 : Int) (extra_1 : Int) (l_2 : Option Addr) (l_2l l_2c : Nat) (fewer_3 : Option Addr) (fewer_3l fewer_3c : Nat) (K : Value → Heap → Prop) (h0 : Heap) : funWE Try.prog 9 (.seq (.leaf) (.seq (.seq (.leaf) (.cond (.seq (.leaf) (.leaf)) (.leaf))) (.cut [] (.seq (.leaf) (.cond (.seq (.leaf) (.leaf)) (.leaf))) (.seq (.leaf) (.seq (.seq (.leaf) (.block (.loop [(36, .sc (.int .i64))] (.seq (.leaf) (.seq (.cond (.leaf) (.leaf)) (.seq (.block (.seq (.leaf) (.cut [(49, .sc .bool)] (.leaf) (.cond (.draw (odp [0, 1, 2, 3, 4, 5, 6, 7, 8, 9, 10, 11, 12, 13, 14, 15, 16] .nil) []) (.leaf))))) (.leaf))))))) (.seq (.leaf) (.seq (.leaf) (.leaf)))))))) [.int .i64 pages_0, .int .i64 extra_1, .slice l_2 l_2l l_2c, .slice fewer_3 fewer_3l fewer_3c] K h0 = F9 pages_0 extra_1 l_2 l_2l l_2c fewer_3 fewer_3l fewer_3c K h0 := by kernel_rfl

end Go.Proofs.Yticppjmldlhbiaa.W
