/-
  The formulas of the laws of ckpt. Each formula checked by the kernel. Printed by a program of this repo.
-/
import Derived.Test.YthimfpkkdhpceaaDoorProg
import Derived.Test.YthimfpkkdhpceaaDoorPl
namespace Go.Proofs.YthimfpkkdhpceaaDoor.W
open Go.Pl

-- function 9
set_option maxRecDepth 100000 in
def F9  (K : Value → Heap → Prop) (h0 : Heap) : Prop := (
  newW (.cells #[.int .u32 4, .int .u32 0] 22) (fun a1 h2 =>
  newW (.cells (zeroC Tryd.prog 27) 27) (fun a3 h4 =>
  stLW a3 [.int .u32 1, .int .u32 2, .int .u32 3, .int .i64 11, .int .i64 4, .int .i64 6, .slice (some a1) 2 2] (fun h5 =>
  ldAggW [.int .u32, .int .u32, .int .u32, .int .i64, .int .i64, .int .i64, .slice] a3 (fun (x6 : Int × Int × Int × Int × Int × Int × (Option Addr × Nat × Nat)) =>
  callT Tryd.prog 11 [.agg #[.int .u32 x6.1, .int .u32 x6.2.1, .int .u32 x6.2.2.1, .int .i64 x6.2.2.2.1, .int .i64 x6.2.2.2.2.1, .int .i64 x6.2.2.2.2.2.1, .slice x6.2.2.2.2.2.2.1 x6.2.2.2.2.2.2.2.1 x6.2.2.2.2.2.2.2.2]] [.sc .slice, .sc .any] (fun (r7 : (Option Addr × Nat × Nat) × Value) h8 =>
  callT Tryd.prog 14 [.slice r7.1.1 r7.1.2.1 r7.1.2.2] [.agg [.int .u32, .int .u32, .int .u32, .int .i64, .int .i64, .int .i64, .slice], .sc .any] (fun (r9 : (Int × Int × Int × Int × Int × Int × (Option Addr × Nat × Nat)) × Value) h10 =>
  newW (.cells (zeroC Tryd.prog 27) 27) (fun a11 h12 =>
  stLW a11 [.int .u32 r9.1.1, .int .u32 r9.1.2.1, .int .u32 r9.1.2.2.1, .int .i64 r9.1.2.2.2.1, .int .i64 r9.1.2.2.2.2.1, .int .i64 r9.1.2.2.2.2.2.1, .slice r9.1.2.2.2.2.2.2.1 r9.1.2.2.2.2.2.2.2.1 r9.1.2.2.2.2.2.2.2.2] (fun h13 =>
  callT Tryd.prog 14 [.slice none 0 0] [.agg [.int .u32, .int .u32, .int .u32, .int .i64, .int .i64, .int .i64, .slice], .sc .any] (fun (r14 : (Int × Int × Int × Int × Int × Int × (Option Addr × Nat × Nat)) × Value) h15 =>
  newW (.cells (zeroC Tryd.prog 27) 27) (fun a16 h17 =>
  stLW a16 [.int .u32 r14.1.1, .int .u32 r14.1.2.1, .int .u32 r14.1.2.2.1, .int .i64 r14.1.2.2.2.1, .int .i64 r14.1.2.2.2.2.1, .int .i64 r14.1.2.2.2.2.2.1, .slice r14.1.2.2.2.2.2.2.1 r14.1.2.2.2.2.2.2.2.1 r14.1.2.2.2.2.2.2.2.2] (fun h18 =>
  callT Tryd.prog 16 [.int .i64 6] [.sc (.int .i64)] (fun (r19 : Int) h20 =>
  br (r19 == (3 : Int))
  (br ((((r7.1.2.1 : Nat) : Int)) == (3 : Int))
  (ifW r7.2 (br (isNilV r7.2)
  (ldAggW [.int .u32, .int .u32, .int .u32, .int .i64, .int .i64, .int .i64, .slice] a3 (fun (x21 : Int × Int × Int × Int × Int × Int × (Option Addr × Nat × Nat)) =>
  ldAggW [.int .u32, .int .u32, .int .u32, .int .i64, .int .i64, .int .i64, .slice] a11 (fun (x22 : Int × Int × Int × Int × Int × Int × (Option Addr × Nat × Nat)) =>
  callT Tryd.prog 23 [.agg #[.int .u32 x21.1, .int .u32 x21.2.1, .int .u32 x21.2.2.1, .int .i64 x21.2.2.2.1, .int .i64 x21.2.2.2.2.1, .int .i64 x21.2.2.2.2.2.1, .slice x21.2.2.2.2.2.2.1 x21.2.2.2.2.2.2.2.1 x21.2.2.2.2.2.2.2.2], .agg #[.int .u32 x22.1, .int .u32 x22.2.1, .int .u32 x22.2.2.1, .int .i64 x22.2.2.2.1, .int .i64 x22.2.2.2.2.1, .int .i64 x22.2.2.2.2.2.1, .slice x22.2.2.2.2.2.2.1 x22.2.2.2.2.2.2.2.1 x22.2.2.2.2.2.2.2.2]] [.sc .bool] (fun (r23 : Bool) h24 =>
  br r23
  (ifW r9.2 (br (isNilV r9.2)
  (ldAggW [.int .u32, .int .u32, .int .u32, .int .i64, .int .i64, .int .i64, .slice] a3 (fun (x25 : Int × Int × Int × Int × Int × Int × (Option Addr × Nat × Nat)) =>
  callT Tryd.prog 21 [.agg #[.int .u32 x25.1, .int .u32 x25.2.1, .int .u32 x25.2.2.1, .int .i64 x25.2.2.2.1, .int .i64 x25.2.2.2.2.1, .int .i64 x25.2.2.2.2.2.1, .slice x25.2.2.2.2.2.2.1 x25.2.2.2.2.2.2.2.1 x25.2.2.2.2.2.2.2.2]] [.sc .bool] (fun (r26 : Bool) h27 =>
  br r26
  (callT Tryd.prog 21 [.agg #[.int .u32 0, .int .u32 0, .int .u32 0, .int .i64 0, .int .i64 0, .int .i64 0, .slice none 0 0]] [.sc .bool] (fun (r28 : Bool) h29 =>
  br (!r28)
  (callT Tryd.prog 19 [r14.2] [.sc (.int .i64)] (fun (r30 : Int) h31 =>
  K (.bool (r30 == (3 : Int))) h31) h29)
  (K (.bool false) h29)) h27)
  (K (.bool false) h27)) h24) h24)
  (K (.bool false) h24)))
  (K (.bool false) h24)) h20) h20) h20)
  (K (.bool false) h20)))
  (K (.bool false) h20))
  (K (.bool false) h20)) h18) h17) h15) h13) h12) h10) h8) h5) h5) h4) h2) h0)
set_option maxRecDepth 100000 in
theorem F9_eq  (K : Value → Heap → Prop) (h0 : Heap) : funWE Tryd.prog 9 (.seq (.leaf) (.seq (.leaf) (.seq (.leaf) (.seq (.leaf) (.seq (.leaf) (.seq (.leaf) (.leaf))))))) [] K h0 = F9  K h0 := by kernel_rfl

-- function 13
set_option maxRecDepth 100000 in
def F13 (c_0_0 : Int) (c_0_1 : Int) (c_0_2 : Int) (c_0_3 : Int) (c_0_4 : Int) (c_0_5 : Int) (c_0_6 : Option Addr) (c_0_6l c_0_6c : Nat) (K : Value → Heap → Prop) (h0 : Heap) : Prop := (
  newW (.cells #[.int .u32 c_0_0, .int .u32 c_0_1, .int .u32 c_0_2, .int .i64 c_0_3, .int .i64 c_0_4, .int .i64 c_0_5, .slice c_0_6 c_0_6l c_0_6c] 27) (fun a1 h2 =>
  newW (.cells (zeroC Tryd.prog 40) 40) (fun a3 h4 =>
  ldW (.int .u32) (Addr.add a1 0) (fun (x5 : Int) =>
  ldW (.int .u32) (Addr.add a1 1) (fun (x6 : Int) =>
  ldW (.int .u32) (Addr.add a1 2) (fun (x7 : Int) =>
  ldAggW [.int .i64, .int .i64, .int .i64] (Addr.add a1 3) (fun (x8 : Int × Int × Int) =>
  ldW .slice (Addr.add a1 6) (fun (x9 : Option Addr × Nat × Nat) =>
  stLW a3 [.int .u32 x5, .int .u32 x6, .int .u32 x7, .int .i64 x8.1, .int .i64 x8.2.1, .int .i64 x8.2.2, .slice x9.1 x9.2.1 x9.2.2] (fun h10 =>
  ldAggW [.int .u32, .int .u32, .int .u32, .int .i64, .int .i64, .int .i64, .slice] a3 (fun (x11 : Int × Int × Int × Int × Int × Int × (Option Addr × Nat × Nat)) =>
  K (.agg #[.int .u32 x11.1, .int .u32 x11.2.1, .int .u32 x11.2.2.1, .int .i64 x11.2.2.2.1, .int .i64 x11.2.2.2.2.1, .int .i64 x11.2.2.2.2.2.1, .slice x11.2.2.2.2.2.2.1 x11.2.2.2.2.2.2.2.1 x11.2.2.2.2.2.2.2.2]) h10) h10) h4) h4) h4) h4) h4) h4) h2) h0)
set_option maxRecDepth 100000 in
theorem F13_eq (c_0_0 : Int) (c_0_1 : Int) (c_0_2 : Int) (c_0_3 : Int) (c_0_4 : Int) (c_0_5 : Int) (c_0_6 : Option Addr) (c_0_6l c_0_6c : Nat) (K : Value → Heap → Prop) (h0 : Heap) : funWE Tryd.prog 13 (.seq (.leaf) (.seq (.leaf) (.leaf))) [.agg #[.int .u32 c_0_0, .int .u32 c_0_1, .int .u32 c_0_2, .int .i64 c_0_3, .int .i64 c_0_4, .int .i64 c_0_5, .slice c_0_6 c_0_6l c_0_6c]] K h0 = F13 c_0_0 c_0_1 c_0_2 c_0_3 c_0_4 c_0_5 c_0_6 c_0_6l c_0_6c K h0 := by kernel_rfl

-- function 18
set_option maxRecDepth 100000 in
def F18 (a_0 : Option Addr) (a_0l _a_0c : Nat) (b_1 : Option Addr) (b_1l _b_1c : Nat) (K : Value → Heap → Prop) (h0 : Heap) : Prop := (
  br ((((a_0l : Nat) : Int)) != (((b_1l : Nat) : Int)))
  (K (.bool false) h0)
  (loopT [.sc (.int .i64)] (fun (s2 : Int) _ (K1 : Int → Heap → Prop) h3 =>
  br (decide (s2 < (((a_0l : Nat) : Int))))
  (ptrW a_0 (fun a4 =>
  idxW s2 a_0l true (ldW .slice (Addr.add a4 (Int.toNat s2 * 1)) (fun (x5 : Option Addr × Nat × Nat) =>
  ptrW b_1 (fun a6 =>
  idxW s2 b_1l true (ldW .slice (Addr.add a6 (Int.toNat s2 * 1)) (fun (x7 : Option Addr × Nat × Nat) =>
  callT Tryd.prog 60 [.slice x5.1 x5.2.1 x5.2.2, .slice x7.1 x7.2.1 x7.2.2] [.sc .bool] (fun (r8 : Bool) h9 =>
  br (!r8)
  (K (.bool false) h9)
  (K1 (IntKind.wrap .i64 (s2 + (1 : Int))) h9)) h3) h3))) h3)))
  (K (.bool true) h3)) (0 : Int) h0))
set_option maxRecDepth 100000 in
theorem F18_eq (a_0 : Option Addr) (a_0l a_0c : Nat) (b_1 : Option Addr) (b_1l b_1c : Nat) (K : Value → Heap → Prop) (h0 : Heap) : funWE Tryd.prog 18 (.seq (.leaf) (.seq (.seq (.leaf) (.cond (.seq (.leaf) (.leaf)) (.leaf))) (.seq (.seq (.leaf) (.block (.loop [(13, .sc (.int .i64))] (.seq (.leaf) (.seq (.cond (.leaf) (.leaf)) (.seq (.block (.seq (.leaf) (.seq (.draw (odp [0, 1, 2, 3, 4, 5, 6, 7, 8, 9] .nil) []) (.cond (.seq (.leaf) (.leaf)) (.leaf))))) (.leaf))))))) (.seq (.leaf) (.leaf))))) [.slice a_0 a_0l a_0c, .slice b_1 b_1l b_1c] K h0 = F18 a_0 a_0l a_0c b_1 b_1l b_1c K h0 := by kernel_rfl

-- function 10
set_option maxRecDepth 100000 in
def F10 (l_0 : Option Addr) (l_0l _l_0c : Nat) (K : Value → Heap → Prop) (h0 : Heap) : Prop := (
  br (decide ((((l_0l : Nat) : Int)) > (40 : Int)))
  (K (.bool true) h0)
  (loopT [.sc (.int .i64)] (fun (s2 : Int) _ (K1 : Int → Heap → Prop) h3 =>
  br (decide (s2 < (((l_0l : Nat) : Int))))
  (ptrW l_0 (fun a4 =>
  idxW s2 l_0l true (ldW .slice (Addr.add a4 (Int.toNat s2 * 1)) (fun (x5 : Option Addr × Nat × Nat) =>
  br (decide ((((x5.2.1 : Nat) : Int)) > (100 : Int)))
  (K (.bool true) h3)
  (K1 (IntKind.wrap .i64 (s2 + (1 : Int))) h3)) h3)))
  (K (.bool false) h3)) (0 : Int) h0))
set_option maxRecDepth 100000 in
theorem F10_eq (l_0 : Option Addr) (l_0l l_0c : Nat) (K : Value → Heap → Prop) (h0 : Heap) : funWE Tryd.prog 10 (.seq (.leaf) (.seq (.seq (.leaf) (.cond (.seq (.leaf) (.leaf)) (.leaf))) (.seq (.seq (.leaf) (.block (.loop [(10, .sc (.int .i64))] (.seq (.leaf) (.seq (.cond (.leaf) (.leaf)) (.seq (.block (.seq (.leaf) (.seq (.leaf) (.cond (.seq (.leaf) (.leaf)) (.leaf))))) (.leaf))))))) (.seq (.leaf) (.leaf))))) [.slice l_0 l_0l l_0c] K h0 = F10 l_0 l_0l l_0c K h0 := by kernel_rfl

-- function 4
set_option maxRecDepth 100000 in
def F4 (c_0_0 : Int) (c_0_1 : Int) (c_0_2 : Int) (c_0_3 : Int) (c_0_4 : Int) (c_0_5 : Int) (c_0_6 : Option Addr) (c_0_6l c_0_6c : Nat) (l_1 : Option Addr) (l_1l l_1c : Nat) (K : Value → Heap → Prop) (h0 : Heap) : Prop := (
  newW (.cells #[.int .u32 c_0_0, .int .u32 c_0_1, .int .u32 c_0_2, .int .i64 c_0_3, .int .i64 c_0_4, .int .i64 c_0_5, .slice c_0_6 c_0_6l c_0_6c] 27) (fun a1 h2 =>
  callT Tryd.prog 9 [] [.sc .bool] (fun (r3 : Bool) h4 =>
  br (!r3)
  (K (.bool false) h4)
  (cutT [] (fun (K5 : Unit → Heap → Prop) h9 =>
  callT Tryd.prog 10 [.slice l_1 l_1l l_1c] [.sc .bool] (fun (r6 : Bool) h7 =>
  br r6
  (K (.bool true) h7)
  (ldW .slice (Addr.add a1 6) (fun (x8 : Option Addr × Nat × Nat) =>
  br (decide ((((x8.2.1 : Nat) : Int)) > (100 : Int)))
  (K (.bool true) h7)
  (K5 () h7)) h7)) h9) (fun (_s10 : Unit) _ h11 =>
  ldAggW [.int .u32, .int .u32, .int .u32, .int .i64, .int .i64, .int .i64, .slice] a1 (fun (x12 : Int × Int × Int × Int × Int × Int × (Option Addr × Nat × Nat)) =>
  callT Tryd.prog 11 [.agg #[.int .u32 x12.1, .int .u32 x12.2.1, .int .u32 x12.2.2.1, .int .i64 x12.2.2.2.1, .int .i64 x12.2.2.2.2.1, .int .i64 x12.2.2.2.2.2.1, .slice x12.2.2.2.2.2.2.1 x12.2.2.2.2.2.2.2.1 x12.2.2.2.2.2.2.2.2]] [.sc .slice, .sc .any] (fun (r13 : (Option Addr × Nat × Nat) × Value) h14 =>
  ifW r13.2 (ldAggW [.int .u32, .int .u32, .int .u32, .int .i64, .int .i64, .int .i64, .slice] a1 (fun (x15 : Int × Int × Int × Int × Int × Int × (Option Addr × Nat × Nat)) =>
  callT Tryd.prog 21 [.agg #[.int .u32 x15.1, .int .u32 x15.2.1, .int .u32 x15.2.2.1, .int .i64 x15.2.2.2.1, .int .i64 x15.2.2.2.2.1, .int .i64 x15.2.2.2.2.2.1, .slice x15.2.2.2.2.2.2.1 x15.2.2.2.2.2.2.2.1 x15.2.2.2.2.2.2.2.2]] [.sc .bool] (fun (r16 : Bool) h17 =>
  br (!((isNilV r13.2) == r16))
  (K (.bool false) h17)
  (cutT [] (fun (K18 : Unit → Heap → Prop) h32 =>
  ifW r13.2 (br (isNilV r13.2)
  (callT Tryd.prog 14 [.slice r13.1.1 r13.1.2.1 r13.1.2.2] [.agg [.int .u32, .int .u32, .int .u32, .int .i64, .int .i64, .int .i64, .slice], .sc .any] (fun (r19 : (Int × Int × Int × Int × Int × Int × (Option Addr × Nat × Nat)) × Value) h20 =>
  newW (.cells (zeroC Tryd.prog 27) 27) (fun a21 h22 =>
  stLW a21 [.int .u32 r19.1.1, .int .u32 r19.1.2.1, .int .u32 r19.1.2.2.1, .int .i64 r19.1.2.2.2.1, .int .i64 r19.1.2.2.2.2.1, .int .i64 r19.1.2.2.2.2.2.1, .slice r19.1.2.2.2.2.2.2.1 r19.1.2.2.2.2.2.2.2.1 r19.1.2.2.2.2.2.2.2.2] (fun h23 =>
  ifW r19.2 (br (!(isNilV r19.2))
  (K (.bool false) h23)
  (ldAggW [.int .u32, .int .u32, .int .u32, .int .i64, .int .i64, .int .i64, .slice] a1 (fun (x24 : Int × Int × Int × Int × Int × Int × (Option Addr × Nat × Nat)) =>
  ldAggW [.int .u32, .int .u32, .int .u32, .int .i64, .int .i64, .int .i64, .slice] a21 (fun (x25 : Int × Int × Int × Int × Int × Int × (Option Addr × Nat × Nat)) =>
  callT Tryd.prog 23 [.agg #[.int .u32 x24.1, .int .u32 x24.2.1, .int .u32 x24.2.2.1, .int .i64 x24.2.2.2.1, .int .i64 x24.2.2.2.2.1, .int .i64 x24.2.2.2.2.2.1, .slice x24.2.2.2.2.2.2.1 x24.2.2.2.2.2.2.2.1 x24.2.2.2.2.2.2.2.2], .agg #[.int .u32 x25.1, .int .u32 x25.2.1, .int .u32 x25.2.2.1, .int .i64 x25.2.2.2.1, .int .i64 x25.2.2.2.2.1, .int .i64 x25.2.2.2.2.2.1, .slice x25.2.2.2.2.2.2.1 x25.2.2.2.2.2.2.2.1 x25.2.2.2.2.2.2.2.2]] [.sc .bool] (fun (r26 : Bool) h27 =>
  br (!r26)
  (K (.bool false) h27)
  (ldW (.int .i64) (Addr.add (Addr.add a1 3) 1) (fun (x28 : Int) =>
  br (decide ((((r13.1.2.1 : Nat) : Int)) > x28))
  (K (.bool false) h27)
  (ldW (.int .i64) (Addr.add (Addr.add a1 3) 2) (fun (x29 : Int) =>
  callT Tryd.prog 16 [.int .i64 x29] [.sc (.int .i64)] (fun (r30 : Int) h31 =>
  br ((((r13.1.2.1 : Nat) : Int)) != r30)
  (K (.bool false) h31)
  (K18 () h31)) h27) h27)) h27)) h23) h23) h23))) h22) h20) h32)
  (K18 () h32))) (fun (_s33 : Unit) _ h34 =>
  callT Tryd.prog 14 [.slice l_1 l_1l l_1c] [.agg [.int .u32, .int .u32, .int .u32, .int .i64, .int .i64, .int .i64, .slice], .sc .any] (fun (r35 : (Int × Int × Int × Int × Int × Int × (Option Addr × Nat × Nat)) × Value) h36 =>
  newW (.cells (zeroC Tryd.prog 27) 27) (fun a37 h38 =>
  stLW a37 [.int .u32 r35.1.1, .int .u32 r35.1.2.1, .int .u32 r35.1.2.2.1, .int .i64 r35.1.2.2.2.1, .int .i64 r35.1.2.2.2.2.1, .int .i64 r35.1.2.2.2.2.2.1, .slice r35.1.2.2.2.2.2.2.1 r35.1.2.2.2.2.2.2.2.1 r35.1.2.2.2.2.2.2.2.2] (fun h39 =>
  ifW r35.2 (br (!(isNilV r35.2))
  (ldAggW [.int .u32, .int .u32, .int .u32, .int .i64, .int .i64, .int .i64, .slice] a37 (fun (x40 : Int × Int × Int × Int × Int × Int × (Option Addr × Nat × Nat)) =>
  callT Tryd.prog 23 [.agg #[.int .u32 x40.1, .int .u32 x40.2.1, .int .u32 x40.2.2.1, .int .i64 x40.2.2.2.1, .int .i64 x40.2.2.2.2.1, .int .i64 x40.2.2.2.2.2.1, .slice x40.2.2.2.2.2.2.1 x40.2.2.2.2.2.2.2.1 x40.2.2.2.2.2.2.2.2], .agg #[.int .u32 0, .int .u32 0, .int .u32 0, .int .i64 0, .int .i64 0, .int .i64 0, .slice none 0 0]] [.sc .bool] (fun (r41 : Bool) h42 =>
  K (.bool r41) h42) h39) h39)
  (ldAggW [.int .u32, .int .u32, .int .u32, .int .i64, .int .i64, .int .i64, .slice] a37 (fun (x43 : Int × Int × Int × Int × Int × Int × (Option Addr × Nat × Nat)) =>
  callT Tryd.prog 11 [.agg #[.int .u32 x43.1, .int .u32 x43.2.1, .int .u32 x43.2.2.1, .int .i64 x43.2.2.2.1, .int .i64 x43.2.2.2.2.1, .int .i64 x43.2.2.2.2.2.1, .slice x43.2.2.2.2.2.2.1 x43.2.2.2.2.2.2.2.1 x43.2.2.2.2.2.2.2.2]] [.sc .slice, .sc .any] (fun (r44 : (Option Addr × Nat × Nat) × Value) h45 =>
  ifW r44.2 (br (isNilV r44.2)
  (callT Tryd.prog 18 [.slice r44.1.1 r44.1.2.1 r44.1.2.2, .slice l_1 l_1l l_1c] [.sc .bool] (fun (r46 : Bool) h47 =>
  K (.bool r46) h47) h45)
  (K (.bool false) h45))) h39) h39))) h38) h36) h34) h17)) h14) h14)) h11) h11) h4)) h2) h0)
set_option maxRecDepth 100000 in
theorem F4_eq (c_0_0 : Int) (c_0_1 : Int) (c_0_2 : Int) (c_0_3 : Int) (c_0_4 : Int) (c_0_5 : Int) (c_0_6 : Option Addr) (c_0_6l c_0_6c : Nat) (l_1 : Option Addr) (l_1l l_1c : Nat) (K : Value → Heap → Prop) (h0 : Heap) : funWE Tryd.prog 4 (.seq (.leaf) (.seq (.seq (.leaf) (.cond (.seq (.leaf) (.leaf)) (.leaf))) (.cut [] (.seq (.leaf) (.cond (.seq (.leaf) (.leaf)) (.leaf))) (.seq (.leaf) (.seq (.seq (.draw (odp [0, 1, 2, 3, 4] .nil) []) (.cond (.seq (.leaf) (.leaf)) (.leaf))) (.cut [] (.seq (.leaf) (.cond (.seq (.leaf) (.seq (.leaf) (.cond (.seq (.leaf) (.leaf)) (.leaf)))) (.leaf))) (.seq (.leaf) (.seq (.seq (.leaf) (.cond (.seq (.leaf) (.leaf)) (.leaf))) (.seq (.leaf) (.seq (.leaf) (.leaf))))))))))) [.agg #[.int .u32 c_0_0, .int .u32 c_0_1, .int .u32 c_0_2, .int .i64 c_0_3, .int .i64 c_0_4, .int .i64 c_0_5, .slice c_0_6 c_0_6l c_0_6c], .slice l_1 l_1l l_1c] K h0 = F4 c_0_0 c_0_1 c_0_2 c_0_3 c_0_4 c_0_5 c_0_6 c_0_6l c_0_6c l_1 l_1l l_1c K h0 := by kernel_rfl

-- function 5
set_option maxRecDepth 100000 in
def F5 (c_0_0 : Int) (c_0_1 : Int) (c_0_2 : Int) (c_0_3 : Int) (c_0_4 : Int) (c_0_5 : Int) (c_0_6 : Option Addr) (c_0_6l c_0_6c : Nat) (block_1 : Int) (at_2 : Int) (b_3 : Int) (K : Value → Heap → Prop) (h0 : Heap) : Prop := (
  newW (.cells #[.int .u32 c_0_0, .int .u32 c_0_1, .int .u32 c_0_2, .int .i64 c_0_3, .int .i64 c_0_4, .int .i64 c_0_5, .slice c_0_6 c_0_6l c_0_6c] 27) (fun a1 h2 =>
  callT Tryd.prog 9 [] [.sc .bool] (fun (r3 : Bool) h4 =>
  br (!r3)
  (K (.bool false) h4)
  (cutT [] (fun (K5 : Unit → Heap → Prop) h11 =>
  ldAggW [.int .u32, .int .u32, .int .u32, .int .i64, .int .i64, .int .i64, .slice] a1 (fun (x6 : Int × Int × Int × Int × Int × Int × (Option Addr × Nat × Nat)) =>
  callT Tryd.prog 13 [.agg #[.int .u32 x6.1, .int .u32 x6.2.1, .int .u32 x6.2.2.1, .int .i64 x6.2.2.2.1, .int .i64 x6.2.2.2.2.1, .int .i64 x6.2.2.2.2.2.1, .slice x6.2.2.2.2.2.2.1 x6.2.2.2.2.2.2.2.1 x6.2.2.2.2.2.2.2.2]] [.agg [.int .u32, .int .u32, .int .u32, .int .i64, .int .i64, .int .i64, .slice]] (fun (r7 : (Int × Int × Int × Int × Int × Int × (Option Addr × Nat × Nat))) h8 =>
  callT Tryd.prog 22 [.agg #[.int .u32 r7.1, .int .u32 r7.2.1, .int .u32 r7.2.2.1, .int .i64 r7.2.2.2.1, .int .i64 r7.2.2.2.2.1, .int .i64 r7.2.2.2.2.2.1, .slice r7.2.2.2.2.2.2.1 r7.2.2.2.2.2.2.2.1 r7.2.2.2.2.2.2.2.2]] [.sc .bool] (fun (r9 : Bool) h10 =>
  br (!r9)
  (K (.bool true) h10)
  (br (decide (block_1 < (0 : Int)))
  (K (.bool true) h10)
  (br (decide (at_2 < (0 : Int)))
  (K (.bool true) h10)
  (br (decide (at_2 ≥ (16 : Int)))
  (K (.bool true) h10)
  (K5 () h10))))) h8) h11) h11) (fun (_s12 : Unit) _ h13 =>
  ldAggW [.int .u32, .int .u32, .int .u32, .int .i64, .int .i64, .int .i64, .slice] a1 (fun (x14 : Int × Int × Int × Int × Int × Int × (Option Addr × Nat × Nat)) =>
  callT Tryd.prog 11 [.agg #[.int .u32 x14.1, .int .u32 x14.2.1, .int .u32 x14.2.2.1, .int .i64 x14.2.2.2.1, .int .i64 x14.2.2.2.2.1, .int .i64 x14.2.2.2.2.2.1, .slice x14.2.2.2.2.2.2.1 x14.2.2.2.2.2.2.2.1 x14.2.2.2.2.2.2.2.2]] [.sc .slice, .sc .any] (fun (r15 : (Option Addr × Nat × Nat) × Value) h16 =>
  cutT [] (fun (K17 : Unit → Heap → Prop) h18 =>
  ifW r15.2 (br (!(isNilV r15.2))
  (ifW r15.2 (K (.bool (isNilV r15.2)) h18))
  (br (decide (block_1 ≥ (((r15.1.2.1 : Nat) : Int))))
  (ifW r15.2 (K (.bool (isNilV r15.2)) h18))
  (K17 () h18)))) (fun (_s19 : Unit) _ h20 =>
  slW r15.1.1 r15.1.2.2 1 (0 : Int) (IntKind.wrap .i64 ((((r15.1.2.1 : Nat) : Int)) - (1 : Int))) (((r15.1.2.2 : Nat) : Int)) (fun b21 n22 c23 =>
  callT Tryd.prog 14 [.slice b21 n22 c23] [.agg [.int .u32, .int .u32, .int .u32, .int .i64, .int .i64, .int .i64, .slice], .sc .any] (fun (r24 : (Int × Int × Int × Int × Int × Int × (Option Addr × Nat × Nat)) × Value) h25 =>
  newW (.cells (zeroC Tryd.prog 27) 27) (fun a26 h27 =>
  stLW a26 [.int .u32 r24.1.1, .int .u32 r24.1.2.1, .int .u32 r24.1.2.2.1, .int .i64 r24.1.2.2.2.1, .int .i64 r24.1.2.2.2.2.1, .int .i64 r24.1.2.2.2.2.2.1, .slice r24.1.2.2.2.2.2.2.1 r24.1.2.2.2.2.2.2.2.1 r24.1.2.2.2.2.2.2.2.2] (fun h28 =>
  ifW r24.2 (br (isNilV r24.2)
  (K (.bool false) h28)
  (ptrW r15.1.1 (fun a29 =>
  idxW block_1 r15.1.2.1 true (ldW .slice (Addr.add a29 (Int.toNat block_1 * 1)) (fun (x30 : Option Addr × Nat × Nat) =>
  ptrW x30.1 (fun a31 =>
  idxW at_2 x30.2.1 true (ldW (.int .u8) (Addr.add a31 (Int.toNat at_2 * 1)) (fun (x32 : Int) =>
  ptrW r15.1.1 (fun a33 =>
  idxW block_1 r15.1.2.1 true (ldW .slice (Addr.add a33 (Int.toNat block_1 * 1)) (fun (x34 : Option Addr × Nat × Nat) =>
  ptrW x34.1 (fun a35 =>
  idxW at_2 x34.2.1 true (stW (Addr.add a35 (Int.toNat at_2 * 1)) (.int .u8 b_3) (fun h36 =>
  callT Tryd.prog 14 [.slice r15.1.1 r15.1.2.1 r15.1.2.2] [.agg [.int .u32, .int .u32, .int .u32, .int .i64, .int .i64, .int .i64, .slice], .sc .any] (fun (r37 : (Int × Int × Int × Int × Int × Int × (Option Addr × Nat × Nat)) × Value) h38 =>
  newW (.cells (zeroC Tryd.prog 27) 27) (fun a39 h40 =>
  stLW a39 [.int .u32 r37.1.1, .int .u32 r37.1.2.1, .int .u32 r37.1.2.2.1, .int .i64 r37.1.2.2.2.1, .int .i64 r37.1.2.2.2.2.1, .int .i64 r37.1.2.2.2.2.2.1, .slice r37.1.2.2.2.2.2.2.1 r37.1.2.2.2.2.2.2.2.1 r37.1.2.2.2.2.2.2.2.2] (fun h41 =>
  br (x32 == b_3)
  (cutT [.sc .bool] (fun (K42 : Bool → Heap → Prop) h47 =>
  ifW r37.2 (br (isNilV r37.2)
  (ldAggW [.int .u32, .int .u32, .int .u32, .int .i64, .int .i64, .int .i64, .slice] a1 (fun (x43 : Int × Int × Int × Int × Int × Int × (Option Addr × Nat × Nat)) =>
  ldAggW [.int .u32, .int .u32, .int .u32, .int .i64, .int .i64, .int .i64, .slice] a39 (fun (x44 : Int × Int × Int × Int × Int × Int × (Option Addr × Nat × Nat)) =>
  callT Tryd.prog 23 [.agg #[.int .u32 x43.1, .int .u32 x43.2.1, .int .u32 x43.2.2.1, .int .i64 x43.2.2.2.1, .int .i64 x43.2.2.2.2.1, .int .i64 x43.2.2.2.2.2.1, .slice x43.2.2.2.2.2.2.1 x43.2.2.2.2.2.2.2.1 x43.2.2.2.2.2.2.2.2], .agg #[.int .u32 x44.1, .int .u32 x44.2.1, .int .u32 x44.2.2.1, .int .i64 x44.2.2.2.1, .int .i64 x44.2.2.2.2.1, .int .i64 x44.2.2.2.2.2.1, .slice x44.2.2.2.2.2.2.1 x44.2.2.2.2.2.2.2.1 x44.2.2.2.2.2.2.2.2]] [.sc .bool] (fun (r45 : Bool) h46 =>
  K42 r45 h46) h47) h47) h47)
  (K42 false h47))) (fun (s48 : Bool) _ h49 =>
  K (.bool s48) h49) h41)
  (ifW r37.2 (br (!(isNilV r37.2))
  (ldAggW [.int .u32, .int .u32, .int .u32, .int .i64, .int .i64, .int .i64, .slice] a39 (fun (x50 : Int × Int × Int × Int × Int × Int × (Option Addr × Nat × Nat)) =>
  callT Tryd.prog 23 [.agg #[.int .u32 x50.1, .int .u32 x50.2.1, .int .u32 x50.2.2.1, .int .i64 x50.2.2.2.1, .int .i64 x50.2.2.2.2.1, .int .i64 x50.2.2.2.2.2.1, .slice x50.2.2.2.2.2.2.1 x50.2.2.2.2.2.2.2.1 x50.2.2.2.2.2.2.2.2], .agg #[.int .u32 0, .int .u32 0, .int .u32 0, .int .i64 0, .int .i64 0, .int .i64 0, .slice none 0 0]] [.sc .bool] (fun (r51 : Bool) h52 =>
  K (.bool r51) h52) h41) h41)
  (K (.bool false) h41)))) h40) h38) h36) h28))) h28))) h28))) h28))))) h27) h25) h20)) h16) h13) h13) h4)) h2) h0)
set_option maxRecDepth 100000 in
theorem F5_eq (c_0_0 : Int) (c_0_1 : Int) (c_0_2 : Int) (c_0_3 : Int) (c_0_4 : Int) (c_0_5 : Int) (c_0_6 : Option Addr) (c_0_6l c_0_6c : Nat) (block_1 : Int) (at_2 : Int) (b_3 : Int) (K : Value → Heap → Prop) (h0 : Heap) : funWE Tryd.prog 5 (.seq (.leaf) (.seq (.seq (.leaf) (.cond (.seq (.leaf) (.leaf)) (.leaf))) (.cut [] (.seq (.leaf) (.cond (.seq (.leaf) (.leaf)) (.leaf))) (.seq (.leaf) (.cut [] (.seq (.leaf) (.cond (.seq (.leaf) (.leaf)) (.leaf))) (.seq (.leaf) (.seq (.seq (.leaf) (.cond (.seq (.leaf) (.leaf)) (.leaf))) (.seq (.leaf) (.seq (.leaf) (.seq (.leaf) (.seq (.seq (.leaf) (.cond (.cut [(8, .sc .bool)] (.leaf) (.leaf)) (.leaf))) (.seq (.leaf) (.leaf))))))))))))) [.agg #[.int .u32 c_0_0, .int .u32 c_0_1, .int .u32 c_0_2, .int .i64 c_0_3, .int .i64 c_0_4, .int .i64 c_0_5, .slice c_0_6 c_0_6l c_0_6c], .int .i64 block_1, .int .i64 at_2, .int .u8 b_3] K h0 = F5 c_0_0 c_0_1 c_0_2 c_0_3 c_0_4 c_0_5 c_0_6 c_0_6l c_0_6c block_1 at_2 b_3 K h0 := by kernel_rfl

-- function 6
set_option maxRecDepth 100000 in
def F6 (c_0_0 : Int) (c_0_1 : Int) (c_0_2 : Int) (c_0_3 : Int) (c_0_4 : Int) (c_0_5 : Int) (c_0_6 : Option Addr) (c_0_6l c_0_6c : Nat) (d_1_0 : Int) (d_1_1 : Int) (d_1_2 : Int) (d_1_3 : Int) (d_1_4 : Int) (d_1_5 : Int) (d_1_6 : Option Addr) (d_1_6l d_1_6c : Nat) (K : Value → Heap → Prop) (h0 : Heap) : Prop := (
  newW (.cells #[.int .u32 c_0_0, .int .u32 c_0_1, .int .u32 c_0_2, .int .i64 c_0_3, .int .i64 c_0_4, .int .i64 c_0_5, .slice c_0_6 c_0_6l c_0_6c] 27) (fun a1 h2 =>
  newW (.cells #[.int .u32 d_1_0, .int .u32 d_1_1, .int .u32 d_1_2, .int .i64 d_1_3, .int .i64 d_1_4, .int .i64 d_1_5, .slice d_1_6 d_1_6l d_1_6c] 27) (fun a3 h4 =>
  callT Tryd.prog 9 [] [.sc .bool] (fun (r5 : Bool) h6 =>
  br (!r5)
  (K (.bool false) h6)
  (cutT [] (fun (K7 : Unit → Heap → Prop) h18 =>
  ldAggW [.int .u32, .int .u32, .int .u32, .int .i64, .int .i64, .int .i64, .slice] a1 (fun (x8 : Int × Int × Int × Int × Int × Int × (Option Addr × Nat × Nat)) =>
  callT Tryd.prog 13 [.agg #[.int .u32 x8.1, .int .u32 x8.2.1, .int .u32 x8.2.2.1, .int .i64 x8.2.2.2.1, .int .i64 x8.2.2.2.2.1, .int .i64 x8.2.2.2.2.2.1, .slice x8.2.2.2.2.2.2.1 x8.2.2.2.2.2.2.2.1 x8.2.2.2.2.2.2.2.2]] [.agg [.int .u32, .int .u32, .int .u32, .int .i64, .int .i64, .int .i64, .slice]] (fun (r9 : (Int × Int × Int × Int × Int × Int × (Option Addr × Nat × Nat))) h10 =>
  callT Tryd.prog 22 [.agg #[.int .u32 r9.1, .int .u32 r9.2.1, .int .u32 r9.2.2.1, .int .i64 r9.2.2.2.1, .int .i64 r9.2.2.2.2.1, .int .i64 r9.2.2.2.2.2.1, .slice r9.2.2.2.2.2.2.1 r9.2.2.2.2.2.2.2.1 r9.2.2.2.2.2.2.2.2]] [.sc .bool] (fun (r11 : Bool) h12 =>
  br (!r11)
  (K (.bool true) h12)
  (ldAggW [.int .u32, .int .u32, .int .u32, .int .i64, .int .i64, .int .i64, .slice] a3 (fun (x13 : Int × Int × Int × Int × Int × Int × (Option Addr × Nat × Nat)) =>
  callT Tryd.prog 13 [.agg #[.int .u32 x13.1, .int .u32 x13.2.1, .int .u32 x13.2.2.1, .int .i64 x13.2.2.2.1, .int .i64 x13.2.2.2.2.1, .int .i64 x13.2.2.2.2.2.1, .slice x13.2.2.2.2.2.2.1 x13.2.2.2.2.2.2.2.1 x13.2.2.2.2.2.2.2.2]] [.agg [.int .u32, .int .u32, .int .u32, .int .i64, .int .i64, .int .i64, .slice]] (fun (r14 : (Int × Int × Int × Int × Int × Int × (Option Addr × Nat × Nat))) h15 =>
  callT Tryd.prog 22 [.agg #[.int .u32 r14.1, .int .u32 r14.2.1, .int .u32 r14.2.2.1, .int .i64 r14.2.2.2.1, .int .i64 r14.2.2.2.2.1, .int .i64 r14.2.2.2.2.2.1, .slice r14.2.2.2.2.2.2.1 r14.2.2.2.2.2.2.2.1 r14.2.2.2.2.2.2.2.2]] [.sc .bool] (fun (r16 : Bool) h17 =>
  br (!r16)
  (K (.bool true) h17)
  (K7 () h17)) h15) h12) h12)) h10) h18) h18) (fun (_s19 : Unit) _ h20 =>
  ldAggW [.int .u32, .int .u32, .int .u32, .int .i64, .int .i64, .int .i64, .slice] a1 (fun (x21 : Int × Int × Int × Int × Int × Int × (Option Addr × Nat × Nat)) =>
  callT Tryd.prog 11 [.agg #[.int .u32 x21.1, .int .u32 x21.2.1, .int .u32 x21.2.2.1, .int .i64 x21.2.2.2.1, .int .i64 x21.2.2.2.2.1, .int .i64 x21.2.2.2.2.2.1, .slice x21.2.2.2.2.2.2.1 x21.2.2.2.2.2.2.2.1 x21.2.2.2.2.2.2.2.2]] [.sc .slice, .sc .any] (fun (r22 : (Option Addr × Nat × Nat) × Value) h23 =>
  ldAggW [.int .u32, .int .u32, .int .u32, .int .i64, .int .i64, .int .i64, .slice] a3 (fun (x24 : Int × Int × Int × Int × Int × Int × (Option Addr × Nat × Nat)) =>
  callT Tryd.prog 11 [.agg #[.int .u32 x24.1, .int .u32 x24.2.1, .int .u32 x24.2.2.1, .int .i64 x24.2.2.2.1, .int .i64 x24.2.2.2.2.1, .int .i64 x24.2.2.2.2.2.1, .slice x24.2.2.2.2.2.2.1 x24.2.2.2.2.2.2.2.1 x24.2.2.2.2.2.2.2.2]] [.sc .slice, .sc .any] (fun (r25 : (Option Addr × Nat × Nat) × Value) h26 =>
  ifW r22.2 (br (isNilV r22.2)
  (ifW r25.2 (br (isNilV r25.2)
  (ldAggW [.int .u32, .int .u32, .int .u32, .int .i64, .int .i64, .int .i64, .slice] a1 (fun (x27 : Int × Int × Int × Int × Int × Int × (Option Addr × Nat × Nat)) =>
  ldAggW [.int .u32, .int .u32, .int .u32, .int .i64, .int .i64, .int .i64, .slice] a3 (fun (x28 : Int × Int × Int × Int × Int × Int × (Option Addr × Nat × Nat)) =>
  callT Tryd.prog 23 [.agg #[.int .u32 x27.1, .int .u32 x27.2.1, .int .u32 x27.2.2.1, .int .i64 x27.2.2.2.1, .int .i64 x27.2.2.2.2.1, .int .i64 x27.2.2.2.2.2.1, .slice x27.2.2.2.2.2.2.1 x27.2.2.2.2.2.2.2.1 x27.2.2.2.2.2.2.2.2], .agg #[.int .u32 x28.1, .int .u32 x28.2.1, .int .u32 x28.2.2.1, .int .i64 x28.2.2.2.1, .int .i64 x28.2.2.2.2.1, .int .i64 x28.2.2.2.2.2.1, .slice x28.2.2.2.2.2.2.1 x28.2.2.2.2.2.2.2.1 x28.2.2.2.2.2.2.2.2]] [.sc .bool] (fun (r29 : Bool) h30 =>
  callT Tryd.prog 18 [.slice r22.1.1 r22.1.2.1 r22.1.2.2, .slice r25.1.1 r25.1.2.1 r25.1.2.2] [.sc .bool] (fun (r31 : Bool) h32 =>
  br (r29 == r31)
  (ldAggW [.int .u32, .int .u32, .int .u32, .int .i64, .int .i64, .int .i64, .slice] a1 (fun (x33 : Int × Int × Int × Int × Int × Int × (Option Addr × Nat × Nat)) =>
  ldAggW [.int .u32, .int .u32, .int .u32, .int .i64, .int .i64, .int .i64, .slice] a3 (fun (x34 : Int × Int × Int × Int × Int × Int × (Option Addr × Nat × Nat)) =>
  ldAggW [.int .u32, .int .u32, .int .u32, .int .i64, .int .i64, .int .i64, .slice] a3 (fun (x35 : Int × Int × Int × Int × Int × Int × (Option Addr × Nat × Nat)) =>
  ldAggW [.int .u32, .int .u32, .int .u32, .int .i64, .int .i64, .int .i64, .slice] a1 (fun (x36 : Int × Int × Int × Int × Int × Int × (Option Addr × Nat × Nat)) =>
  callT Tryd.prog 23 [.agg #[.int .u32 x33.1, .int .u32 x33.2.1, .int .u32 x33.2.2.1, .int .i64 x33.2.2.2.1, .int .i64 x33.2.2.2.2.1, .int .i64 x33.2.2.2.2.2.1, .slice x33.2.2.2.2.2.2.1 x33.2.2.2.2.2.2.2.1 x33.2.2.2.2.2.2.2.2], .agg #[.int .u32 x34.1, .int .u32 x34.2.1, .int .u32 x34.2.2.1, .int .i64 x34.2.2.2.1, .int .i64 x34.2.2.2.2.1, .int .i64 x34.2.2.2.2.2.1, .slice x34.2.2.2.2.2.2.1 x34.2.2.2.2.2.2.2.1 x34.2.2.2.2.2.2.2.2]] [.sc .bool] (fun (r37 : Bool) h38 =>
  (cellH h38 (Addr.add a1 0) = some (.int .u32 x36.1) ∧ (cellH h38 (Addr.add a1 1) = some (.int .u32 x36.2.1) ∧ (cellH h38 (Addr.add a1 2) = some (.int .u32 x36.2.2.1) ∧ (cellH h38 (Addr.add a1 3) = some (.int .i64 x36.2.2.2.1) ∧ (cellH h38 (Addr.add a1 4) = some (.int .i64 x36.2.2.2.2.1) ∧ (cellH h38 (Addr.add a1 5) = some (.int .i64 x36.2.2.2.2.2.1) ∧ (cellH h38 (Addr.add a1 6) = some (.slice x36.2.2.2.2.2.2.1 x36.2.2.2.2.2.2.2.1 x36.2.2.2.2.2.2.2.2) ∧ (cellH h38 (Addr.add a3 0) = some (.int .u32 x35.1) ∧ (cellH h38 (Addr.add a3 1) = some (.int .u32 x35.2.1) ∧ (cellH h38 (Addr.add a3 2) = some (.int .u32 x35.2.2.1) ∧ (cellH h38 (Addr.add a3 3) = some (.int .i64 x35.2.2.2.1) ∧ (cellH h38 (Addr.add a3 4) = some (.int .i64 x35.2.2.2.2.1) ∧ (cellH h38 (Addr.add a3 5) = some (.int .i64 x35.2.2.2.2.2.1) ∧ (cellH h38 (Addr.add a3 6) = some (.slice x35.2.2.2.2.2.2.1 x35.2.2.2.2.2.2.2.1 x35.2.2.2.2.2.2.2.2) ∧ callT Tryd.prog 23 [.agg #[.int .u32 x35.1, .int .u32 x35.2.1, .int .u32 x35.2.2.1, .int .i64 x35.2.2.2.1, .int .i64 x35.2.2.2.2.1, .int .i64 x35.2.2.2.2.2.1, .slice x35.2.2.2.2.2.2.1 x35.2.2.2.2.2.2.2.1 x35.2.2.2.2.2.2.2.2], .agg #[.int .u32 x36.1, .int .u32 x36.2.1, .int .u32 x36.2.2.1, .int .i64 x36.2.2.2.1, .int .i64 x36.2.2.2.2.1, .int .i64 x36.2.2.2.2.2.1, .slice x36.2.2.2.2.2.2.1 x36.2.2.2.2.2.2.2.1 x36.2.2.2.2.2.2.2.2]] [.sc .bool] (fun (r39 : Bool) h40 =>
  br (r37 == r39)
  (ldAggW [.int .u32, .int .u32, .int .u32, .int .i64, .int .i64, .int .i64, .slice] a1 (fun (x41 : Int × Int × Int × Int × Int × Int × (Option Addr × Nat × Nat)) =>
  ldAggW [.int .u32, .int .u32, .int .u32, .int .i64, .int .i64, .int .i64, .slice] a1 (fun (x42 : Int × Int × Int × Int × Int × Int × (Option Addr × Nat × Nat)) =>
  callT Tryd.prog 23 [.agg #[.int .u32 x41.1, .int .u32 x41.2.1, .int .u32 x41.2.2.1, .int .i64 x41.2.2.2.1, .int .i64 x41.2.2.2.2.1, .int .i64 x41.2.2.2.2.2.1, .slice x41.2.2.2.2.2.2.1 x41.2.2.2.2.2.2.2.1 x41.2.2.2.2.2.2.2.2], .agg #[.int .u32 x42.1, .int .u32 x42.2.1, .int .u32 x42.2.2.1, .int .i64 x42.2.2.2.1, .int .i64 x42.2.2.2.2.1, .int .i64 x42.2.2.2.2.2.1, .slice x42.2.2.2.2.2.2.1 x42.2.2.2.2.2.2.2.1 x42.2.2.2.2.2.2.2.2]] [.sc .bool] (fun (r43 : Bool) h44 =>
  K (.bool r43) h44) h40) h40) h40)
  (K (.bool false) h40)) h38))))))))))))))) h32) h32) h32) h32) h32)
  (K (.bool false) h32)) h30) h26) h26) h26)
  (K (.bool false) h26)))
  (K (.bool false) h26))) h23) h23) h20) h20) h6)) h4) h2) h0)
set_option maxRecDepth 100000 in
theorem F6_eq (c_0_0 : Int) (c_0_1 : Int) (c_0_2 : Int) (c_0_3 : Int) (c_0_4 : Int) (c_0_5 : Int) (c_0_6 : Option Addr) (c_0_6l c_0_6c : Nat) (d_1_0 : Int) (d_1_1 : Int) (d_1_2 : Int) (d_1_3 : Int) (d_1_4 : Int) (d_1_5 : Int) (d_1_6 : Option Addr) (d_1_6l d_1_6c : Nat) (K : Value → Heap → Prop) (h0 : Heap) : funWE Tryd.prog 6 (.seq (.leaf) (.seq (.seq (.leaf) (.cond (.seq (.leaf) (.leaf)) (.leaf))) (.cut [] (.seq (.leaf) (.cond (.seq (.leaf) (.leaf)) (.leaf))) (.seq (.leaf) (.seq (.leaf) (.seq (.draw (odp [0, 1, 2, 3, 4, 5, 6, 7, 8, 10, 11, 9, 12, 13, 14, 15, 16, 17, 19, 20, 18, 21, 22, 23, 24, 25, 26, 27, 28, 29] .nil) [200019, 200020]) (.leaf))))))) [.agg #[.int .u32 c_0_0, .int .u32 c_0_1, .int .u32 c_0_2, .int .i64 c_0_3, .int .i64 c_0_4, .int .i64 c_0_5, .slice c_0_6 c_0_6l c_0_6c], .agg #[.int .u32 d_1_0, .int .u32 d_1_1, .int .u32 d_1_2, .int .i64 d_1_3, .int .i64 d_1_4, .int .i64 d_1_5, .slice d_1_6 d_1_6l d_1_6c]] K h0 = F6 c_0_0 c_0_1 c_0_2 c_0_3 c_0_4 c_0_5 c_0_6 c_0_6l c_0_6c d_1_0 d_1_1 d_1_2 d_1_3 d_1_4 d_1_5 d_1_6 d_1_6l d_1_6c K h0 := by kernel_rfl

-- function 3
set_option maxRecDepth 100000 in
def F3 (c_0_0 : Int) (c_0_1 : Int) (c_0_2 : Int) (c_0_3 : Int) (c_0_4 : Int) (c_0_5 : Int) (c_0_6 : Option Addr) (c_0_6l c_0_6c : Nat) (d_1_0 : Int) (d_1_1 : Int) (d_1_2 : Int) (d_1_3 : Int) (d_1_4 : Int) (d_1_5 : Int) (d_1_6 : Option Addr) (d_1_6l d_1_6c : Nat) (l_2 : Option Addr) (l_2l l_2c : Nat) (K : Value → Heap → Prop) (h0 : Heap) : Prop := (
  newW (.cells #[.int .u32 c_0_0, .int .u32 c_0_1, .int .u32 c_0_2, .int .i64 c_0_3, .int .i64 c_0_4, .int .i64 c_0_5, .slice c_0_6 c_0_6l c_0_6c] 27) (fun a1 h2 =>
  newW (.cells #[.int .u32 d_1_0, .int .u32 d_1_1, .int .u32 d_1_2, .int .i64 d_1_3, .int .i64 d_1_4, .int .i64 d_1_5, .slice d_1_6 d_1_6l d_1_6c] 27) (fun a3 h4 =>
  callT Tryd.prog 9 [] [.sc .bool] (fun (r5 : Bool) h6 =>
  br (!r5)
  (K (.bool false) h6)
  (cutT [] (fun (K7 : Unit → Heap → Prop) h12 =>
  callT Tryd.prog 10 [.slice l_2 l_2l l_2c] [.sc .bool] (fun (r8 : Bool) h9 =>
  br r8
  (K (.bool true) h9)
  (ldW .slice (Addr.add a1 6) (fun (x10 : Option Addr × Nat × Nat) =>
  br (decide ((((x10.2.1 : Nat) : Int)) > (100 : Int)))
  (K (.bool true) h9)
  (ldW .slice (Addr.add a3 6) (fun (x11 : Option Addr × Nat × Nat) =>
  br (decide ((((x11.2.1 : Nat) : Int)) > (100 : Int)))
  (K (.bool true) h9)
  (K7 () h9)) h9)) h9)) h12) (fun (_s13 : Unit) _ h14 =>
  ldAggW [.int .u32, .int .u32, .int .u32, .int .i64, .int .i64, .int .i64, .slice] a1 (fun (x15 : Int × Int × Int × Int × Int × Int × (Option Addr × Nat × Nat)) =>
  callT Tryd.prog 11 [.agg #[.int .u32 x15.1, .int .u32 x15.2.1, .int .u32 x15.2.2.1, .int .i64 x15.2.2.2.1, .int .i64 x15.2.2.2.2.1, .int .i64 x15.2.2.2.2.2.1, .slice x15.2.2.2.2.2.2.1 x15.2.2.2.2.2.2.2.1 x15.2.2.2.2.2.2.2.2]] [.sc .slice, .sc .any] (fun (r16 : (Option Addr × Nat × Nat) × Value) h17 =>
  ldAggW [.int .u32, .int .u32, .int .u32, .int .i64, .int .i64, .int .i64, .slice] a1 (fun (x18 : Int × Int × Int × Int × Int × Int × (Option Addr × Nat × Nat)) =>
  callT Tryd.prog 13 [.agg #[.int .u32 x18.1, .int .u32 x18.2.1, .int .u32 x18.2.2.1, .int .i64 x18.2.2.2.1, .int .i64 x18.2.2.2.2.1, .int .i64 x18.2.2.2.2.2.1, .slice x18.2.2.2.2.2.2.1 x18.2.2.2.2.2.2.2.1 x18.2.2.2.2.2.2.2.2]] [.agg [.int .u32, .int .u32, .int .u32, .int .i64, .int .i64, .int .i64, .slice]] (fun (r19 : (Int × Int × Int × Int × Int × Int × (Option Addr × Nat × Nat))) h20 =>
  callT Tryd.prog 12 [.agg #[.int .u32 r19.1, .int .u32 r19.2.1, .int .u32 r19.2.2.1, .int .i64 r19.2.2.2.1, .int .i64 r19.2.2.2.2.1, .int .i64 r19.2.2.2.2.2.1, .slice r19.2.2.2.2.2.2.1 r19.2.2.2.2.2.2.2.1 r19.2.2.2.2.2.2.2.2]] [.sc .slice, .sc (.int .i64)] (fun (r21 : (Option Addr × Nat × Nat) × Int) h22 =>
  callT Tryd.prog 14 [.slice l_2 l_2l l_2c] [.agg [.int .u32, .int .u32, .int .u32, .int .i64, .int .i64, .int .i64, .slice], .sc .any] (fun (r23 : (Int × Int × Int × Int × Int × Int × (Option Addr × Nat × Nat)) × Value) h24 =>
  newW (.cells (zeroC Tryd.prog 27) 27) (fun a25 h26 =>
  stLW a25 [.int .u32 r23.1.1, .int .u32 r23.1.2.1, .int .u32 r23.1.2.2.1, .int .i64 r23.1.2.2.2.1, .int .i64 r23.1.2.2.2.2.1, .int .i64 r23.1.2.2.2.2.2.1, .slice r23.1.2.2.2.2.2.2.1 r23.1.2.2.2.2.2.2.2.1 r23.1.2.2.2.2.2.2.2.2] (fun h27 =>
  callT Tryd.prog 15 [.slice l_2 l_2l l_2c] [.agg [.int .u32, .int .u32, .int .u32, .int .i64, .int .i64, .int .i64, .slice], .sc (.int .i64)] (fun (r28 : (Int × Int × Int × Int × Int × Int × (Option Addr × Nat × Nat)) × Int) h29 =>
  newW (.cells (zeroC Tryd.prog 40) 40) (fun a30 h31 =>
  stLW a30 [.int .u32 r28.1.1, .int .u32 r28.1.2.1, .int .u32 r28.1.2.2.1, .int .i64 r28.1.2.2.2.1, .int .i64 r28.1.2.2.2.2.1, .int .i64 r28.1.2.2.2.2.2.1, .slice r28.1.2.2.2.2.2.2.1 r28.1.2.2.2.2.2.2.2.1 r28.1.2.2.2.2.2.2.2.2] (fun h32 =>
  cutT [] (fun (K33 : Unit → Heap → Prop) h39 =>
  ldW (.int .i64) (Addr.add (Addr.add a1 3) 2) (fun (x34 : Int) =>
  br (decide (x34 ≥ (1 : Int)))
  (br (decide (x34 ≤ (64 : Int)))
  (callT Tryd.prog 16 [.int .i64 x34] [.sc (.int .i64)] (fun (r35 : Int) h36 =>
  callT Tryd.prog 17 [.int .i64 x34] [.sc (.int .i64)] (fun (r37 : Int) h38 =>
  br (r35 != r37)
  (K (.bool false) h38)
  (K33 () h38)) h36) h39)
  (K33 () h39))
  (K33 () h39)) h39) (fun (_s40 : Unit) _ h41 =>
  callT Tryd.prog 18 [.slice r16.1.1 r16.1.2.1 r16.1.2.2, .slice r21.1.1 r21.1.2.1 r21.1.2.2] [.sc .bool] (fun (r42 : Bool) h43 =>
  br r42
  (callT Tryd.prog 19 [r16.2] [.sc (.int .i64)] (fun (r44 : Int) h45 =>
  br (r44 == r21.2)
  (ldAggW [.int .u32, .int .u32, .int .u32, .int .i64, .int .i64, .int .i64, .slice] a25 (fun (x46 : Int × Int × Int × Int × Int × Int × (Option Addr × Nat × Nat)) =>
  ldAggW [.int .u32, .int .u32, .int .u32, .int .i64, .int .i64, .int .i64, .slice] a30 (fun (x47 : Int × Int × Int × Int × Int × Int × (Option Addr × Nat × Nat)) =>
  callT Tryd.prog 13 [.agg #[.int .u32 x46.1, .int .u32 x46.2.1, .int .u32 x46.2.2.1, .int .i64 x46.2.2.2.1, .int .i64 x46.2.2.2.2.1, .int .i64 x46.2.2.2.2.2.1, .slice x46.2.2.2.2.2.2.1 x46.2.2.2.2.2.2.2.1 x46.2.2.2.2.2.2.2.2]] [.agg [.int .u32, .int .u32, .int .u32, .int .i64, .int .i64, .int .i64, .slice]] (fun (r48 : (Int × Int × Int × Int × Int × Int × (Option Addr × Nat × Nat))) h49 =>
  (cellH h49 (Addr.add a30 0) = some (.int .u32 x47.1) ∧ (cellH h49 (Addr.add a30 1) = some (.int .u32 x47.2.1) ∧ (cellH h49 (Addr.add a30 2) = some (.int .u32 x47.2.2.1) ∧ (cellH h49 (Addr.add a30 3) = some (.int .i64 x47.2.2.2.1) ∧ (cellH h49 (Addr.add a30 4) = some (.int .i64 x47.2.2.2.2.1) ∧ (cellH h49 (Addr.add a30 5) = some (.int .i64 x47.2.2.2.2.2.1) ∧ (cellH h49 (Addr.add a30 6) = some (.slice x47.2.2.2.2.2.2.1 x47.2.2.2.2.2.2.2.1 x47.2.2.2.2.2.2.2.2) ∧ callT Tryd.prog 20 [.agg #[.int .u32 r48.1, .int .u32 r48.2.1, .int .u32 r48.2.2.1, .int .i64 r48.2.2.2.1, .int .i64 r48.2.2.2.2.1, .int .i64 r48.2.2.2.2.2.1, .slice r48.2.2.2.2.2.2.1 r48.2.2.2.2.2.2.2.1 r48.2.2.2.2.2.2.2.2], .agg #[.int .u32 x47.1, .int .u32 x47.2.1, .int .u32 x47.2.2.1, .int .i64 x47.2.2.2.1, .int .i64 x47.2.2.2.2.1, .int .i64 x47.2.2.2.2.2.1, .slice x47.2.2.2.2.2.2.1 x47.2.2.2.2.2.2.2.1 x47.2.2.2.2.2.2.2.2]] [.sc .bool] (fun (r50 : Bool) h51 =>
  br r50
  (callT Tryd.prog 19 [r23.2] [.sc (.int .i64)] (fun (r52 : Int) h53 =>
  br (r52 == r28.2)
  (ldAggW [.int .u32, .int .u32, .int .u32, .int .i64, .int .i64, .int .i64, .slice] a1 (fun (x54 : Int × Int × Int × Int × Int × Int × (Option Addr × Nat × Nat)) =>
  ldAggW [.int .u32, .int .u32, .int .u32, .int .i64, .int .i64, .int .i64, .slice] a1 (fun (x55 : Int × Int × Int × Int × Int × Int × (Option Addr × Nat × Nat)) =>
  callT Tryd.prog 21 [.agg #[.int .u32 x54.1, .int .u32 x54.2.1, .int .u32 x54.2.2.1, .int .i64 x54.2.2.2.1, .int .i64 x54.2.2.2.2.1, .int .i64 x54.2.2.2.2.2.1, .slice x54.2.2.2.2.2.2.1 x54.2.2.2.2.2.2.2.1 x54.2.2.2.2.2.2.2.2]] [.sc .bool] (fun (r56 : Bool) h57 =>
  (cellH h57 (Addr.add a1 0) = some (.int .u32 x55.1) ∧ (cellH h57 (Addr.add a1 1) = some (.int .u32 x55.2.1) ∧ (cellH h57 (Addr.add a1 2) = some (.int .u32 x55.2.2.1) ∧ (cellH h57 (Addr.add a1 3) = some (.int .i64 x55.2.2.2.1) ∧ (cellH h57 (Addr.add a1 4) = some (.int .i64 x55.2.2.2.2.1) ∧ (cellH h57 (Addr.add a1 5) = some (.int .i64 x55.2.2.2.2.2.1) ∧ (cellH h57 (Addr.add a1 6) = some (.slice x55.2.2.2.2.2.2.1 x55.2.2.2.2.2.2.2.1 x55.2.2.2.2.2.2.2.2) ∧ callT Tryd.prog 13 [.agg #[.int .u32 x55.1, .int .u32 x55.2.1, .int .u32 x55.2.2.1, .int .i64 x55.2.2.2.1, .int .i64 x55.2.2.2.2.1, .int .i64 x55.2.2.2.2.2.1, .slice x55.2.2.2.2.2.2.1 x55.2.2.2.2.2.2.2.1 x55.2.2.2.2.2.2.2.2]] [.agg [.int .u32, .int .u32, .int .u32, .int .i64, .int .i64, .int .i64, .slice]] (fun (r58 : (Int × Int × Int × Int × Int × Int × (Option Addr × Nat × Nat))) h59 =>
  callT Tryd.prog 22 [.agg #[.int .u32 r58.1, .int .u32 r58.2.1, .int .u32 r58.2.2.1, .int .i64 r58.2.2.2.1, .int .i64 r58.2.2.2.2.1, .int .i64 r58.2.2.2.2.2.1, .slice r58.2.2.2.2.2.2.1 r58.2.2.2.2.2.2.2.1 r58.2.2.2.2.2.2.2.2]] [.sc .bool] (fun (r60 : Bool) h61 =>
  br (r56 == r60)
  (ldAggW [.int .u32, .int .u32, .int .u32, .int .i64, .int .i64, .int .i64, .slice] a1 (fun (x62 : Int × Int × Int × Int × Int × Int × (Option Addr × Nat × Nat)) =>
  ldAggW [.int .u32, .int .u32, .int .u32, .int .i64, .int .i64, .int .i64, .slice] a3 (fun (x63 : Int × Int × Int × Int × Int × Int × (Option Addr × Nat × Nat)) =>
  ldAggW [.int .u32, .int .u32, .int .u32, .int .i64, .int .i64, .int .i64, .slice] a1 (fun (x64 : Int × Int × Int × Int × Int × Int × (Option Addr × Nat × Nat)) =>
  ldAggW [.int .u32, .int .u32, .int .u32, .int .i64, .int .i64, .int .i64, .slice] a3 (fun (x65 : Int × Int × Int × Int × Int × Int × (Option Addr × Nat × Nat)) =>
  callT Tryd.prog 23 [.agg #[.int .u32 x62.1, .int .u32 x62.2.1, .int .u32 x62.2.2.1, .int .i64 x62.2.2.2.1, .int .i64 x62.2.2.2.2.1, .int .i64 x62.2.2.2.2.2.1, .slice x62.2.2.2.2.2.2.1 x62.2.2.2.2.2.2.2.1 x62.2.2.2.2.2.2.2.2], .agg #[.int .u32 x63.1, .int .u32 x63.2.1, .int .u32 x63.2.2.1, .int .i64 x63.2.2.2.1, .int .i64 x63.2.2.2.2.1, .int .i64 x63.2.2.2.2.2.1, .slice x63.2.2.2.2.2.2.1 x63.2.2.2.2.2.2.2.1 x63.2.2.2.2.2.2.2.2]] [.sc .bool] (fun (r66 : Bool) h67 =>
  (cellH h67 (Addr.add a3 0) = some (.int .u32 x65.1) ∧ (cellH h67 (Addr.add a3 1) = some (.int .u32 x65.2.1) ∧ (cellH h67 (Addr.add a3 2) = some (.int .u32 x65.2.2.1) ∧ (cellH h67 (Addr.add a3 3) = some (.int .i64 x65.2.2.2.1) ∧ (cellH h67 (Addr.add a3 4) = some (.int .i64 x65.2.2.2.2.1) ∧ (cellH h67 (Addr.add a3 5) = some (.int .i64 x65.2.2.2.2.2.1) ∧ (cellH h67 (Addr.add a3 6) = some (.slice x65.2.2.2.2.2.2.1 x65.2.2.2.2.2.2.2.1 x65.2.2.2.2.2.2.2.2) ∧ (cellH h67 (Addr.add a1 0) = some (.int .u32 x64.1) ∧ (cellH h67 (Addr.add a1 1) = some (.int .u32 x64.2.1) ∧ (cellH h67 (Addr.add a1 2) = some (.int .u32 x64.2.2.1) ∧ (cellH h67 (Addr.add a1 3) = some (.int .i64 x64.2.2.2.1) ∧ (cellH h67 (Addr.add a1 4) = some (.int .i64 x64.2.2.2.2.1) ∧ (cellH h67 (Addr.add a1 5) = some (.int .i64 x64.2.2.2.2.2.1) ∧ (cellH h67 (Addr.add a1 6) = some (.slice x64.2.2.2.2.2.2.1 x64.2.2.2.2.2.2.2.1 x64.2.2.2.2.2.2.2.2) ∧ callT Tryd.prog 13 [.agg #[.int .u32 x64.1, .int .u32 x64.2.1, .int .u32 x64.2.2.1, .int .i64 x64.2.2.2.1, .int .i64 x64.2.2.2.2.1, .int .i64 x64.2.2.2.2.2.1, .slice x64.2.2.2.2.2.2.1 x64.2.2.2.2.2.2.2.1 x64.2.2.2.2.2.2.2.2]] [.agg [.int .u32, .int .u32, .int .u32, .int .i64, .int .i64, .int .i64, .slice]] (fun (r68 : (Int × Int × Int × Int × Int × Int × (Option Addr × Nat × Nat))) h69 =>
  (cellH h69 (Addr.add a3 0) = some (.int .u32 x65.1) ∧ (cellH h69 (Addr.add a3 1) = some (.int .u32 x65.2.1) ∧ (cellH h69 (Addr.add a3 2) = some (.int .u32 x65.2.2.1) ∧ (cellH h69 (Addr.add a3 3) = some (.int .i64 x65.2.2.2.1) ∧ (cellH h69 (Addr.add a3 4) = some (.int .i64 x65.2.2.2.2.1) ∧ (cellH h69 (Addr.add a3 5) = some (.int .i64 x65.2.2.2.2.2.1) ∧ (cellH h69 (Addr.add a3 6) = some (.slice x65.2.2.2.2.2.2.1 x65.2.2.2.2.2.2.2.1 x65.2.2.2.2.2.2.2.2) ∧ callT Tryd.prog 13 [.agg #[.int .u32 x65.1, .int .u32 x65.2.1, .int .u32 x65.2.2.1, .int .i64 x65.2.2.2.1, .int .i64 x65.2.2.2.2.1, .int .i64 x65.2.2.2.2.2.1, .slice x65.2.2.2.2.2.2.1 x65.2.2.2.2.2.2.2.1 x65.2.2.2.2.2.2.2.2]] [.agg [.int .u32, .int .u32, .int .u32, .int .i64, .int .i64, .int .i64, .slice]] (fun (r70 : (Int × Int × Int × Int × Int × Int × (Option Addr × Nat × Nat))) h71 =>
  callT Tryd.prog 20 [.agg #[.int .u32 r68.1, .int .u32 r68.2.1, .int .u32 r68.2.2.1, .int .i64 r68.2.2.2.1, .int .i64 r68.2.2.2.2.1, .int .i64 r68.2.2.2.2.2.1, .slice r68.2.2.2.2.2.2.1 r68.2.2.2.2.2.2.2.1 r68.2.2.2.2.2.2.2.2], .agg #[.int .u32 r70.1, .int .u32 r70.2.1, .int .u32 r70.2.2.1, .int .i64 r70.2.2.2.1, .int .i64 r70.2.2.2.2.1, .int .i64 r70.2.2.2.2.2.1, .slice r70.2.2.2.2.2.2.1 r70.2.2.2.2.2.2.2.1 r70.2.2.2.2.2.2.2.2]] [.sc .bool] (fun (r72 : Bool) h73 =>
  K (.bool (r66 == r72)) h73) h71) h69)))))))) h67))))))))))))))) h61) h61) h61) h61) h61)
  (K (.bool false) h61)) h59) h57)))))))) h53) h53) h53)
  (K (.bool false) h53)) h51)
  (K (.bool false) h51)) h49)))))))) h45) h45) h45)
  (K (.bool false) h45)) h43)
  (K (.bool false) h43)) h41) h32) h31) h29) h27) h26) h24) h22) h20) h17) h17) h14) h14) h6)) h4) h2) h0)
set_option maxRecDepth 100000 in
theorem F3_eq (c_0_0 : Int) (c_0_1 : Int) (c_0_2 : Int) (c_0_3 : Int) (c_0_4 : Int) (c_0_5 : Int) (c_0_6 : Option Addr) (c_0_6l c_0_6c : Nat) (d_1_0 : Int) (d_1_1 : Int) (d_1_2 : Int) (d_1_3 : Int) (d_1_4 : Int) (d_1_5 : Int) (d_1_6 : Option Addr) (d_1_6l d_1_6c : Nat) (l_2 : Option Addr) (l_2l l_2c : Nat) (K : Value → Heap → Prop) (h0 : Heap) : funWE Tryd.prog 3 (.seq (.leaf) (.seq (.seq (.leaf) (.cond (.seq (.leaf) (.leaf)) (.leaf))) (.cut [] (.seq (.leaf) (.cond (.seq (.leaf) (.leaf)) (.leaf))) (.seq (.leaf) (.seq (.leaf) (.seq (.leaf) (.seq (.leaf) (.cut [] (.seq (.leaf) (.seq (.leaf) (.cond (.seq (.leaf) (.leaf)) (.leaf)))) (.seq (.draw (odp [0, 1, 2, 3, 4, 6, 5, 7, 8, 9, 10, 12, 11, 13, 14, 15, 16, 18, 17, 19, 20, 21, 22, 24, 23, 25, 26, 27, 28, 29, 30, 31, 33, 35, 32, 34, 36, 37, 38, 39, 40] .nil) [200012, 200024, 200033, 200035]) (.leaf)))))))))) [.agg #[.int .u32 c_0_0, .int .u32 c_0_1, .int .u32 c_0_2, .int .i64 c_0_3, .int .i64 c_0_4, .int .i64 c_0_5, .slice c_0_6 c_0_6l c_0_6c], .agg #[.int .u32 d_1_0, .int .u32 d_1_1, .int .u32 d_1_2, .int .i64 d_1_3, .int .i64 d_1_4, .int .i64 d_1_5, .slice d_1_6 d_1_6l d_1_6c], .slice l_2 l_2l l_2c] K h0 = F3 c_0_0 c_0_1 c_0_2 c_0_3 c_0_4 c_0_5 c_0_6 c_0_6l c_0_6c d_1_0 d_1_1 d_1_2 d_1_3 d_1_4 d_1_5 d_1_6 d_1_6l d_1_6c l_2 l_2l l_2c K h0 := by kernel_rfl

end Go.Proofs.YthimfpkkdhpceaaDoor.W
