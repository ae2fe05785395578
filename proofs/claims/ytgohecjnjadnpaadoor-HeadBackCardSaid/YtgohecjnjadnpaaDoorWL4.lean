/-
  The formulas of the laws of head. Each formula checked by the kernel. Printed by a program of this repo.
-/
import Derived.Test.YtgohecjnjadnpaaDoorProg
import Derived.Test.YtgohecjnjadnpaaDoorPl
namespace Go.Proofs.YtgohecjnjadnpaaDoor.W
open Go.Pl

-- function 14
set_option maxRecDepth 100000 in
def F14  (K : Value → Heap → Prop) (h0 : Heap) : Prop := (
  newW (.cells (zeroC Tryd.prog 24) 24) (fun a1 h2 =>
  stLW a1 [.int .u8 1, .int .u32 1, .int .u32 2, .int .u32 258] (fun h3 =>
  ldAggW [.int .u8, .int .u32, .int .u32, .int .u32] a1 (fun (x4 : Int × Int × Int × Int) =>
  mkW Tryd.prog 5 (16 : Int) (16 : Int) (fun b5 n6 c7 h8 =>
  callT Tryd.prog 15 [.agg #[.int .u8 x4.1, .int .u32 x4.2.1, .int .u32 x4.2.2.1, .int .u32 x4.2.2.2], .slice b5 n6 c7] [.sc .slice, .sc .any] (fun (r9 : (Option Addr × Nat × Nat) × Value) h10 =>
  cutT [] (fun (K11 : Unit → Heap → Prop) h14 =>
  callT Tryd.prog 20 [r9.2] [.sc (.int .i64)] (fun (r12 : Int) h13 =>
  br (r12 != (0 : Int))
  (K (.bool false) h13)
  (br ((((r9.1.2.1 : Nat) : Int)) != (33 : Int))
  (K (.bool false) h13)
  (K11 () h13))) h14) (fun (_s15 : Unit) _ h16 =>
  callT Tryd.prog 17 [.slice r9.1.1 r9.1.2.1 r9.1.2.2] [.agg [.int .u8, .int .u32, .int .u32, .int .u32], .sc .slice, .sc .any] (fun (r17 : (Int × Int × Int × Int) × (Option Addr × Nat × Nat) × Value) h18 =>
  newW (.cells (zeroC Tryd.prog 24) 24) (fun a19 h20 =>
  stLW a19 [.int .u8 r17.1.1, .int .u32 r17.1.2.1, .int .u32 r17.1.2.2.1, .int .u32 r17.1.2.2.2] (fun h21 =>
  slW r9.1.1 r9.1.2.2 1 (1 : Int) (((r9.1.2.1 : Nat) : Int)) (((r9.1.2.2 : Nat) : Int)) (fun b22 n23 c24 =>
  callT Tryd.prog 17 [.slice b22 n23 c24] [.agg [.int .u8, .int .u32, .int .u32, .int .u32], .sc .slice, .sc .any] (fun (r25 : (Int × Int × Int × Int) × (Option Addr × Nat × Nat) × Value) h26 =>
  newW (.cells (zeroC Tryd.prog 24) 24) (fun a27 h28 =>
  stLW a27 [.int .u8 r25.1.1, .int .u32 r25.1.2.1, .int .u32 r25.1.2.2.1, .int .u32 r25.1.2.2.2] (fun h29 =>
  slW r9.1.1 r9.1.2.2 1 (0 : Int) (13 : Int) (((r9.1.2.2 : Nat) : Int)) (fun b30 n31 c32 =>
  newW (.cells #[.int .u8 1, .int .u8 1, .int .u8 0, .int .u8 0, .int .u8 0, .int .u8 2, .int .u8 0, .int .u8 0, .int .u8 0, .int .u8 2, .int .u8 1, .int .u8 0, .int .u8 0] 5) (fun a33 h34 =>
  callT Tryd.prog 19 [.slice b30 n31 c32, .slice (some a33) 13 13] [.sc .bool] (fun (r35 : Bool) h36 =>
  br r35
  (ldAggW [.int .u8, .int .u32, .int .u32, .int .u32] a19 (fun (x37 : Int × Int × Int × Int) =>
  ldAggW [.int .u8, .int .u32, .int .u32, .int .u32] a1 (fun (x38 : Int × Int × Int × Int) =>
  eqGen Tryd.prog 24 (.agg #[.int .u8 x37.1, .int .u32 x37.2.1, .int .u32 x37.2.2.1, .int .u32 x37.2.2.2]) (.agg #[.int .u8 x38.1, .int .u32 x38.2.1, .int .u32 x38.2.2.1, .int .u32 x38.2.2.2]) (fun b39 =>
  br b39
  (br ((((r17.2.1.2.1 : Nat) : Int)) == (16 : Int))
  (callT Tryd.prog 20 [r17.2.2] [.sc (.int .i64)] (fun (r40 : Int) h41 =>
  br (r40 == (0 : Int))
  (callT Tryd.prog 20 [r25.2.2] [.sc (.int .i64)] (fun (r42 : Int) h43 =>
  br (r42 == (3 : Int))
  (ldAggW [.int .u8, .int .u32, .int .u32, .int .u32] a1 (fun (x44 : Int × Int × Int × Int) =>
  callT Tryd.prog 21 [.agg #[.int .u8 x44.1, .int .u32 x44.2.1, .int .u32 x44.2.2.1, .int .u32 x44.2.2.2]] [.sc .bool] (fun (r45 : Bool) h46 =>
  br r45
  (callT Tryd.prog 21 [.agg #[.int .u8 0, .int .u32 0, .int .u32 0, .int .u32 0]] [.sc .bool] (fun (r47 : Bool) h48 =>
  K (.bool (!r47)) h48) h46)
  (K (.bool false) h46)) h43) h43)
  (K (.bool false) h43)) h41)
  (K (.bool false) h41)) h36)
  (K (.bool false) h36))
  (K (.bool false) h36))) h36) h36)
  (K (.bool false) h36)) h34) h29)) h28) h26) h21)) h20) h18) h16) h10) h8) h3) h3) h2) h0)
set_option maxRecDepth 100000 in
theorem F14_eq  (K : Value → Heap → Prop) (h0 : Heap) : funWE Tryd.prog 14 (.seq (.leaf) (.seq (.leaf) (.seq (.draw (odp [0, 1, 2, 3, 4, 5, 6, 7] .nil) []) (.cut [] (.seq (.leaf) (.cond (.seq (.leaf) (.leaf)) (.leaf))) (.seq (.leaf) (.seq (.leaf) (.seq (.leaf) (.leaf)))))))) [] K h0 = F14  K h0 := by kernel_rfl

-- function 3
set_option maxRecDepth 100000 in
def F3 (h_0_0 : Int) (h_0_1 : Int) (h_0_2 : Int) (h_0_3 : Int) (block_1 : Option Addr) (block_1l block_1c : Nat) (page_2 : Option Addr) (page_2l page_2c : Nat) (K : Value → Heap → Prop) (h0 : Heap) : Prop := (
  newW (.cells #[.int .u8 h_0_0, .int .u32 h_0_1, .int .u32 h_0_2, .int .u32 h_0_3] 24) (fun a1 h2 =>
  callT Tryd.prog 14 [] [.sc .bool] (fun (r3 : Bool) h4 =>
  br (!r3)
  (K (.bool false) h4)
  (cutT [] (fun (K5 : Unit → Heap → Prop) h6 =>
  br (decide ((((block_1l : Nat) : Int)) > (1000 : Int)))
  (K (.bool true) h6)
  (br (decide ((((page_2l : Nat) : Int)) > (1000 : Int)))
  (K (.bool true) h6)
  (K5 () h6))) (fun (_s7 : Unit) _ h8 =>
  ldAggW [.int .u8, .int .u32, .int .u32, .int .u32] a1 (fun (x9 : Int × Int × Int × Int) =>
  callT Tryd.prog 15 [.agg #[.int .u8 x9.1, .int .u32 x9.2.1, .int .u32 x9.2.2.1, .int .u32 x9.2.2.2], .slice block_1 block_1l block_1c] [.sc .slice, .sc .any] (fun (r10 : (Option Addr × Nat × Nat) × Value) h11 =>
  ldAggW [.int .u8, .int .u32, .int .u32, .int .u32] a1 (fun (x12 : Int × Int × Int × Int) =>
  callT Tryd.prog 16 [.agg #[.int .u8 x12.1, .int .u32 x12.2.1, .int .u32 x12.2.2.1, .int .u32 x12.2.2.2], .slice block_1 block_1l block_1c] [.sc .slice, .sc (.int .i64)] (fun (r13 : (Option Addr × Nat × Nat) × Int) h14 =>
  callT Tryd.prog 17 [.slice page_2 page_2l page_2c] [.agg [.int .u8, .int .u32, .int .u32, .int .u32], .sc .slice, .sc .any] (fun (r15 : (Int × Int × Int × Int) × (Option Addr × Nat × Nat) × Value) h16 =>
  newW (.cells (zeroC Tryd.prog 24) 24) (fun a17 h18 =>
  stLW a17 [.int .u8 r15.1.1, .int .u32 r15.1.2.1, .int .u32 r15.1.2.2.1, .int .u32 r15.1.2.2.2] (fun h19 =>
  callT Tryd.prog 18 [.slice page_2 page_2l page_2c] [.agg [.int .u8, .int .u32, .int .u32, .int .u32], .sc .slice, .sc (.int .i64)] (fun (r20 : (Int × Int × Int × Int) × (Option Addr × Nat × Nat) × Int) h21 =>
  newW (.cells (zeroC Tryd.prog 34) 34) (fun a22 h23 =>
  stLW a22 [.int .u8 r20.1.1, .int .u32 r20.1.2.1, .int .u32 r20.1.2.2.1, .int .u32 r20.1.2.2.2] (fun h24 =>
  callT Tryd.prog 19 [.slice r10.1.1 r10.1.2.1 r10.1.2.2, .slice r13.1.1 r13.1.2.1 r13.1.2.2] [.sc .bool] (fun (r25 : Bool) h26 =>
  br r25
  (callT Tryd.prog 20 [r10.2] [.sc (.int .i64)] (fun (r27 : Int) h28 =>
  br (r27 == r13.2)
  (ldAggW [.int .u8, .int .u32, .int .u32, .int .u32] a17 (fun (x29 : Int × Int × Int × Int) =>
  ldAggW [.int .u8, .int .u32, .int .u32, .int .u32] a22 (fun (x30 : Int × Int × Int × Int) =>
  eqGen Tryd.prog 34 (.agg #[.int .u8 x29.1, .int .u32 x29.2.1, .int .u32 x29.2.2.1, .int .u32 x29.2.2.2]) (.agg #[.int .u8 x30.1, .int .u32 x30.2.1, .int .u32 x30.2.2.1, .int .u32 x30.2.2.2]) (fun b31 =>
  br b31
  (callT Tryd.prog 19 [.slice r15.2.1.1 r15.2.1.2.1 r15.2.1.2.2, .slice r20.2.1.1 r20.2.1.2.1 r20.2.1.2.2] [.sc .bool] (fun (r32 : Bool) h33 =>
  br r32
  (callT Tryd.prog 20 [r15.2.2] [.sc (.int .i64)] (fun (r34 : Int) h35 =>
  br (r34 == r20.2.2)
  (ldAggW [.int .u8, .int .u32, .int .u32, .int .u32] a1 (fun (x36 : Int × Int × Int × Int) =>
  ldAggW [.int .u8, .int .u32, .int .u32, .int .u32] a1 (fun (x37 : Int × Int × Int × Int) =>
  callT Tryd.prog 21 [.agg #[.int .u8 x36.1, .int .u32 x36.2.1, .int .u32 x36.2.2.1, .int .u32 x36.2.2.2]] [.sc .bool] (fun (r38 : Bool) h39 =>
  (cellH h39 (Addr.add a1 0) = some (.int .u8 x37.1) ∧ (cellH h39 (Addr.add a1 1) = some (.int .u32 x37.2.1) ∧ (cellH h39 (Addr.add a1 2) = some (.int .u32 x37.2.2.1) ∧ (cellH h39 (Addr.add a1 3) = some (.int .u32 x37.2.2.2) ∧ callT Tryd.prog 22 [.agg #[.int .u8 x37.1, .int .u32 x37.2.1, .int .u32 x37.2.2.1, .int .u32 x37.2.2.2]] [.sc .bool] (fun (r40 : Bool) h41 =>
  K (.bool (r38 == r40)) h41) h39))))) h35) h35) h35)
  (K (.bool false) h35)) h33)
  (K (.bool false) h33)) h28)
  (K (.bool false) h28))) h28) h28)
  (K (.bool false) h28)) h26)
  (K (.bool false) h26)) h24) h23) h21) h19) h18) h16) h14) h11) h11) h8) h8) h4)) h2) h0)
set_option maxRecDepth 100000 in
theorem F3_eq (h_0_0 : Int) (h_0_1 : Int) (h_0_2 : Int) (h_0_3 : Int) (block_1 : Option Addr) (block_1l block_1c : Nat) (page_2 : Option Addr) (page_2l page_2c : Nat) (K : Value → Heap → Prop) (h0 : Heap) : funWE Tryd.prog 3 (.seq (.leaf) (.seq (.seq (.leaf) (.cond (.seq (.leaf) (.leaf)) (.leaf))) (.cut [] (.seq (.leaf) (.cond (.seq (.leaf) (.leaf)) (.leaf))) (.seq (.leaf) (.seq (.leaf) (.seq (.leaf) (.seq (.leaf) (.seq (.draw (odp [0, 1, 2, 3, 4, 6, 5, 7, 8, 9, 10, 11, 12, 13, 14, 15, 16, 17, 18, 19, 20, 22, 21, 23, 24, 25, 26, 28, 27, 29, 30, 31, 32] .nil) [200028]) (.leaf))))))))) [.agg #[.int .u8 h_0_0, .int .u32 h_0_1, .int .u32 h_0_2, .int .u32 h_0_3], .slice block_1 block_1l block_1c, .slice page_2 page_2l page_2c] K h0 = F3 h_0_0 h_0_1 h_0_2 h_0_3 block_1 block_1l block_1c page_2 page_2l page_2c K h0 := by kernel_rfl

-- function 4
set_option maxRecDepth 100000 in
def F4 (h_0_0 : Int) (h_0_1 : Int) (h_0_2 : Int) (h_0_3 : Int) (block_1 : Option Addr) (block_1l block_1c : Nat) (page_2 : Option Addr) (page_2l page_2c : Nat) (K : Value → Heap → Prop) (h0 : Heap) : Prop := (
  newW (.cells #[.int .u8 h_0_0, .int .u32 h_0_1, .int .u32 h_0_2, .int .u32 h_0_3] 24) (fun a1 h2 =>
  callT Tryd.prog 14 [] [.sc .bool] (fun (r3 : Bool) h4 =>
  br (!r3)
  (K (.bool false) h4)
  (cutT [] (fun (K5 : Unit → Heap → Prop) h6 =>
  br (decide ((((block_1l : Nat) : Int)) > (1000 : Int)))
  (K (.bool true) h6)
  (br (decide ((((page_2l : Nat) : Int)) > (1000 : Int)))
  (K (.bool true) h6)
  (K5 () h6))) (fun (_s7 : Unit) _ h8 =>
  ldAggW [.int .u8, .int .u32, .int .u32, .int .u32] a1 (fun (x9 : Int × Int × Int × Int) =>
  callT Tryd.prog 15 [.agg #[.int .u8 x9.1, .int .u32 x9.2.1, .int .u32 x9.2.2.1, .int .u32 x9.2.2.2], .slice block_1 block_1l block_1c] [.sc .slice, .sc .any] (fun (r10 : (Option Addr × Nat × Nat) × Value) h11 =>
  cutT [] (fun (K12 : Unit → Heap → Prop) h26 =>
  ifW r10.2 (br (isNilV r10.2)
  (callT Tryd.prog 17 [.slice r10.1.1 r10.1.2.1 r10.1.2.2] [.agg [.int .u8, .int .u32, .int .u32, .int .u32], .sc .slice, .sc .any] (fun (r13 : (Int × Int × Int × Int) × (Option Addr × Nat × Nat) × Value) h14 =>
  newW (.cells (zeroC Tryd.prog 24) 24) (fun a15 h16 =>
  stLW a15 [.int .u8 r13.1.1, .int .u32 r13.1.2.1, .int .u32 r13.1.2.2.1, .int .u32 r13.1.2.2.2] (fun h17 =>
  ifW r13.2.2 (br (!(isNilV r13.2.2))
  (K (.bool false) h17)
  (ldAggW [.int .u8, .int .u32, .int .u32, .int .u32] a15 (fun (x18 : Int × Int × Int × Int) =>
  ldAggW [.int .u8, .int .u32, .int .u32, .int .u32] a1 (fun (x19 : Int × Int × Int × Int) =>
  eqGen Tryd.prog 24 (.agg #[.int .u8 x18.1, .int .u32 x18.2.1, .int .u32 x18.2.2.1, .int .u32 x18.2.2.2]) (.agg #[.int .u8 x19.1, .int .u32 x19.2.1, .int .u32 x19.2.2.1, .int .u32 x19.2.2.2]) (fun b20 =>
  br (!b20)
  (K (.bool false) h17)
  (callT Tryd.prog 19 [.slice r13.2.1.1 r13.2.1.2.1 r13.2.1.2.2, .slice block_1 block_1l block_1c] [.sc .bool] (fun (r21 : Bool) h22 =>
  br (!r21)
  (K (.bool false) h22)
  (K12 () h22)) h17))) h17) h17))) h16) h14) h26)
  (ldAggW [.int .u8, .int .u32, .int .u32, .int .u32] a1 (fun (x23 : Int × Int × Int × Int) =>
  callT Tryd.prog 21 [.agg #[.int .u8 x23.1, .int .u32 x23.2.1, .int .u32 x23.2.2.1, .int .u32 x23.2.2.2]] [.sc .bool] (fun (r24 : Bool) h25 =>
  br r24
  (br ((((block_1l : Nat) : Int)) == (16 : Int))
  (K (.bool false) h25)
  (br ((((r10.1.2.1 : Nat) : Int)) != (0 : Int))
  (K (.bool false) h25)
  (K12 () h25)))
  (br ((((r10.1.2.1 : Nat) : Int)) != (0 : Int))
  (K (.bool false) h25)
  (K12 () h25))) h26) h26))) (fun (_s27 : Unit) _ h28 =>
  callT Tryd.prog 17 [.slice page_2 page_2l page_2c] [.agg [.int .u8, .int .u32, .int .u32, .int .u32], .sc .slice, .sc .any] (fun (r29 : (Int × Int × Int × Int) × (Option Addr × Nat × Nat) × Value) h30 =>
  newW (.cells (zeroC Tryd.prog 24) 24) (fun a31 h32 =>
  stLW a31 [.int .u8 r29.1.1, .int .u32 r29.1.2.1, .int .u32 r29.1.2.2.1, .int .u32 r29.1.2.2.2] (fun h33 =>
  ifW r29.2.2 (br (!(isNilV r29.2.2))
  (cutT [.sc .bool] (fun (K34 : Bool → Heap → Prop) h37 =>
  ldAggW [.int .u8, .int .u32, .int .u32, .int .u32] a31 (fun (x35 : Int × Int × Int × Int) =>
  eqGen Tryd.prog 24 (.agg #[.int .u8 x35.1, .int .u32 x35.2.1, .int .u32 x35.2.2.1, .int .u32 x35.2.2.2]) (.agg #[.int .u8 0, .int .u32 0, .int .u32 0, .int .u32 0]) (fun b36 =>
  br b36
  (K34 ((((r29.2.1.2.1 : Nat) : Int)) == (0 : Int)) h37)
  (K34 false h37))) h37) (fun (s38 : Bool) _ h39 =>
  K (.bool s38) h39) h33)
  (ldAggW [.int .u8, .int .u32, .int .u32, .int .u32] a31 (fun (x40 : Int × Int × Int × Int) =>
  callT Tryd.prog 15 [.agg #[.int .u8 x40.1, .int .u32 x40.2.1, .int .u32 x40.2.2.1, .int .u32 x40.2.2.2], .slice r29.2.1.1 r29.2.1.2.1 r29.2.1.2.2] [.sc .slice, .sc .any] (fun (r41 : (Option Addr × Nat × Nat) × Value) h42 =>
  ifW r41.2 (br (isNilV r41.2)
  (callT Tryd.prog 19 [.slice r41.1.1 r41.1.2.1 r41.1.2.2, .slice page_2 page_2l page_2c] [.sc .bool] (fun (r43 : Bool) h44 =>
  K (.bool r43) h44) h42)
  (K (.bool false) h42))) h33) h33))) h32) h30) h28) h11) h8) h8) h4)) h2) h0)
set_option maxRecDepth 100000 in
theorem F4_eq (h_0_0 : Int) (h_0_1 : Int) (h_0_2 : Int) (h_0_3 : Int) (block_1 : Option Addr) (block_1l block_1c : Nat) (page_2 : Option Addr) (page_2l page_2c : Nat) (K : Value → Heap → Prop) (h0 : Heap) : funWE Tryd.prog 4 (.seq (.leaf) (.seq (.seq (.leaf) (.cond (.seq (.leaf) (.leaf)) (.leaf))) (.cut [] (.seq (.leaf) (.cond (.seq (.leaf) (.leaf)) (.leaf))) (.seq (.leaf) (.cut [] (.seq (.leaf) (.cond (.seq (.leaf) (.seq (.leaf) (.cond (.seq (.leaf) (.leaf)) (.leaf)))) (.seq (.leaf) (.cond (.seq (.leaf) (.leaf)) (.leaf))))) (.seq (.leaf) (.seq (.seq (.leaf) (.cond (.cut [(6, .sc .bool)] (.leaf) (.leaf)) (.leaf))) (.seq (.leaf) (.seq (.leaf) (.leaf)))))))))) [.agg #[.int .u8 h_0_0, .int .u32 h_0_1, .int .u32 h_0_2, .int .u32 h_0_3], .slice block_1 block_1l block_1c, .slice page_2 page_2l page_2c] K h0 = F4 h_0_0 h_0_1 h_0_2 h_0_3 block_1 block_1l block_1c page_2 page_2l page_2c K h0 := by kernel_rfl

-- function 5
set_option maxRecDepth 100000 in
def F5 (h_0_0 : Int) (h_0_1 : Int) (h_0_2 : Int) (h_0_3 : Int) (block_1 : Option Addr) (block_1l block_1c : Nat) (at_2 : Int) (c_3 : Int) (K : Value → Heap → Prop) (h0 : Heap) : Prop := (
  newW (.cells #[.int .u8 h_0_0, .int .u32 h_0_1, .int .u32 h_0_2, .int .u32 h_0_3] 24) (fun a1 h2 =>
  callT Tryd.prog 14 [] [.sc .bool] (fun (r3 : Bool) h4 =>
  br (!r3)
  (K (.bool false) h4)
  (ldAggW [.int .u8, .int .u32, .int .u32, .int .u32] a1 (fun (x5 : Int × Int × Int × Int) =>
  callT Tryd.prog 15 [.agg #[.int .u8 x5.1, .int .u32 x5.2.1, .int .u32 x5.2.2.1, .int .u32 x5.2.2.2], .slice block_1 block_1l block_1c] [.sc .slice, .sc .any] (fun (r6 : (Option Addr × Nat × Nat) × Value) h7 =>
  cutT [] (fun (K8 : Unit → Heap → Prop) h18 =>
  cutT [.sc .bool] (fun (K9 : Bool → Heap → Prop) h12 =>
  ifW r6.2 (br (!(isNilV r6.2))
  (K9 true h12)
  (br (decide (at_2 < (0 : Int)))
  (K9 true h12)
  (br (decide (at_2 ≥ (((r6.1.2.1 : Nat) : Int))))
  (K9 true h12)
  (ptrW r6.1.1 (fun a10 =>
  idxW at_2 r6.1.2.1 true (ldW (.int .u8) (Addr.add a10 (Int.toNat at_2 * 1)) (fun (x11 : Int) =>
  K9 (x11 == c_3) h12) h12))))))) (fun (s13 : Bool) _ h14 =>
  br s13
  (ifW r6.2 (br (isNilV r6.2)
  (K (.bool true) h14)
  (ldAggW [.int .u8, .int .u32, .int .u32, .int .u32] a1 (fun (x15 : Int × Int × Int × Int) =>
  callT Tryd.prog 21 [.agg #[.int .u8 x15.1, .int .u32 x15.2.1, .int .u32 x15.2.2.1, .int .u32 x15.2.2.2]] [.sc .bool] (fun (r16 : Bool) h17 =>
  br (!r16)
  (K (.bool true) h17)
  (K (.bool ((((block_1l : Nat) : Int)) != (16 : Int))) h17)) h14) h14)))
  (K8 () h14)) h18) (fun (_s19 : Unit) _ h20 =>
  ptrW r6.1.1 (fun a21 =>
  idxW at_2 r6.1.2.1 true (stW (Addr.add a21 (Int.toNat at_2 * 1)) (.int .u8 c_3) (fun h22 =>
  callT Tryd.prog 17 [.slice r6.1.1 r6.1.2.1 r6.1.2.2] [.agg [.int .u8, .int .u32, .int .u32, .int .u32], .sc .slice, .sc .any] (fun (r23 : (Int × Int × Int × Int) × (Option Addr × Nat × Nat) × Value) h24 =>
  newW (.cells (zeroC Tryd.prog 24) 24) (fun a25 h26 =>
  stLW a25 [.int .u8 r23.1.1, .int .u32 r23.1.2.1, .int .u32 r23.1.2.2.1, .int .u32 r23.1.2.2.2] (fun h27 =>
  callT Tryd.prog 20 [r23.2.2] [.sc (.int .i64)] (fun (r28 : Int) h29 =>
  br (r28 == (4 : Int))
  (ldAggW [.int .u8, .int .u32, .int .u32, .int .u32] a25 (fun (x30 : Int × Int × Int × Int) =>
  eqGen Tryd.prog 24 (.agg #[.int .u8 x30.1, .int .u32 x30.2.1, .int .u32 x30.2.2.1, .int .u32 x30.2.2.2]) (.agg #[.int .u8 0, .int .u32 0, .int .u32 0, .int .u32 0]) (fun b31 =>
  br b31
  (K (.bool ((((r23.2.1.2.1 : Nat) : Int)) == (0 : Int))) h29)
  (K (.bool false) h29))) h29)
  (K (.bool false) h29)) h27) h26) h24) h22) h20))) h7) h4) h4)) h2) h0)
set_option maxRecDepth 100000 in
theorem F5_eq (h_0_0 : Int) (h_0_1 : Int) (h_0_2 : Int) (h_0_3 : Int) (block_1 : Option Addr) (block_1l block_1c : Nat) (at_2 : Int) (c_3 : Int) (K : Value → Heap → Prop) (h0 : Heap) : funWE Tryd.prog 5 (.seq (.leaf) (.seq (.seq (.leaf) (.cond (.seq (.leaf) (.leaf)) (.leaf))) (.seq (.leaf) (.cut [] (.cut [(41, .sc .bool)] (.leaf) (.cond (.seq (.leaf) (.leaf)) (.leaf))) (.seq (.leaf) (.seq (.leaf) (.seq (.leaf) (.leaf)))))))) [.agg #[.int .u8 h_0_0, .int .u32 h_0_1, .int .u32 h_0_2, .int .u32 h_0_3], .slice block_1 block_1l block_1c, .int .i64 at_2, .int .u8 c_3] K h0 = F5 h_0_0 h_0_1 h_0_2 h_0_3 block_1 block_1l block_1c at_2 c_3 K h0 := by kernel_rfl

end Go.Proofs.YtgohecjnjadnpaaDoor.W
