/-
  The formulas of the laws of body. Each formula checked by the kernel. Printed by a program of this repo.
-/
import Derived.Test.YtogeildomhahjaaDoorProg
import Derived.Test.YtogeildomhahjaaDoorPl
namespace Go.Proofs.YtogeildomhahjaaDoor.W
open Go.Pl

-- function 12
set_option maxRecDepth 100000 in
def F12  (K : Value → Heap → Prop) (h0 : Heap) : Prop := (
  callT Tryd.prog 18 [.agg #[.int .u32 1, .int .u32 0, .int .u32 258, .int .u32 0]] [.sc .slice] (fun (r1 : (Option Addr × Nat × Nat)) h2 =>
  callT Tryd.prog 13 [.slice r1.1 r1.2.1 r1.2.2] [.agg [.int .u32, .int .u32, .int .u32, .int .u32], .sc .any] (fun (r3 : (Int × Int × Int × Int) × Value) h4 =>
  newW (.cells (zeroC Tryd.prog 24) 24) (fun a5 h6 =>
  stLW a5 [.int .u32 r3.1.1, .int .u32 r3.1.2.1, .int .u32 r3.1.2.2.1, .int .u32 r3.1.2.2.2] (fun h7 =>
  callT Tryd.prog 20 [.int .u32 7] [.sc .slice] (fun (r8 : (Option Addr × Nat × Nat)) h9 =>
  callT Tryd.prog 15 [.slice r8.1 r8.2.1 r8.2.2] [.sc (.int .u32), .sc .any] (fun (r10 : Int × Value) h11 =>
  callT Tryd.prog 20 [.int .u32 0] [.sc .slice] (fun (r12 : (Option Addr × Nat × Nat)) h13 =>
  callT Tryd.prog 15 [.slice r12.1 r12.2.1 r12.2.2] [.sc (.int .u32), .sc .any] (fun (r14 : Int × Value) h15 =>
  newW (.cells #[.int .u8 1, .int .u8 0, .int .u8 0, .int .u8 0, .int .u8 0, .int .u8 0, .int .u8 0, .int .u8 0, .int .u8 2, .int .u8 1, .int .u8 0, .int .u8 0, .int .u8 0, .int .u8 0, .int .u8 0, .int .u8 0] 5) (fun a16 h17 =>
  callT Tryd.prog 17 [.slice r1.1 r1.2.1 r1.2.2, .slice (some a16) 16 16] [.sc .bool] (fun (r18 : Bool) h19 =>
  br r18
  (ldAggW [.int .u32, .int .u32, .int .u32, .int .u32] a5 (fun (x20 : Int × Int × Int × Int) =>
  eqGen Tryd.prog 24 (.agg #[.int .u32 x20.1, .int .u32 x20.2.1, .int .u32 x20.2.2.1, .int .u32 x20.2.2.2]) (.agg #[.int .u32 1, .int .u32 0, .int .u32 258, .int .u32 0]) (fun b21 =>
  br b21
  (ifW r3.2 (br (isNilV r3.2)
  (br (r10.1 == (7 : Int))
  (ifW r10.2 (br (isNilV r10.2)
  (callT Tryd.prog 21 [r14.2] [.sc (.int .i64)] (fun (r22 : Int) h23 =>
  K (.bool (r22 == (2 : Int))) h23) h19)
  (K (.bool false) h19)))
  (K (.bool false) h19))
  (K (.bool false) h19)))
  (K (.bool false) h19))) h19)
  (K (.bool false) h19)) h17) h15) h13) h11) h9) h7) h6) h4) h2) h0)
set_option maxRecDepth 100000 in
theorem F12_eq  (K : Value → Heap → Prop) (h0 : Heap) : funWE Tryd.prog 12 (.seq (.leaf) (.seq (.leaf) (.seq (.leaf) (.seq (.leaf) (.seq (.leaf) (.seq (.leaf) (.leaf))))))) [] K h0 = F12  K h0 := by kernel_rfl

-- function 3
set_option maxRecDepth 100000 in
def F3 (l_0_0 : Int) (l_0_1 : Int) (l_0_2 : Int) (l_0_3 : Int) (many_1 : Int) (b_2 : Option Addr) (b_2l b_2c : Nat) (K : Value → Heap → Prop) (h0 : Heap) : Prop := (
  newW (.cells #[.int .u32 l_0_0, .int .u32 l_0_1, .int .u32 l_0_2, .int .u32 l_0_3] 24) (fun a1 h2 =>
  callT Tryd.prog 12 [] [.sc .bool] (fun (r3 : Bool) h4 =>
  br (!r3)
  (K (.bool false) h4)
  (br (decide ((((b_2l : Nat) : Int)) > (1000 : Int)))
  (K (.bool true) h4)
  (callT Tryd.prog 13 [.slice b_2 b_2l b_2c] [.agg [.int .u32, .int .u32, .int .u32, .int .u32], .sc .any] (fun (r5 : (Int × Int × Int × Int) × Value) h6 =>
  newW (.cells (zeroC Tryd.prog 24) 24) (fun a7 h8 =>
  stLW a7 [.int .u32 r5.1.1, .int .u32 r5.1.2.1, .int .u32 r5.1.2.2.1, .int .u32 r5.1.2.2.2] (fun h9 =>
  callT Tryd.prog 14 [.slice b_2 b_2l b_2c] [.agg [.int .u32, .int .u32, .int .u32, .int .u32], .sc (.int .i64)] (fun (r10 : (Int × Int × Int × Int) × Int) h11 =>
  newW (.cells (zeroC Tryd.prog 23) 23) (fun a12 h13 =>
  stLW a12 [.int .u32 r10.1.1, .int .u32 r10.1.2.1, .int .u32 r10.1.2.2.1, .int .u32 r10.1.2.2.2] (fun h14 =>
  callT Tryd.prog 15 [.slice b_2 b_2l b_2c] [.sc (.int .u32), .sc .any] (fun (r15 : Int × Value) h16 =>
  callT Tryd.prog 16 [.slice b_2 b_2l b_2c] [.sc (.int .u32), .sc (.int .i64)] (fun (r17 : Int × Int) h18 =>
  ldAggW [.int .u32, .int .u32, .int .u32, .int .u32] a1 (fun (x19 : Int × Int × Int × Int) =>
  ldAggW [.int .u32, .int .u32, .int .u32, .int .u32] a1 (fun (x20 : Int × Int × Int × Int) =>
  callT Tryd.prog 18 [.agg #[.int .u32 x19.1, .int .u32 x19.2.1, .int .u32 x19.2.2.1, .int .u32 x19.2.2.2]] [.sc .slice] (fun (r21 : (Option Addr × Nat × Nat)) h22 =>
  (callT Tryd.prog 19 [.agg #[.int .u32 x20.1, .int .u32 x20.2.1, .int .u32 x20.2.2.1, .int .u32 x20.2.2.2]] [.sc .slice] (fun (r23 : (Option Addr × Nat × Nat)) h24 =>
  (callQ Tryd.prog 17 [.slice r21.1 r21.2.1 r21.2.2, .slice r23.1 r23.2.1 r23.2.2] [.sc .bool] (fun (r25 : Bool) =>
  br r25
  (callT Tryd.prog 20 [.int .u32 many_1] [.sc .slice] (fun (r26 : (Option Addr × Nat × Nat)) h27 =>
  (callT Tryd.prog 19 [.agg #[.int .u32 many_1, .int .u32 0, .int .u32 0, .int .u32 0]] [.sc .slice] (fun (r28 : (Option Addr × Nat × Nat)) h29 =>
  (callQ Tryd.prog 17 [.slice r26.1 r26.2.1 r26.2.2, .slice r28.1 r28.2.1 r28.2.2] [.sc .bool] (fun (r30 : Bool) =>
  br r30
  (ldAggW [.int .u32, .int .u32, .int .u32, .int .u32] a7 (fun (x31 : Int × Int × Int × Int) =>
  ldAggW [.int .u32, .int .u32, .int .u32, .int .u32] a12 (fun (x32 : Int × Int × Int × Int) =>
  eqGen Tryd.prog 24 (.agg #[.int .u32 x31.1, .int .u32 x31.2.1, .int .u32 x31.2.2.1, .int .u32 x31.2.2.2]) (.agg #[.int .u32 x32.1, .int .u32 x32.2.1, .int .u32 x32.2.2.1, .int .u32 x32.2.2.2]) (fun b33 =>
  br b33
  (callT Tryd.prog 21 [r5.2] [.sc (.int .i64)] (fun (r34 : Int) h35 =>
  (br (r34 == r10.2)
  (br (r15.1 == r17.1)
  (callT Tryd.prog 21 [r15.2] [.sc (.int .i64)] (fun (r36 : Int) h37 =>
  (K (.bool (r36 == r17.2)) h37 ∧ Ext h35 h37)) h35)
  (K (.bool false) h35))
  (K (.bool false) h35) ∧ Ext h29 h35)) h29)
  (K (.bool false) h29))) h29) h29)
  (K (.bool false) h29)) h29 ∧ Ext h27 h29)) h27 ∧ Ext h24 h27)) h24)
  (K (.bool false) h24)) h24 ∧ Ext h22 h24)) h22 ∧ Ext h18 h22)) h18) h18) h18) h16) h14) h13) h11) h9) h8) h6) h4))) h2) h0)
set_option maxRecDepth 100000 in
theorem F3_eq (l_0_0 : Int) (l_0_1 : Int) (l_0_2 : Int) (l_0_3 : Int) (many_1 : Int) (b_2 : Option Addr) (b_2l b_2c : Nat) (K : Value → Heap → Prop) (h0 : Heap) : funWE Tryd.prog 3 (.seq (.leaf) (.seq (.seq (.leaf) (.cond (.seq (.leaf) (.leaf)) (.leaf))) (.seq (.seq (.leaf) (.cond (.seq (.leaf) (.leaf)) (.leaf))) (.seq (.leaf) (.seq (.leaf) (.seq (.leaf) (.seq (.leaf) (.seq (.draw [0, 2, 1, 3, 4, 5, 6, 8, 9, 7, 10, 11, 12, 13, 14, 15, 16, 17, 18, 19, 21, 20, 22, 23, 24, 25, 26, 27, 28, 29, 30, 32, 31, 33, 34, 35] [100001, 100003, 4, 100007, 100010, 11, 100020, 100031]) (.leaf))))))))) [.agg #[.int .u32 l_0_0, .int .u32 l_0_1, .int .u32 l_0_2, .int .u32 l_0_3], .int .u32 many_1, .slice b_2 b_2l b_2c] K h0 = F3 l_0_0 l_0_1 l_0_2 l_0_3 many_1 b_2 b_2l b_2c K h0 := by kernel_rfl

-- function 4
set_option maxRecDepth 100000 in
def F4 (l_0_0 : Int) (l_0_1 : Int) (l_0_2 : Int) (l_0_3 : Int) (many_1 : Int) (b_2 : Option Addr) (b_2l b_2c : Nat) (K : Value → Heap → Prop) (h0 : Heap) : Prop := (
  newW (.cells #[.int .u32 l_0_0, .int .u32 l_0_1, .int .u32 l_0_2, .int .u32 l_0_3] 24) (fun a1 h2 =>
  callT Tryd.prog 12 [] [.sc .bool] (fun (r3 : Bool) h4 =>
  br (!r3)
  (K (.bool false) h4)
  (br (decide ((((b_2l : Nat) : Int)) > (1000 : Int)))
  (K (.bool true) h4)
  (ldAggW [.int .u32, .int .u32, .int .u32, .int .u32] a1 (fun (x5 : Int × Int × Int × Int) =>
  callT Tryd.prog 18 [.agg #[.int .u32 x5.1, .int .u32 x5.2.1, .int .u32 x5.2.2.1, .int .u32 x5.2.2.2]] [.sc .slice] (fun (r6 : (Option Addr × Nat × Nat)) h7 =>
  callT Tryd.prog 13 [.slice r6.1 r6.2.1 r6.2.2] [.agg [.int .u32, .int .u32, .int .u32, .int .u32], .sc .any] (fun (r8 : (Int × Int × Int × Int) × Value) h9 =>
  newW (.cells (zeroC Tryd.prog 24) 24) (fun a10 h11 =>
  stLW a10 [.int .u32 r8.1.1, .int .u32 r8.1.2.1, .int .u32 r8.1.2.2.1, .int .u32 r8.1.2.2.2] (fun h12 =>
  cutT [] (fun (K13 : Unit → Heap → Prop) h20 =>
  ldAggW [.int .u32, .int .u32, .int .u32, .int .u32] a10 (fun (x14 : Int × Int × Int × Int) =>
  ldAggW [.int .u32, .int .u32, .int .u32, .int .u32] a1 (fun (x15 : Int × Int × Int × Int) =>
  eqGen Tryd.prog 24 (.agg #[.int .u32 x14.1, .int .u32 x14.2.1, .int .u32 x14.2.2.1, .int .u32 x14.2.2.2]) (.agg #[.int .u32 x15.1, .int .u32 x15.2.1, .int .u32 x15.2.2.1, .int .u32 x15.2.2.2]) (fun b16 =>
  br (!b16)
  (K (.bool false) h20)
  (ifW r8.2 (br (!(isNilV r8.2))
  (K (.bool false) h20)
  (ldAggW [.int .u32, .int .u32, .int .u32, .int .u32] a1 (fun (x17 : Int × Int × Int × Int) =>
  callT Tryd.prog 18 [.agg #[.int .u32 x17.1, .int .u32 x17.2.1, .int .u32 x17.2.2.1, .int .u32 x17.2.2.2]] [.sc .slice] (fun (r18 : (Option Addr × Nat × Nat)) h19 =>
  br ((((r18.2.1 : Nat) : Int)) != (16 : Int))
  (K (.bool false) h19)
  (K13 () h19)) h20) h20))))) h20) h20) (fun (_s21 : Unit) _ h22 =>
  callT Tryd.prog 20 [.int .u32 many_1] [.sc .slice] (fun (r23 : (Option Addr × Nat × Nat)) h24 =>
  callT Tryd.prog 15 [.slice r23.1 r23.2.1 r23.2.2] [.sc (.int .u32), .sc .any] (fun (r25 : Int × Value) h26 =>
  cutT [] (fun (K27 : Unit → Heap → Prop) h28 =>
  br (decide (many_1 > (0 : Int)))
  (br (r25.1 != many_1)
  (K (.bool false) h28)
  (ifW r25.2 (br (!(isNilV r25.2))
  (K (.bool false) h28)
  (br (many_1 == (0 : Int))
  (ifW r25.2 (br (isNilV r25.2)
  (K (.bool false) h28)
  (K27 () h28)))
  (K27 () h28)))))
  (br (many_1 == (0 : Int))
  (ifW r25.2 (br (isNilV r25.2)
  (K (.bool false) h28)
  (K27 () h28)))
  (K27 () h28))) (fun (_s29 : Unit) _ h30 =>
  callT Tryd.prog 13 [.slice b_2 b_2l b_2c] [.agg [.int .u32, .int .u32, .int .u32, .int .u32], .sc .any] (fun (r31 : (Int × Int × Int × Int) × Value) h32 =>
  newW (.cells (zeroC Tryd.prog 24) 24) (fun a33 h34 =>
  stLW a33 [.int .u32 r31.1.1, .int .u32 r31.1.2.1, .int .u32 r31.1.2.2.1, .int .u32 r31.1.2.2.2] (fun h35 =>
  ifW r31.2 (br (!(isNilV r31.2))
  (cutT [.sc .bool] (fun (K36 : Bool → Heap → Prop) h39 =>
  br ((((b_2l : Nat) : Int)) != (16 : Int))
  (ldAggW [.int .u32, .int .u32, .int .u32, .int .u32] a33 (fun (x37 : Int × Int × Int × Int) =>
  eqGen Tryd.prog 24 (.agg #[.int .u32 x37.1, .int .u32 x37.2.1, .int .u32 x37.2.2.1, .int .u32 x37.2.2.2]) (.agg #[.int .u32 0, .int .u32 0, .int .u32 0, .int .u32 0]) (fun b38 =>
  K36 b38 h39)) h39)
  (K36 false h39)) (fun (s40 : Bool) _ h41 =>
  K (.bool s40) h41) h35)
  (callT Tryd.prog 15 [.slice b_2 b_2l b_2c] [.sc (.int .u32), .sc .any] (fun (r42 : Int × Value) h43 =>
  ldAggW [.int .u32, .int .u32, .int .u32, .int .u32] a33 (fun (x44 : Int × Int × Int × Int) =>
  callT Tryd.prog 18 [.agg #[.int .u32 x44.1, .int .u32 x44.2.1, .int .u32 x44.2.2.1, .int .u32 x44.2.2.2]] [.sc .slice] (fun (r45 : (Option Addr × Nat × Nat)) h46 =>
  (callQ Tryd.prog 17 [.slice r45.1 r45.2.1 r45.2.2, .slice b_2 b_2l b_2c] [.sc .bool] (fun (r47 : Bool) =>
  br r47
  (ifW r42.2 (idxW (0 : Int) 4 true (ldW (.int .u32) (Addr.add a33 (Int.toNat (0 : Int) * 1)) (fun (x48 : Int) =>
  br (x48 != (0 : Int))
  (ldAggW [.int .u32, .int .u32, .int .u32, .int .u32] a33 (fun (x49 : Int × Int × Int × Int) =>
  idxW (0 : Int) 4 true (ldW (.int .u32) (Addr.add a33 (Int.toNat (0 : Int) * 1)) (fun (x50 : Int) =>
  eqGen Tryd.prog 24 (.agg #[.int .u32 x49.1, .int .u32 x49.2.1, .int .u32 x49.2.2.1, .int .u32 x49.2.2.2]) (.agg #[.int .u32 x50, .int .u32 0, .int .u32 0, .int .u32 0]) (fun b51 =>
  br ((isNilV r42.2) == b51)
  (ifW r42.2 (br (!(isNilV r42.2))
  (K (.bool true) h46)
  (idxW (0 : Int) 4 true (ldW (.int .u32) (Addr.add a33 (Int.toNat (0 : Int) * 1)) (fun (x52 : Int) =>
  br (r42.1 == x52)
  (callT Tryd.prog 20 [.int .u32 r42.1] [.sc .slice] (fun (r53 : (Option Addr × Nat × Nat)) h54 =>
  (callQ Tryd.prog 17 [.slice r53.1 r53.2.1 r53.2.2, .slice b_2 b_2l b_2c] [.sc .bool] (fun (r55 : Bool) =>
  K (.bool r55) h54) h54 ∧ Ext h46 h54)) h46)
  (K (.bool false) h46)) h46))))
  (K (.bool false) h46))) h46)) h46)
  (br ((isNilV r42.2) == false)
  (ifW r42.2 (br (!(isNilV r42.2))
  (K (.bool true) h46)
  (idxW (0 : Int) 4 true (ldW (.int .u32) (Addr.add a33 (Int.toNat (0 : Int) * 1)) (fun (x56 : Int) =>
  br (r42.1 == x56)
  (callT Tryd.prog 20 [.int .u32 r42.1] [.sc .slice] (fun (r57 : (Option Addr × Nat × Nat)) h58 =>
  (callQ Tryd.prog 17 [.slice r57.1 r57.2.1 r57.2.2, .slice b_2 b_2l b_2c] [.sc .bool] (fun (r59 : Bool) =>
  K (.bool r59) h58) h58 ∧ Ext h46 h58)) h46)
  (K (.bool false) h46)) h46))))
  (K (.bool false) h46))) h46)))
  (K (.bool false) h46)) h46 ∧ Ext h43 h46)) h43) h43) h35))) h34) h32) h30) h26) h24) h22) h12) h11) h9) h7) h4) h4))) h2) h0)
set_option maxRecDepth 100000 in
theorem F4_eq (l_0_0 : Int) (l_0_1 : Int) (l_0_2 : Int) (l_0_3 : Int) (many_1 : Int) (b_2 : Option Addr) (b_2l b_2c : Nat) (K : Value → Heap → Prop) (h0 : Heap) : funWE Tryd.prog 4 (.seq (.leaf) (.seq (.seq (.leaf) (.cond (.seq (.leaf) (.leaf)) (.leaf))) (.seq (.seq (.leaf) (.cond (.seq (.leaf) (.leaf)) (.leaf))) (.seq (.leaf) (.cut [] (.seq (.leaf) (.cond (.seq (.leaf) (.leaf)) (.leaf))) (.seq (.leaf) (.cut [] (.seq (.leaf) (.cond (.seq (.leaf) (.leaf)) (.leaf))) (.seq (.leaf) (.seq (.seq (.leaf) (.cond (.cut [(6, .sc .bool)] (.leaf) (.leaf)) (.leaf))) (.seq (.leaf) (.seq (.draw [0, 2, 1, 3, 4, 5, 6, 7, 8, 9, 10, 11, 12, 13, 14, 15, 16, 17, 18, 19, 20, 21, 22, 23, 24, 25, 26, 27, 28, 30, 29, 31, 32, 33, 34, 35] [100001, 3, 100029, 31]) (.leaf)))))))))))) [.agg #[.int .u32 l_0_0, .int .u32 l_0_1, .int .u32 l_0_2, .int .u32 l_0_3], .int .u32 many_1, .slice b_2 b_2l b_2c] K h0 = F4 l_0_0 l_0_1 l_0_2 l_0_3 many_1 b_2 b_2l b_2c K h0 := by kernel_rfl

end Go.Proofs.YtogeildomhahjaaDoor.W
