/-
  The formulas of the laws of fault. Each formula checked by the kernel. Printed by a program of this repo.
-/
import Derived.Test.YtogeildomhahjaaDoorProg
import Derived.Test.YtogeildomhahjaaDoorPl
namespace Go.Proofs.YtogeildomhahjaaDoor.W
open Go.Pl

-- function 37
set_option maxRecDepth 100000 in
def F37  (K : Value → Heap → Prop) (h0 : Heap) : Prop := (
  callT Tryd.prog 45 [.string ((⟨#[112, 97, 103, 101]⟩ : ByteArray)), .int .i64 7, .iface 31 (.int .i64 6)] [.sc .any] (fun (r1 : Value) h2 =>
  callT Tryd.prog 45 [.string ((⟨#[114, 101, 97, 100]⟩ : ByteArray)), .int .i64 3, r1] [.sc .any] (fun (r3 : Value) h4 =>
  callT Tryd.prog 39 [r3, .string ((⟨#[112, 97, 103, 101]⟩ : ByteArray))] [.sc (.int .i64), .sc .bool] (fun (r5 : Int × Bool) h6 =>
  callT Tryd.prog 21 [r3] [.sc (.int .i64)] (fun (r7 : Int) h8 =>
  br (r7 == (6 : Int))
  (callT Tryd.prog 42 [r3] [.sc .slice] (fun (r9 : (Option Addr × Nat × Nat)) h10 =>
  newW (.cells #[.string ((⟨#[114, 101, 97, 100]⟩ : ByteArray)), .string ((⟨#[112, 97, 103, 101]⟩ : ByteArray))] 9) (fun a11 h12 =>
  callT Tryd.prog 41 [.slice r9.1 r9.2.1 r9.2.2, .slice (some a11) 2 2] [.sc .bool] (fun (r13 : Bool) h14 =>
  br r13
  (callT Tryd.prog 44 [r3, .int .i64 6] [.sc .bool] (fun (r15 : Bool) h16 =>
  br r15
  (callT Tryd.prog 44 [r3, .int .i64 1] [.sc .bool] (fun (r17 : Bool) h18 =>
  br (!r17)
  (br (r5.1 == (7 : Int))
  (br r5.2
  (callT Tryd.prog 45 [.string ((⟨#[120]⟩ : ByteArray)), .int .i64 1, .nilIface] [.sc .any] (fun (r19 : Value) h20 =>
  ifW r19 (br (isNilV r19)
  (callT Tryd.prog 21 [.nilIface] [.sc (.int .i64)] (fun (r21 : Int) h22 =>
  K (.bool (r21 == (0 : Int))) h22) h20)
  (K (.bool false) h20))) h18)
  (K (.bool false) h18))
  (K (.bool false) h18))
  (K (.bool false) h18)) h16)
  (K (.bool false) h16)) h14)
  (K (.bool false) h14)) h12) h10) h8)
  (K (.bool false) h8)) h6) h4) h2) h0)
set_option maxRecDepth 100000 in
theorem F37_eq  (K : Value → Heap → Prop) (h0 : Heap) : funWE Tryd.prog 37 (.seq (.leaf) (.seq (.leaf) (.seq (.leaf) (.seq (.leaf) (.leaf))))) [] K h0 = F37  K h0 := by kernel_rfl

-- function 38
set_option maxRecDepth 100000 in
def F38 (e_0 : Int) (l_1 : Option Addr) (l_1l _l_1c : Nat) (K : Value → Heap → Prop) (h0 : Heap) : Prop := (
  newW (.cells (zeroC Tryd.prog 74) 74) (fun a1 h2 =>
  cutT [.sc .any] (fun (K3 : Value → Heap → Prop) h4 =>
  br (e_0 != (0 : Int))
  (K3 (.iface 31 (.int .i64 e_0) : Value) h4)
  (K3 (.nilIface : Value) h4)) (fun (s5 : Value) _ h6 =>
  newW (.cells (zeroC Tryd.prog 74) 74) (fun a7 h8 =>
  stLW a7 [.slice none 0 0, .int .i64 e_0] (fun h9 =>
  loopT [.sc .any, .sc (.int .i64)] (fun (s11 : Value × Int) _ (K10 : (Value × Int) → Heap → Prop) h12 =>
  br (decide (s11.2 < (((l_1l : Nat) : Int))))
  (ptrW l_1 (fun a13 =>
  idxW s11.2 l_1l true (ldAggW [.str, .int .i64] (Addr.add a13 (Int.toNat s11.2 * 2)) (fun (x14 : ByteArray × Int) =>
  newW (.cells (zeroC Tryd.prog 88) 88) (fun a15 h16 =>
  stLW a15 [.string x14.1, .int .i64 x14.2] (fun h17 =>
  ldW .str (Addr.add a15 0) (fun (x18 : ByteArray) =>
  ldW (.int .i64) (Addr.add a15 1) (fun (x19 : Int) =>
  callT Tryd.prog 45 [.string x18, .int .i64 x19, s11.1] [.sc .any] (fun (r20 : Value) h21 =>
  ldW .str (Addr.add a15 0) (fun (x22 : ByteArray) =>
  ldW (.int .i64) (Addr.add a15 1) (fun (x23 : Int) =>
  ldAggW [.slice, .int .i64] a7 (fun (x24 : (Option Addr × Nat × Nat) × Int) =>
  callT Tryd.prog 49 [.string x22, .int .i64 x23, .agg #[.slice x24.1.1 x24.1.2.1 x24.1.2.2, .int .i64 x24.2]] [.agg [.slice, .int .i64]] (fun (r25 : ((Option Addr × Nat × Nat) × Int)) h26 =>
  stLW a7 [.slice r25.1.1 r25.1.2.1 r25.1.2.2, .int .i64 r25.2] (fun h27 =>
  K10 (r20, (IntKind.wrap .i64 (s11.2 + (1 : Int)))) h27) h26) h21) h21) h21) h21) h17) h17) h17) h16) h12) h12)))
  (ldAggW [.slice, .int .i64] a7 (fun (x28 : (Option Addr × Nat × Nat) × Int) =>
  stLW a1 [.slice x28.1.1 x28.1.2.1 x28.1.2.2, .int .i64 x28.2] (fun h29 =>
  ldAggW [.slice, .int .i64] a1 (fun (x30 : (Option Addr × Nat × Nat) × Int) =>
  K (.tuple #[s11.1, .agg #[.slice x30.1.1 x30.1.2.1 x30.1.2.2, .int .i64 x30.2]]) h29) h29) h12) h12)) (s5, (0 : Int)) h9) h8) h6) h2) h0)
set_option maxRecDepth 100000 in
theorem F38_eq (e_0 : Int) (l_1 : Option Addr) (l_1l l_1c : Nat) (K : Value → Heap → Prop) (h0 : Heap) : funWE Tryd.prog 38 (.seq (.leaf) (.seq (.leaf) (.cut [(6, .sc .any)] (.seq (.leaf) (.cond (.leaf) (.leaf))) (.seq (.leaf) (.seq (.seq (.leaf) (.block (.loop [(6, .sc .any), (18, .sc (.int .i64))] (.seq (.leaf) (.seq (.cond (.leaf) (.leaf)) (.seq (.block (.seq (.leaf) (.seq (.leaf) (.leaf)))) (.leaf))))))) (.seq (.draw [0, 1, 2, 3] []) (.leaf))))))) [.int .i64 e_0, .slice l_1 l_1l l_1c] K h0 = F38 e_0 l_1 l_1l l_1c K h0 := by kernel_rfl

-- function 8
set_option maxRecDepth 100000 in
def F8 (e_0 : Int) (l_1 : Option Addr) (l_1l l_1c : Nat) (op_2 : ByteArray) (other_3 : Int) (K : Value → Heap → Prop) (h0 : Heap) : Prop := (
  callT Tryd.prog 37 [] [.sc .bool] (fun (r1 : Bool) h2 =>
  br (!r1)
  (K (.bool false) h2)
  (br (decide ((((l_1l : Nat) : Int)) > (100 : Int)))
  (K (.bool true) h2)
  (callT Tryd.prog 38 [.int .i64 e_0, .slice l_1 l_1l l_1c] [.sc .any, .agg [.slice, .int .i64]] (fun (r3 : Value × ((Option Addr × Nat × Nat) × Int)) h4 =>
  newW (.cells (zeroC Tryd.prog 74) 74) (fun a5 h6 =>
  stLW a5 [.slice r3.2.1.1 r3.2.1.2.1 r3.2.1.2.2, .int .i64 r3.2.2] (fun h7 =>
  callT Tryd.prog 39 [r3.1, .string op_2] [.sc (.int .i64), .sc .bool] (fun (r8 : Int × Bool) h9 =>
  ldAggW [.slice, .int .i64] a5 (fun (x10 : (Option Addr × Nat × Nat) × Int) =>
  callT Tryd.prog 40 [.agg #[.slice x10.1.1 x10.1.2.1 x10.1.2.2, .int .i64 x10.2], .string op_2] [.sc (.int .i64), .sc .bool] (fun (r11 : Int × Bool) h12 =>
  cutT [] (fun (K13 : Unit → Heap → Prop) h24 =>
  br (r8.1 != r11.1)
  (K (.bool false) h24)
  (br (!(r8.2 == r11.2))
  (K (.bool false) h24)
  (ldW (.int .i64) (Addr.add a5 1) (fun (x14 : Int) =>
  callT Tryd.prog 21 [r3.1] [.sc (.int .i64)] (fun (r15 : Int) h16 =>
  (br (r15 != x14)
  (K (.bool false) h16)
  (ldAggW [.slice, .int .i64] a5 (fun (x17 : (Option Addr × Nat × Nat) × Int) =>
  callT Tryd.prog 42 [r3.1] [.sc .slice] (fun (r18 : (Option Addr × Nat × Nat)) h19 =>
  (callT Tryd.prog 43 [.agg #[.slice x17.1.1 x17.1.2.1 x17.1.2.2, .int .i64 x17.2]] [.sc .slice] (fun (r20 : (Option Addr × Nat × Nat)) h21 =>
  (callQ Tryd.prog 41 [.slice r18.1 r18.2.1 r18.2.2, .slice r20.1 r20.2.1 r20.2.2] [.sc .bool] (fun (r22 : Bool) =>
  br (!r22)
  (K (.bool false) h21)
  (ifW r3.1 (ldW (.int .i64) (Addr.add a5 1) (fun (x23 : Int) =>
  br (!((isNilV r3.1) == (x23 == (0 : Int))))
  (K (.bool false) h21)
  (K13 () h21)) h21))) h21 ∧ Ext h19 h21)) h19 ∧ Ext h16 h19)) h16) h16) ∧ Ext h24 h16)) h24) h24))) (fun (_s25 : Unit) _ h26 =>
  callT Tryd.prog 44 [r3.1, .int .i64 other_3] [.sc .bool] (fun (r27 : Bool) h28 =>
  br (other_3 != (0 : Int))
  (ldW (.int .i64) (Addr.add a5 1) (fun (x29 : Int) =>
  br (r27 == (other_3 == x29))
  (callT Tryd.prog 45 [.string op_2, .int .i64 r8.1, .iface 31 (.int .i64 0)] [.sc .any] (fun (r30 : Value) h31 =>
  ifW r30 (br (isNilV r30)
  (callT Tryd.prog 45 [.string op_2, .int .i64 r8.1, .nilIface] [.sc .any] (fun (r32 : Value) h33 =>
  ifW r32 (K (.bool (isNilV r32)) h33)) h31)
  (K (.bool false) h31))) h28)
  (K (.bool false) h28)) h28)
  (br (r27 == false)
  (callT Tryd.prog 45 [.string op_2, .int .i64 r8.1, .iface 31 (.int .i64 0)] [.sc .any] (fun (r34 : Value) h35 =>
  ifW r34 (br (isNilV r34)
  (callT Tryd.prog 45 [.string op_2, .int .i64 r8.1, .nilIface] [.sc .any] (fun (r36 : Value) h37 =>
  ifW r36 (K (.bool (isNilV r36)) h37)) h35)
  (K (.bool false) h35))) h28)
  (K (.bool false) h28))) h26) h12) h9) h9) h7) h6) h4) h2))) h0)
set_option maxRecDepth 100000 in
theorem F8_eq (e_0 : Int) (l_1 : Option Addr) (l_1l l_1c : Nat) (op_2 : ByteArray) (other_3 : Int) (K : Value → Heap → Prop) (h0 : Heap) : funWE Tryd.prog 8 (.seq (.leaf) (.seq (.seq (.leaf) (.cond (.seq (.leaf) (.leaf)) (.leaf))) (.seq (.seq (.leaf) (.cond (.seq (.leaf) (.leaf)) (.leaf))) (.seq (.leaf) (.seq (.leaf) (.seq (.leaf) (.cut [] (.seq (.draw [0, 1, 2, 3, 4, 5, 6, 7, 8, 9, 11, 12, 10, 13, 14, 15, 16, 18, 17, 19, 20, 21, 22, 23, 24, 25, 26, 27, 28, 29, 30] [100010, 100017, 100019, 20]) (.cond (.seq (.leaf) (.leaf)) (.leaf))) (.seq (.leaf) (.leaf))))))))) [.int .i64 e_0, .slice l_1 l_1l l_1c, .string op_2, .int .i64 other_3] K h0 = F8 e_0 l_1 l_1l l_1c op_2 other_3 K h0 := by kernel_rfl

-- function 9
set_option maxRecDepth 100000 in
def F9 (e_0 : Int) (l_1 : Option Addr) (l_1l l_1c : Nat) (more_2_0 : ByteArray) (more_2_1 : Int) (K : Value → Heap → Prop) (h0 : Heap) : Prop := (
  newW (.cells #[.string more_2_0, .int .i64 more_2_1] 88) (fun a1 h2 =>
  callT Tryd.prog 37 [] [.sc .bool] (fun (r3 : Bool) h4 =>
  br (!r3)
  (K (.bool false) h4)
  (br (decide ((((l_1l : Nat) : Int)) > (100 : Int)))
  (K (.bool true) h4)
  (callT Tryd.prog 38 [.int .i64 e_0, .slice l_1 l_1l l_1c] [.sc .any, .agg [.slice, .int .i64]] (fun (r5 : Value × ((Option Addr × Nat × Nat) × Int)) h6 =>
  newW (.cells (zeroC Tryd.prog 74) 74) (fun a7 h8 =>
  stLW a7 [.slice r5.2.1.1 r5.2.1.2.1 r5.2.1.2.2, .int .i64 r5.2.2] (fun h9 =>
  callT Tryd.prog 42 [r5.1] [.sc .slice] (fun (r10 : (Option Addr × Nat × Nat)) h11 =>
  ldW .str (Addr.add a1 0) (fun (x12 : ByteArray) =>
  ldW (.int .i64) (Addr.add a1 1) (fun (x13 : Int) =>
  callT Tryd.prog 45 [.string x12, .int .i64 x13, r5.1] [.sc .any] (fun (r14 : Value) h15 =>
  ifW r5.1 (br (isNilV r5.1)
  (cutT [.sc .bool] (fun (K16 : Bool → Heap → Prop) h17 =>
  ifW r14 (br (isNilV r14)
  (K16 ((((r10.2.1 : Nat) : Int)) == (0 : Int)) h17)
  (K16 false h17))) (fun (s18 : Bool) _ h19 =>
  K (.bool s18) h19) h15)
  (callT Tryd.prog 42 [r14] [.sc .slice] (fun (r20 : (Option Addr × Nat × Nat)) h21 =>
  ldW .str (Addr.add a1 0) (fun (x22 : ByteArray) =>
  callT Tryd.prog 39 [r14, .string x22] [.sc (.int .i64), .sc .bool] (fun (r23 : Int × Bool) h24 =>
  callT Tryd.prog 21 [r14] [.sc (.int .i64)] (fun (r25 : Int) h26 =>
  (callT Tryd.prog 21 [r5.1] [.sc (.int .i64)] (fun (r27 : Int) h28 =>
  (br (r25 == r27)
  (callT Tryd.prog 44 [r14, .int .i64 e_0] [.sc .bool] (fun (r29 : Bool) h30 =>
  (br r29
  (br ((((r20.2.1 : Nat) : Int)) == (IntKind.wrap .i64 ((((r10.2.1 : Nat) : Int)) + (1 : Int))))
  (ptrW r20.1 (fun a31 =>
  idxW (0 : Int) r20.2.1 true (ldW .str (Addr.add a31 (Int.toNat (0 : Int) * 1)) (fun (x32 : ByteArray) =>
  ldW .str (Addr.add a1 0) (fun (x33 : ByteArray) =>
  br (x32.toList == x33.toList)
  (slW r20.1 r20.2.2 1 (1 : Int) (((r20.2.1 : Nat) : Int)) (((r20.2.2 : Nat) : Int)) (fun b34 n35 c36 =>
  callQ Tryd.prog 41 [.slice b34 n35 c36, .slice r10.1 r10.2.1 r10.2.2] [.sc .bool] (fun (r37 : Bool) =>
  br r37
  (ldW (.int .i64) (Addr.add a1 1) (fun (x38 : Int) =>
  br (r23.1 == x38)
  (K (.bool r23.2) h30)
  (K (.bool false) h30)) h30)
  (K (.bool false) h30)) h30))
  (K (.bool false) h30)) h30) h30)))
  (K (.bool false) h30))
  (K (.bool false) h30) ∧ Ext h28 h30)) h28)
  (K (.bool false) h28) ∧ Ext h26 h28)) h26 ∧ Ext h24 h26)) h24) h21) h21) h15))) h11) h11) h11) h9) h8) h6) h4))) h2) h0)
set_option maxRecDepth 100000 in
theorem F9_eq (e_0 : Int) (l_1 : Option Addr) (l_1l l_1c : Nat) (more_2_0 : ByteArray) (more_2_1 : Int) (K : Value → Heap → Prop) (h0 : Heap) : funWE Tryd.prog 9 (.seq (.leaf) (.seq (.seq (.leaf) (.cond (.seq (.leaf) (.leaf)) (.leaf))) (.seq (.seq (.leaf) (.cond (.seq (.leaf) (.leaf)) (.leaf))) (.seq (.leaf) (.seq (.leaf) (.seq (.leaf) (.seq (.seq (.leaf) (.cond (.cut [(6, .sc .bool)] (.leaf) (.leaf)) (.leaf))) (.seq (.leaf) (.seq (.leaf) (.seq (.draw [0, 2, 1, 3, 4, 5, 6, 7, 8, 9, 10, 11, 12, 13, 14, 15, 16, 17, 18, 19, 20, 21, 22, 23, 24, 25, 26, 27, 28, 29, 30, 31, 32, 33, 34, 35, 36, 37, 38, 39, 40, 41] [100001, 100003, 100008, 30]) (.leaf))))))))))) [.int .i64 e_0, .slice l_1 l_1l l_1c, .agg #[.string more_2_0, .int .i64 more_2_1]] K h0 = F9 e_0 l_1 l_1l l_1c more_2_0 more_2_1 K h0 := by kernel_rfl

-- function 10
set_option maxRecDepth 100000 in
def F10 (e_0 : Int) (l_1 : Option Addr) (l_1l _l_1c : Nat) (K : Value → Heap → Prop) (h0 : Heap) : Prop := (
  callT Tryd.prog 37 [] [.sc .bool] (fun (r1 : Bool) h2 =>
  br (!r1)
  (K (.bool false) h2)
  (cutT [] (fun (K3 : Unit → Heap → Prop) h4 =>
  br (decide ((((l_1l : Nat) : Int)) > (100 : Int)))
  (K (.bool true) h4)
  (br (e_0 == (0 : Int))
  (K (.bool true) h4)
  (K3 () h4))) (fun (_s5 : Unit) _ h6 =>
  loopT [.sc .any, .sc (.int .i64)] (fun (s8 : Value × Int) _ (K7 : (Value × Int) → Heap → Prop) h9 =>
  br (decide (s8.2 < (((l_1l : Nat) : Int))))
  (ptrW l_1 (fun a10 =>
  idxW s8.2 l_1l true (ldAggW [.str, .int .i64] (Addr.add a10 (Int.toNat s8.2 * 2)) (fun (x11 : ByteArray × Int) =>
  newW (.cells (zeroC Tryd.prog 88) 88) (fun a12 h13 =>
  stLW a12 [.string x11.1, .int .i64 x11.2] (fun h14 =>
  ldW .str (Addr.add a12 0) (fun (x15 : ByteArray) =>
  ldW (.int .i64) (Addr.add a12 1) (fun (x16 : Int) =>
  buildA Tryd.prog 92 [.str, .int .i64, .any] [(0, .string x15), (1, .int .i64 x16), (2, s8.1)] (fun (x17 : ByteArray × Int × Value) =>
  newW (.cells #[.string x17.1, .int .i64 x17.2.1, x17.2.2] 92) (fun a18 h19 =>
  cutT [] (fun (K20 : Unit → Heap → Prop) h33 =>
  callT Tryd.prog 46 [.pointer (some a18)] [.sc .any] (fun (r21 : Value) h22 =>
  ifW r21 (br (isNilV r21)
  (K (.bool false) h22)
  (callT Tryd.prog 21 [.iface 90 (.pointer (some a18))] [.sc (.int .i64)] (fun (r23 : Int) h24 =>
  br (r23 != e_0)
  (K (.bool false) h24)
  (callT Tryd.prog 46 [.pointer (some a18)] [.sc .any] (fun (r25 : Value) h26 =>
  callT Tryd.prog 21 [r25] [.sc (.int .i64)] (fun (r27 : Int) h28 =>
  br (r27 != e_0)
  (K (.bool false) h28)
  (callT Tryd.prog 42 [.iface 90 (.pointer (some a18))] [.sc .slice] (fun (r29 : (Option Addr × Nat × Nat)) h30 =>
  callT Tryd.prog 42 [s8.1] [.sc .slice] (fun (r31 : (Option Addr × Nat × Nat)) h32 =>
  br ((((r29.2.1 : Nat) : Int)) != (IntKind.wrap .i64 ((((r31.2.1 : Nat) : Int)) + (1 : Int))))
  (K (.bool false) h32)
  (K20 () h32)) h30) h28)) h26) h24)) h22))) h33) (fun (_s34 : Unit) _ h35 =>
  ldW .str (Addr.add a12 0) (fun (x36 : ByteArray) =>
  callT Tryd.prog 39 [.iface 90 (.pointer (some a18)), .string x36] [.sc (.int .i64), .sc .bool] (fun (r37 : Int × Bool) h38 =>
  cutT [.sc .bool] (fun (K39 : Bool → Heap → Prop) h41 =>
  ldW (.int .i64) (Addr.add a12 1) (fun (x40 : Int) =>
  br (r37.1 != x40)
  (K39 true h41)
  (K39 (!r37.2) h41)) h41) (fun (s42 : Bool) _ h43 =>
  br s42
  (K (.bool false) h43)
  (K7 ((.iface 90 (.pointer (some a18)) : Value), (IntKind.wrap .i64 (s8.2 + (1 : Int)))) h43)) h38) h35) h35) h19) h14)) h14) h14) h13) h9) h9)))
  (callT Tryd.prog 44 [s8.1, .int .i64 e_0] [.sc .bool] (fun (r44 : Bool) h45 =>
  br r44
  (callT Tryd.prog 42 [s8.1] [.sc .slice] (fun (r46 : (Option Addr × Nat × Nat)) h47 =>
  K (.bool ((((r46.2.1 : Nat) : Int)) == (((l_1l : Nat) : Int)))) h47) h45)
  (K (.bool false) h45)) h9)) ((.iface 31 (.int .i64 e_0) : Value), (0 : Int)) h6) h2)) h0)
set_option maxRecDepth 100000 in
theorem F10_eq (e_0 : Int) (l_1 : Option Addr) (l_1l l_1c : Nat) (K : Value → Heap → Prop) (h0 : Heap) : funWE Tryd.prog 10 (.seq (.leaf) (.seq (.seq (.leaf) (.cond (.seq (.leaf) (.leaf)) (.leaf))) (.cut [] (.seq (.leaf) (.cond (.seq (.leaf) (.leaf)) (.leaf))) (.seq (.leaf) (.seq (.seq (.leaf) (.block (.loop [(5, .sc .any), (24, .sc (.int .i64))] (.seq (.leaf) (.seq (.cond (.leaf) (.leaf)) (.seq (.block (.seq (.leaf) (.seq (.leaf) (.cut [] (.seq (.leaf) (.cond (.seq (.leaf) (.leaf)) (.leaf))) (.seq (.leaf) (.seq (.cut [(78, .sc .bool)] (.leaf) (.cond (.seq (.leaf) (.leaf)) (.leaf))) (.leaf))))))) (.leaf))))))) (.seq (.leaf) (.leaf))))))) [.int .i64 e_0, .slice l_1 l_1l l_1c] K h0 = F10 e_0 l_1 l_1l l_1c K h0 := by kernel_rfl

end Go.Proofs.YtogeildomhahjaaDoor.W
