/-
  The formulas that the calculus comes to at the functions of package lru and its laws, each checked by the kernel. Printed by a program of this repo.
-/
import Derived.Test.YtfanjfbenhocnaaProg
import Derived.Test.YtfanjfbenhocnaaPl
namespace Go.Proofs.Ytfanjfbenhocnaa.W
open Go.Pl

-- function 4
set_option maxRecDepth 100000 in
def F4 (slots_0 : Int) (l_1 : Option Addr) (l_1l _l_1c : Nat) (K : Value → Heap → Prop) (h0 : Heap) : Prop := (
  callT Try.prog 16 [] [.sc .bool] (fun (r1 : Bool) h2 =>
  br (!r1)
  (K (.bool false) h2)
  (callT Try.prog 17 [.int .i64 slots_0] [.sc .ptr, .sc .any] (fun (r3 : (Option Addr) × Value) h4 =>
  cutT [] (fun (K5 : Unit → Heap → Prop) h6 =>
  br (Option.isNone r3.1)
  (K (.bool true) h6)
  (br (decide (slots_0 > (64 : Int)))
  (K (.bool true) h6)
  (br (decide ((((l_1l : Nat) : Int)) > (200 : Int)))
  (K (.bool true) h6)
  (K5 () h6)))) (fun (_s7 : Unit) _ h8 =>
  loopT [.sc (.int .i64), .sc (.int .i64)] (fun (s10 : Int × Int) _ (K9 : (Int × Int) → Heap → Prop) h11 =>
  br (decide (s10.2 < (((l_1l : Nat) : Int))))
  (ptrW l_1 (fun a12 =>
  idxW s10.2 l_1l true (ldAggW [.int .i64, .int .i64] (Addr.add a12 (Int.toNat s10.2 * 2)) (fun (x13 : Int × Int) =>
  newW (.cells (zeroC Try.prog 43) 43) (fun a14 h15 =>
  stLW a14 [.int .i64 x13.1, .int .i64 x13.2] (fun h16 =>
  ldAggW [.int .i64, .int .i64] a14 (fun (x17 : Int × Int) =>
  callT Try.prog 18 [.pointer r3.1, .agg #[.int .i64 x17.1, .int .i64 x17.2]] [.sc .bool] (fun (r18 : Bool) h19 =>
  cutT [.sc (.int .i64)] (fun (K20 : Int → Heap → Prop) h21 =>
  cutT [.sc .bool] (fun (K22 : Bool → Heap → Prop) h24 =>
  br r18
  (ldW (.int .i64) (Addr.add a14 0) (fun (x23 : Int) =>
  K22 (x23 == (0 : Int)) h24) h24)
  (K22 false h24)) (fun (s25 : Bool) _ h26 =>
  br s25
  (K20 (IntKind.wrap .i64 (s10.1 + (1 : Int))) h26)
  (br r18
  (ldW (.int .i64) (Addr.add a14 0) (fun (x27 : Int) =>
  br (decide (x27 > (1 : Int)))
  (K20 (IntKind.wrap .i64 (s10.1 - (1 : Int))) h26)
  (K20 s10.1 h26)) h26)
  (K20 s10.1 h26))) h21) (fun (s28 : Int) _ h29 =>
  callT Try.prog 19 [.pointer r3.1] [.sc .slice] (fun (r30 : (Option Addr × Nat × Nat)) h31 =>
  callT Try.prog 20 [.pointer r3.1] [.sc .slice] (fun (r32 : (Option Addr × Nat × Nat)) h33 =>
  cutT [] (fun (K34 : Unit → Heap → Prop) h35 =>
  br (decide ((((r32.2.1 : Nat) : Int)) > (IntKind.wrap .i64 (Int.tdiv slots_0 (2 : Int)))))
  (K (.bool false) h35)
  (br ((IntKind.wrap .i64 ((((r30.2.1 : Nat) : Int)) + (((r32.2.1 : Nat) : Int)))) != s28)
  (K (.bool false) h35)
  (K34 () h35))) (fun (_s36 : Unit) _ h37 =>
  mkW Try.prog 4 slots_0 slots_0 (fun b38 n39 _c40 h41 =>
  newW (.cells #[] 3) (fun a42 h43 =>
  apW Try.prog #[45, 45] #[.slice (some a42) 0 0, .slice r30.1 r30.2.1 r30.2.2] (fun b44 n45 c46 h47 =>
  apW Try.prog #[45, 45] #[.slice b44 n45 c46, .slice r32.1 r32.2.1 r32.2.2] (fun b48 n49 _c50 h51 =>
  loopT [.sc (.int .i64)] (fun (s53 : Int) _ (K52 : Int → Heap → Prop) h54 =>
  br (decide (s53 < (((n49 : Nat) : Int))))
  (ptrW b48 (fun a55 =>
  idxW s53 n49 true (ldW (.int .i64) (Addr.add a55 (Int.toNat s53 * 1)) (fun (x56 : Int) =>
  cutT [] (fun (K57 : Unit → Heap → Prop) h60 =>
  br (decide (x56 < (0 : Int)))
  (K (.bool false) h60)
  (br (decide (x56 ≥ slots_0))
  (K (.bool false) h60)
  (ptrW b38 (fun a58 =>
  idxW x56 n39 true (ldW .bool (Addr.add a58 (Int.toNat x56 * 1)) (fun (x59 : Bool) =>
  br x59
  (K (.bool false) h60)
  (K57 () h60)) h60))))) (fun (_s61 : Unit) _ h62 =>
  ptrW b38 (fun a63 =>
  idxW x56 n39 true (stW (Addr.add a63 (Int.toNat x56 * 1)) (.bool true) (fun h64 =>
  K52 (IntKind.wrap .i64 (s53 + (1 : Int))) h64) h62))) h54) h54)))
  (callT Try.prog 21 [.pointer r3.1] [.sc (.int .i64), .sc .bool] (fun (r65 : Int × Bool) h66 =>
  br (!(r65.2 == (decide (s28 > (0 : Int)))))
  (K (.bool false) h66)
  (br r65.2
  (ptrW b38 (fun a67 =>
  idxW r65.1 n39 true (ldW .bool (Addr.add a67 (Int.toNat r65.1 * 1)) (fun (x68 : Bool) =>
  br (!x68)
  (K (.bool false) h66)
  (br r18
  (ldW (.int .i64) (Addr.add a14 0) (fun (x69 : Int) =>
  br (x69 == (1 : Int))
  (ldW (.int .i64) (Addr.add a14 1) (fun (x70 : Int) =>
  br (r65.1 == x70)
  (br (decide (s28 > (1 : Int)))
  (br (decide (slots_0 > (1 : Int)))
  (K (.bool false) h66)
  (K9 (s28, (IntKind.wrap .i64 (s10.2 + (1 : Int)))) h66))
  (K9 (s28, (IntKind.wrap .i64 (s10.2 + (1 : Int)))) h66))
  (K9 (s28, (IntKind.wrap .i64 (s10.2 + (1 : Int)))) h66)) h66)
  (K9 (s28, (IntKind.wrap .i64 (s10.2 + (1 : Int)))) h66)) h66)
  (K9 (s28, (IntKind.wrap .i64 (s10.2 + (1 : Int)))) h66))) h66)))
  (br r18
  (ldW (.int .i64) (Addr.add a14 0) (fun (x71 : Int) =>
  br (x71 == (1 : Int))
  (ldW (.int .i64) (Addr.add a14 1) (fun (x72 : Int) =>
  br (r65.1 == x72)
  (br (decide (s28 > (1 : Int)))
  (br (decide (slots_0 > (1 : Int)))
  (K (.bool false) h66)
  (K9 (s28, (IntKind.wrap .i64 (s10.2 + (1 : Int)))) h66))
  (K9 (s28, (IntKind.wrap .i64 (s10.2 + (1 : Int)))) h66))
  (K9 (s28, (IntKind.wrap .i64 (s10.2 + (1 : Int)))) h66)) h66)
  (K9 (s28, (IntKind.wrap .i64 (s10.2 + (1 : Int)))) h66)) h66)
  (K9 (s28, (IntKind.wrap .i64 (s10.2 + (1 : Int)))) h66)))) h54)) (0 : Int) h51) h47) h43) h41) h37) h33) h31) h29) h19) h16) h16) h15) h11) h11)))
  (K (.bool true) h11)) ((0 : Int), (0 : Int)) h8) h4) h2)) h0)
set_option maxRecDepth 100000 in
theorem F4_eq (slots_0 : Int) (l_1 : Option Addr) (l_1l l_1c : Nat) (K : Value → Heap → Prop) (h0 : Heap) : funWE Try.prog 4 (.seq (.leaf) (.seq (.seq (.leaf) (.cond (.seq (.leaf) (.leaf)) (.leaf))) (.seq (.leaf) (.cut [] (.seq (.leaf) (.cond (.seq (.leaf) (.leaf)) (.leaf))) (.seq (.leaf) (.seq (.seq (.leaf) (.block (.loop [(7, .sc (.int .i64)), (38, .sc (.int .i64))] (.seq (.leaf) (.seq (.cond (.leaf) (.leaf)) (.seq (.block (.seq (.leaf) (.seq (.leaf) (.seq (.bcut [(7, .sc (.int .i64))] (.cut [(45, .sc .bool)] (.leaf) (.cond (.leaf) (.seq (.leaf) (.cond (.leaf) (.leaf)))))) (.seq (.leaf) (.cut [] (.seq (.leaf) (.cond (.seq (.leaf) (.leaf)) (.leaf))) (.seq (.leaf) (.seq (.seq (.leaf) (.block (.loop [(89, .sc (.int .i64))] (.seq (.leaf) (.seq (.cond (.leaf) (.leaf)) (.seq (.block (.seq (.leaf) (.cut [] (.seq (.leaf) (.cond (.seq (.leaf) (.leaf)) (.leaf))) (.leaf)))) (.leaf))))))) (.seq (.leaf) (.seq (.leaf) (.cond (.seq (.leaf) (.leaf)) (.leaf)))))))))))) (.leaf))))))) (.seq (.leaf) (.leaf)))))))) [.int .i64 slots_0, .slice l_1 l_1l l_1c] K h0 = F4 slots_0 l_1 l_1l l_1c K h0 := by kernel_rfl

-- function 5
set_option maxRecDepth 100000 in
def F5 (l_0 : Option Addr) (l_0l _l_0c : Nat) (touched_1 : Int) (K : Value → Heap → Prop) (h0 : Heap) : Prop := (
  callT Try.prog 16 [] [.sc .bool] (fun (r1 : Bool) h2 =>
  br (!r1)
  (K (.bool false) h2)
  (callT Try.prog 17 [.int .i64 64] [.sc .ptr, .sc .any] (fun (r3 : (Option Addr) × Value) h4 =>
  cutT [] (fun (K5 : Unit → Heap → Prop) h6 =>
  ifW r3.2 (br (!(isNilV r3.2))
  (ifW r3.2 (K (.bool (isNilV r3.2)) h6))
  (br (decide ((((l_0l : Nat) : Int)) > (64 : Int)))
  (ifW r3.2 (K (.bool (isNilV r3.2)) h6))
  (K5 () h6)))) (fun (_s7 : Unit) _ h8 =>
  newW (.cells #[] 3) (fun a9 h10 =>
  loopT [.sc .slice, .sc (.int .i64)] (fun (s12 : (Option Addr × Nat × Nat) × Int) _ (K11 : ((Option Addr × Nat × Nat) × Int) → Heap → Prop) h13 =>
  br (decide (s12.2 < (((l_0l : Nat) : Int))))
  (ptrW l_0 (fun a14 =>
  idxW s12.2 l_0l true (ldW (.int .i64) (Addr.add a14 (Int.toNat s12.2 * 1)) (fun (x15 : Int) =>
  callT Try.prog 22 [.pointer r3.1, .int .i64 x15] [.sc .bool] (fun (r16 : Bool) h17 =>
  br r16
  (newW (.cells #[.int .i64 x15] 3) (fun a18 h19 =>
  apW Try.prog #[45, 45] #[.slice s12.1.1 s12.1.2.1 s12.1.2.2, .slice (some a18) 1 1] (fun b20 n21 c22 h23 =>
  K11 ((b20, n21, c22), (IntKind.wrap .i64 (s12.2 + (1 : Int)))) h23) h19) h17)
  (K11 ((s12.1.1, s12.1.2.1, s12.1.2.2), (IntKind.wrap .i64 (s12.2 + (1 : Int)))) h17)) h13) h13)))
  (callT Try.prog 23 [.pointer r3.1, .int .i64 touched_1] [.sc .bool] (fun (r24 : Bool) h25 =>
  newW (.cells #[] 3) (fun a26 h27 =>
  loopT [.sc .slice, .sc (.int .i64)] (fun (s29 : (Option Addr × Nat × Nat) × Int) _ (K28 : ((Option Addr × Nat × Nat) × Int) → Heap → Prop) h30 =>
  br (decide (s29.2 < (((s12.1.2.1 : Nat) : Int))))
  (ptrW s12.1.1 (fun a31 =>
  idxW s29.2 s12.1.2.1 true (ldW (.int .i64) (Addr.add a31 (Int.toNat s29.2 * 1)) (fun (x32 : Int) =>
  cutT [.sc .bool] (fun (K33 : Bool → Heap → Prop) h34 =>
  br (!r24)
  (K33 true h34)
  (K33 (x32 != touched_1) h34)) (fun (s35 : Bool) _ h36 =>
  br s35
  (newW (.cells #[.int .i64 x32] 3) (fun a37 h38 =>
  apW Try.prog #[45, 45] #[.slice s29.1.1 s29.1.2.1 s29.1.2.2, .slice (some a37) 1 1] (fun b39 n40 c41 h42 =>
  K28 ((b39, n40, c41), (IntKind.wrap .i64 (s29.2 + (1 : Int)))) h42) h38) h36)
  (K28 ((s29.1.1, s29.1.2.1, s29.1.2.2), (IntKind.wrap .i64 (s29.2 + (1 : Int)))) h36)) h30) h30)))
  (cutT [.sc .slice] (fun (K43 : ((Option Addr × Nat × Nat)) → Heap → Prop) h50 =>
  br r24
  (newW (.cells #[.int .i64 touched_1] 3) (fun a44 h45 =>
  apW Try.prog #[45, 45] #[.slice s29.1.1 s29.1.2.1 s29.1.2.2, .slice (some a44) 1 1] (fun b46 n47 c48 h49 =>
  K43 (b46, n47, c48) h49) h45) h50)
  (K43 (s29.1.1, s29.1.2.1, s29.1.2.2) h50)) (fun (s51 : (Option Addr × Nat × Nat)) _ h52 =>
  loopT [.sc (.int .i64)] (fun (s54 : Int) _ (K53 : Int → Heap → Prop) h55 =>
  br (decide (s54 < (((s51.2.1 : Nat) : Int))))
  (ptrW s51.1 (fun a56 =>
  idxW s54 s51.2.1 true (ldW (.int .i64) (Addr.add a56 (Int.toNat s54 * 1)) (fun (x57 : Int) =>
  callT Try.prog 21 [.pointer r3.1] [.sc (.int .i64), .sc .bool] (fun (r58 : Int × Bool) h59 =>
  br (r58.1 != x57)
  (K (.bool false) h59)
  (br (!r58.2)
  (K (.bool false) h59)
  (callT Try.prog 24 [.pointer r3.1, .int .i64 r58.1] [.sc .bool] (fun (r60 : Bool) h61 =>
  br (!r60)
  (K (.bool false) h61)
  (K53 (IntKind.wrap .i64 (s54 + (1 : Int))) h61)) h59))) h55) h55)))
  (callT Try.prog 21 [.pointer r3.1] [.sc (.int .i64), .sc .bool] (fun (r62 : Int × Bool) h63 =>
  K (.bool (!r62.2)) h63) h55)) (0 : Int) h52) h30)) (((some a26), 0, 0), (0 : Int)) h27) h25) h13)) (((some a9), 0, 0), (0 : Int)) h10) h8) h4) h2)) h0)
set_option maxRecDepth 100000 in
theorem F5_eq (l_0 : Option Addr) (l_0l l_0c : Nat) (touched_1 : Int) (K : Value → Heap → Prop) (h0 : Heap) : funWE Try.prog 5 (.seq (.leaf) (.seq (.seq (.leaf) (.cond (.seq (.leaf) (.leaf)) (.leaf))) (.seq (.leaf) (.cut [] (.seq (.leaf) (.cond (.seq (.leaf) (.leaf)) (.leaf))) (.seq (.leaf) (.seq (.seq (.leaf) (.block (.loop [(7, .sc .slice), (38, .sc (.int .i64))] (.seq (.leaf) (.seq (.cond (.leaf) (.leaf)) (.seq (.block (.seq (.leaf) (.seq (.leaf) (.cond (.leaf) (.leaf))))) (.leaf))))))) (.seq (.leaf) (.seq (.leaf) (.seq (.seq (.leaf) (.block (.loop [(11, .sc .slice), (56, .sc (.int .i64))] (.seq (.leaf) (.seq (.cond (.leaf) (.leaf)) (.seq (.block (.seq (.leaf) (.cut [(66, .sc .bool)] (.leaf) (.cond (.leaf) (.leaf))))) (.leaf))))))) (.cut [(11, .sc .slice)] (.seq (.leaf) (.cond (.leaf) (.leaf))) (.seq (.seq (.leaf) (.block (.loop [(79, .sc (.int .i64))] (.seq (.leaf) (.seq (.cond (.leaf) (.leaf)) (.seq (.block (.seq (.leaf) (.seq (.leaf) (.seq (.leaf) (.cond (.seq (.leaf) (.leaf)) (.leaf)))))) (.leaf))))))) (.seq (.leaf) (.seq (.leaf) (.leaf)))))))))))))) [.slice l_0 l_0l l_0c, .int .i64 touched_1] K h0 = F5 l_0 l_0l l_0c touched_1 K h0 := by kernel_rfl

-- function 6
set_option maxRecDepth 100000 in
def F6 (slots_0 : Int) (l_1 : Option Addr) (l_1l _l_1c : Nat) (K : Value → Heap → Prop) (h0 : Heap) : Prop := (
  callT Try.prog 16 [] [.sc .bool] (fun (r1 : Bool) h2 =>
  br (!r1)
  (K (.bool false) h2)
  (callT Try.prog 17 [.int .i64 slots_0] [.sc .ptr, .sc .any] (fun (r3 : (Option Addr) × Value) h4 =>
  cutT [] (fun (K5 : Unit → Heap → Prop) h6 =>
  br (Option.isNone r3.1)
  (K (.bool true) h6)
  (br (decide ((((l_1l : Nat) : Int)) > (200 : Int)))
  (K (.bool true) h6)
  (K5 () h6))) (fun (_s7 : Unit) _ h8 =>
  loopT [.sc (.int .i64)] (fun (s10 : Int) _ (K9 : Int → Heap → Prop) h11 =>
  br (decide (s10 < slots_0))
  (callT Try.prog 22 [.pointer r3.1, .int .i64 s10] [.sc .bool] (fun (r12 : Bool) h13 =>
  br (!r12)
  (K (.bool false) h13)
  (K9 (IntKind.wrap .i64 (s10 + (1 : Int))) h13)) h11)
  (loopT [.sc .slice, .sc (.int .i64)] (fun (s15 : (Option Addr × Nat × Nat) × Int) _ (K14 : ((Option Addr × Nat × Nat) × Int) → Heap → Prop) h16 =>
  br (decide (s15.2 < (((l_1l : Nat) : Int))))
  (ptrW l_1 (fun a17 =>
  idxW s15.2 l_1l true (ldW (.int .i64) (Addr.add a17 (Int.toNat s15.2 * 1)) (fun (x18 : Int) =>
  cutT [] (fun (K19 : Unit → Heap → Prop) h22 =>
  callT Try.prog 23 [.pointer r3.1, .int .i64 x18] [.sc .bool] (fun (r20 : Bool) h21 =>
  br (decide (x18 ≥ (0 : Int)))
  (br (!(r20 == (decide (x18 < slots_0))))
  (K (.bool false) h21)
  (K19 () h21))
  (br (!(r20 == false))
  (K (.bool false) h21)
  (K19 () h21))) h22) (fun (_s23 : Unit) _ h24 =>
  cutT [] (fun (K25 : Unit → Heap → Prop) h26 =>
  br (decide (x18 < (0 : Int)))
  (K14 ((s15.1.1, s15.1.2.1, s15.1.2.2), (IntKind.wrap .i64 (s15.2 + (1 : Int)))) h26)
  (br (decide (x18 ≥ slots_0))
  (K14 ((s15.1.1, s15.1.2.1, s15.1.2.2), (IntKind.wrap .i64 (s15.2 + (1 : Int)))) h26)
  (K25 () h26))) (fun (_s27 : Unit) _ h28 =>
  newW (.cells #[.int .i64 x18] 3) (fun a29 h30 =>
  loopT [.sc .slice, .sc (.int .i64)] (fun (s32 : (Option Addr × Nat × Nat) × Int) _ (K31 : ((Option Addr × Nat × Nat) × Int) → Heap → Prop) h33 =>
  br (decide (s32.2 < (((s15.1.2.1 : Nat) : Int))))
  (ptrW s15.1.1 (fun a34 =>
  idxW s32.2 s15.1.2.1 true (ldW (.int .i64) (Addr.add a34 (Int.toNat s32.2 * 1)) (fun (x35 : Int) =>
  br (x35 != x18)
  (newW (.cells #[.int .i64 x35] 3) (fun a36 h37 =>
  apW Try.prog #[45, 45] #[.slice s32.1.1 s32.1.2.1 s32.1.2.2, .slice (some a36) 1 1] (fun b38 n39 c40 h41 =>
  K31 ((b38, n39, c40), (IntKind.wrap .i64 (s32.2 + (1 : Int)))) h41) h37) h33)
  (K31 ((s32.1.1, s32.1.2.1, s32.1.2.2), (IntKind.wrap .i64 (s32.2 + (1 : Int)))) h33)) h33)))
  (slW s32.1.1 s32.1.2.2 1 (0 : Int) (mm2 false (((s32.1.2.1 : Nat) : Int)) (mm2 true (IntKind.wrap .i64 (Int.tdiv slots_0 (2 : Int))) (0 : Int))) (((s32.1.2.2 : Nat) : Int)) (fun b42 n43 c44 =>
  K14 ((b42, n43, c44), (IntKind.wrap .i64 (s15.2 + (1 : Int)))) h33))) (((some a29), 1, 1), (0 : Int)) h30) h28) h24) h16) h16)))
  (callT Try.prog 20 [.pointer r3.1] [.sc .slice] (fun (r45 : (Option Addr × Nat × Nat)) h46 =>
  callT Try.prog 25 [.slice r45.1 r45.2.1 r45.2.2, .slice s15.1.1 s15.1.2.1 s15.1.2.2] [.sc .bool] (fun (r47 : Bool) h48 =>
  br r47
  (callT Try.prog 19 [.pointer r3.1] [.sc .slice] (fun (r49 : (Option Addr × Nat × Nat)) h50 =>
  K (.bool ((((r49.2.1 : Nat) : Int)) == (IntKind.wrap .i64 (slots_0 - (((s15.1.2.1 : Nat) : Int)))))) h50) h48)
  (K (.bool false) h48)) h46) h16)) ((none, 0, 0), (0 : Int)) h11)) (0 : Int) h8) h4) h2)) h0)
set_option maxRecDepth 100000 in
theorem F6_eq (slots_0 : Int) (l_1 : Option Addr) (l_1l l_1c : Nat) (K : Value → Heap → Prop) (h0 : Heap) : funWE Try.prog 6 (.seq (.leaf) (.seq (.seq (.leaf) (.cond (.seq (.leaf) (.leaf)) (.leaf))) (.seq (.leaf) (.cut [] (.seq (.leaf) (.cond (.seq (.leaf) (.leaf)) (.leaf))) (.seq (.seq (.leaf) (.block (.loop [(29, .sc (.int .i64))] (.seq (.leaf) (.seq (.cond (.leaf) (.leaf)) (.seq (.block (.seq (.leaf) (.seq (.leaf) (.cond (.seq (.leaf) (.leaf)) (.leaf))))) (.leaf))))))) (.seq (.leaf) (.seq (.seq (.leaf) (.block (.loop [(8, .sc .slice), (39, .sc (.int .i64))] (.seq (.leaf) (.seq (.cond (.leaf) (.leaf)) (.seq (.block (.seq (.leaf) (.cut [] (.seq (.leaf) (.cond (.seq (.leaf) (.leaf)) (.leaf))) (.cut [] (.seq (.leaf) (.cond (.leaf) (.leaf))) (.seq (.leaf) (.seq (.seq (.leaf) (.block (.loop [(11, .sc .slice), (65, .sc (.int .i64))] (.seq (.leaf) (.seq (.cond (.leaf) (.leaf)) (.seq (.block (.seq (.leaf) (.seq (.leaf) (.cond (.leaf) (.leaf))))) (.leaf))))))) (.leaf))))))) (.leaf))))))) (.seq (.leaf) (.leaf))))))))) [.int .i64 slots_0, .slice l_1 l_1l l_1c] K h0 = F6 slots_0 l_1 l_1l l_1c K h0 := by kernel_rfl

-- function 16
set_option maxRecDepth 100000 in
def F16  (K : Value → Heap → Prop) (h0 : Heap) : Prop := (
  callT Try.prog 17 [.int .i64 4] [.sc .ptr, .sc .any] (fun (r1 : (Option Addr) × Value) h2 =>
  cutT [] (fun (K3 : Unit → Heap → Prop) h4 =>
  br (Option.isNone r1.1)
  (K (.bool false) h4)
  (ifW r1.2 (br (!(isNilV r1.2))
  (K (.bool false) h4)
  (K3 () h4)))) (fun (_s5 : Unit) _ h6 =>
  cutT [.sc .bool] (fun (K7 : Bool → Heap → Prop) h16 =>
  callT Try.prog 22 [.pointer r1.1, .int .i64 0] [.sc .bool] (fun (r8 : Bool) h9 =>
  br r8
  (callT Try.prog 22 [.pointer r1.1, .int .i64 1] [.sc .bool] (fun (r10 : Bool) h11 =>
  br r10
  (callT Try.prog 22 [.pointer r1.1, .int .i64 2] [.sc .bool] (fun (r12 : Bool) h13 =>
  br r12
  (callT Try.prog 23 [.pointer r1.1, .int .i64 0] [.sc .bool] (fun (r14 : Bool) h15 =>
  K7 r14 h15) h13)
  (K7 false h13)) h11)
  (K7 false h11)) h9)
  (K7 false h9)) h16) (fun (s17 : Bool) _ h18 =>
  cutT [.sc .bool] (fun (K19 : Bool → Heap → Prop) h26 =>
  callT Try.prog 22 [.pointer r1.1, .int .i64 2] [.sc .bool] (fun (r20 : Bool) h21 =>
  br r20
  (K19 true h21)
  (callT Try.prog 23 [.pointer r1.1, .int .i64 3] [.sc .bool] (fun (r22 : Bool) h23 =>
  br r22
  (K19 true h23)
  (callT Try.prog 24 [.pointer r1.1, .int .i64 3] [.sc .bool] (fun (r24 : Bool) h25 =>
  K19 r24 h25) h23)) h21)) h26) (fun (s27 : Bool) _ h28 =>
  callT Try.prog 21 [.pointer r1.1] [.sc (.int .i64), .sc .bool] (fun (r29 : Int × Bool) h30 =>
  br s17
  (br (!s27)
  (br (r29.1 == (1 : Int))
  (br r29.2
  (callT Try.prog 19 [.pointer r1.1] [.sc .slice] (fun (r31 : (Option Addr × Nat × Nat)) h32 =>
  newW (.cells #[.int .i64 2, .int .i64 1] 3) (fun a33 h34 =>
  callT Try.prog 25 [.slice r31.1 r31.2.1 r31.2.2, .slice (some a33) 2 2] [.sc .bool] (fun (r35 : Bool) h36 =>
  br r35
  (callT Try.prog 20 [.pointer r1.1] [.sc .slice] (fun (r37 : (Option Addr × Nat × Nat)) h38 =>
  newW (.cells #[.int .i64 0] 3) (fun a39 h40 =>
  callT Try.prog 25 [.slice r37.1 r37.2.1 r37.2.2, .slice (some a39) 1 1] [.sc .bool] (fun (r41 : Bool) h42 =>
  K (.bool r41) h42) h40) h38) h36)
  (K (.bool false) h36)) h34) h32) h30)
  (K (.bool false) h30))
  (K (.bool false) h30))
  (K (.bool false) h30))
  (K (.bool false) h30)) h28) h18) h6) h2) h0)
set_option maxRecDepth 100000 in
theorem F16_eq  (K : Value → Heap → Prop) (h0 : Heap) : funWE Try.prog 16 (.seq (.leaf) (.seq (.leaf) (.cut [] (.seq (.leaf) (.cond (.seq (.leaf) (.leaf)) (.leaf))) (.cut [(3, .sc .bool)] (.leaf) (.cut [(4, .sc .bool)] (.leaf) (.seq (.leaf) (.seq (.leaf) (.leaf)))))))) [] K h0 = F16  K h0 := by kernel_rfl

-- function 17
set_option maxRecDepth 100000 in
def F17 (slots_0 : Int) (K : Value → Heap → Prop) (h0 : Heap) : Prop := (
  cutT [] (fun (K1 : Unit → Heap → Prop) h2 =>
  br (decide (slots_0 < (1 : Int)))
  (K (.tuple #[.pointer none, .iface 82 (.int .i64 1)]) h2)
  (br (decide (slots_0 > (64 : Int)))
  (K (.tuple #[.pointer none, .iface 82 (.int .i64 1)]) h2)
  (K1 () h2))) (fun (_s3 : Unit) _ h4 =>
  newW (.cells (repL 200 [.int .i64 0] [.int .i64 slots_0]) 92) (fun a5 h6 =>
  loopT [.sc (.int .i64)] (fun (s8 : Int) _ (K7 : Int → Heap → Prop) h9 =>
  br (decide (s8 < (66 : Int)))
  (idxW s8 66 true (stW (Addr.add (Addr.add a5 0) (Int.toNat s8 * 1)) (.int .i64 s8) (fun h10 =>
  idxW s8 66 true (stW (Addr.add (Addr.add a5 66) (Int.toNat s8 * 1)) (.int .i64 s8) (fun h11 =>
  idxW s8 66 true (stW (Addr.add (Addr.add a5 132) (Int.toNat s8 * 1)) (.int .i64 2) (fun h12 =>
  K7 (IntKind.wrap .i64 (s8 + (1 : Int))) h12) h11)) h10)) h9))
  (K (.tuple #[.pointer (some a5), .nilIface]) h9)) (0 : Int) h6) h4) h0)
set_option maxRecDepth 100000 in
theorem F17_eq (slots_0 : Int) (K : Value → Heap → Prop) (h0 : Heap) : funWE Try.prog 17 (.seq (.leaf) (.cut [] (.seq (.leaf) (.cond (.seq (.leaf) (.leaf)) (.leaf))) (.seq (.leaf) (.seq (.seq (.leaf) (.block (.loop [(16, .sc (.int .i64))] (.seq (.leaf) (.seq (.cond (.leaf) (.leaf)) (.seq (.block (.seq (.leaf) (.draw [0, 1, 2, 3, 4, 5, 6, 7, 8, 9, 10, 12, 13, 16, 17, 11, 14, 15, 18, 19] []))) (.leaf))))))) (.seq (.leaf) (.leaf)))))) [.int .i64 slots_0] K h0 = F17 slots_0 K h0 := by kernel_rfl

-- function 18
set_option maxRecDepth 100000 in
def F18 (k_0 : Addr) (x_1_0 : Int) (x_1_1 : Int) (K : Value → Heap → Prop) (h0 : Heap) : Prop := (
  newW (.cells #[.int .i64 x_1_0, .int .i64 x_1_1] 43) (fun a1 h2 =>
  ldW (.int .i64) (Addr.add a1 0) (fun (x3 : Int) =>
  br (x3 == (0 : Int))
  (ldW (.int .i64) (Addr.add a1 1) (fun (x4 : Int) =>
  callT Try.prog 22 [.pointer (some k_0), .int .i64 x4] [.sc .bool] (fun (r5 : Bool) h6 =>
  K (.bool r5) h6) h2) h2)
  (br (x3 == (1 : Int))
  (ldW (.int .i64) (Addr.add a1 1) (fun (x7 : Int) =>
  callT Try.prog 23 [.pointer (some k_0), .int .i64 x7] [.sc .bool] (fun (r8 : Bool) h9 =>
  K (.bool r8) h9) h2) h2)
  (br (x3 == (2 : Int))
  (ldW (.int .i64) (Addr.add a1 1) (fun (x10 : Int) =>
  callT Try.prog 24 [.pointer (some k_0), .int .i64 x10] [.sc .bool] (fun (r11 : Bool) h12 =>
  K (.bool r11) h12) h2) h2)
  (br (x3 == (3 : Int))
  (callT Try.prog 21 [.pointer (some k_0)] [.sc (.int .i64), .sc .bool] (fun (r13 : Int × Bool) h14 =>
  br r13.2
  (callT Try.prog 24 [.pointer (some k_0), .int .i64 r13.1] [.sc .bool] (fun (r15 : Bool) h16 =>
  K (.bool r15) h16) h14)
  (K (.bool false) h14)) h2)
  (K (.bool false) h2))))) h2) h0)
set_option maxRecDepth 100000 in
theorem F18_eq (k_0 : Addr) (x_1_0 : Int) (x_1_1 : Int) (K : Value → Heap → Prop) (h0 : Heap) : funWE Try.prog 18 (.seq (.leaf) (.seq (.seq (.leaf) (.block (.seq (.leaf) (.cond (.seq (.leaf) (.leaf)) (.seq (.leaf) (.cond (.seq (.leaf) (.leaf)) (.seq (.leaf) (.cond (.seq (.leaf) (.leaf)) (.seq (.leaf) (.cond (.seq (.leaf) (.seq (.leaf) (.cond (.seq (.leaf) (.leaf)) (.leaf)))) (.leaf))))))))))) (.seq (.leaf) (.leaf)))) [.pointer (some k_0), .agg #[.int .i64 x_1_0, .int .i64 x_1_1]] K h0 = F18 k_0 x_1_0 x_1_1 K h0 := by kernel_rfl

-- function 19
set_option maxRecDepth 100000 in
def F19 (k_0 : Addr) (K : Value → Heap → Prop) (h0 : Heap) : Prop := (
  callT Try.prog 41 [.pointer (some k_0), .int .i64 0] [.sc .slice] (fun (r1 : (Option Addr × Nat × Nat)) h2 =>
  K (.slice r1.1 r1.2.1 r1.2.2) h2) h0)
set_option maxRecDepth 100000 in
theorem F19_eq (k_0 : Addr) (K : Value → Heap → Prop) (h0 : Heap) : funWE Try.prog 19 (.seq (.leaf) (.seq (.leaf) (.leaf))) [.pointer (some k_0)] K h0 = F19 k_0 K h0 := by kernel_rfl

-- function 20
set_option maxRecDepth 100000 in
def F20 (k_0 : Addr) (K : Value → Heap → Prop) (h0 : Heap) : Prop := (
  callT Try.prog 41 [.pointer (some k_0), .int .i64 1] [.sc .slice] (fun (r1 : (Option Addr × Nat × Nat)) h2 =>
  K (.slice r1.1 r1.2.1 r1.2.2) h2) h0)
set_option maxRecDepth 100000 in
theorem F20_eq (k_0 : Addr) (K : Value → Heap → Prop) (h0 : Heap) : funWE Try.prog 20 (.seq (.leaf) (.seq (.leaf) (.leaf))) [.pointer (some k_0)] K h0 = F20 k_0 K h0 := by kernel_rfl

-- function 21
set_option maxRecDepth 100000 in
def F21 (k_0 : Addr) (K : Value → Heap → Prop) (h0 : Heap) : Prop := (
  loopT [.sc (.int .i64)] (fun (s2 : Int) _ (K1 : Int → Heap → Prop) h3 =>
  br (decide (s2 < (2 : Int)))
  (idxW s2 2 true (ldW (.int .i64) (Addr.add (Addr.add k_0 198) (Int.toNat s2 * 1)) (fun (x4 : Int) =>
  br (decide (x4 > (0 : Int)))
  (callQ Try.prog 42 [.int .i64 s2] [.sc (.int .i64)] (fun (r5 : Int) =>
  idxW r5 66 true (ldW (.int .i64) (Addr.add (Addr.add k_0 66) (Int.toNat r5 * 1)) (fun (x6 : Int) =>
  K (.tuple #[.int .i64 x6, .bool true]) h3) h3)) h3)
  (K1 (IntKind.wrap .i64 (s2 + (1 : Int))) h3)) h3))
  (K (.tuple #[.int .i64 0, .bool false]) h3)) (0 : Int) h0)
set_option maxRecDepth 100000 in
theorem F21_eq (k_0 : Addr) (K : Value → Heap → Prop) (h0 : Heap) : funWE Try.prog 21 (.seq (.leaf) (.seq (.seq (.leaf) (.block (.loop [(5, .sc (.int .i64))] (.seq (.leaf) (.seq (.cond (.leaf) (.leaf)) (.seq (.block (.seq (.leaf) (.seq (.leaf) (.cond (.seq (.draw [0, 1, 2, 3, 4, 5, 6, 7, 8] [2]) (.leaf)) (.leaf))))) (.leaf))))))) (.seq (.leaf) (.leaf)))) [.pointer (some k_0)] K h0 = F21 k_0 K h0 := by kernel_rfl

-- function 22
set_option maxRecDepth 100000 in
def F22 (k_0 : Addr) (slot_1 : Int) (K : Value → Heap → Prop) (h0 : Heap) : Prop := (
  br (decide (slot_1 < (0 : Int)))
  (K (.bool false) h0)
  (ldW (.int .i64) (Addr.add k_0 200) (fun (x1 : Int) =>
  br (decide (slot_1 ≥ x1))
  (K (.bool false) h0)
  (callT Try.prog 43 [.pointer (some k_0), .int .i64 slot_1] [.sc .bool] (fun (r2 : Bool) h3 =>
  br r2
  (K (.bool false) h3)
  (callT Try.prog 44 [.pointer (some k_0), .int .i64 slot_1, .int .i64 0] [] (fun (_r4 : Unit) h5 =>
  K (.bool true) h5) h3)) h0)) h0))
set_option maxRecDepth 100000 in
theorem F22_eq (k_0 : Addr) (slot_1 : Int) (K : Value → Heap → Prop) (h0 : Heap) : funWE Try.prog 22 (.seq (.leaf) (.seq (.seq (.leaf) (.cond (.seq (.leaf) (.leaf)) (.leaf))) (.seq (.leaf) (.seq (.leaf) (.leaf))))) [.pointer (some k_0), .int .i64 slot_1] K h0 = F22 k_0 slot_1 K h0 := by kernel_rfl

-- function 23
set_option maxRecDepth 100000 in
def F23 (k_0 : Addr) (slot_1 : Int) (K : Value → Heap → Prop) (h0 : Heap) : Prop := (
  callT Try.prog 24 [.pointer (some k_0), .int .i64 slot_1] [.sc .bool] (fun (r1 : Bool) h2 =>
  br (!r1)
  (K (.bool false) h2)
  (callT Try.prog 44 [.pointer (some k_0), .int .i64 slot_1, .int .i64 1] [] (fun (_r3 : Unit) h4 =>
  idxW (1 : Int) 2 true (ldW (.int .i64) (Addr.add (Addr.add k_0 198) (Int.toNat (1 : Int) * 1)) (fun (x5 : Int) =>
  ldW (.int .i64) (Addr.add k_0 200) (fun (x6 : Int) =>
  br (decide (x5 > (IntKind.wrap .i64 (Int.tdiv x6 (2 : Int)))))
  (callQ Try.prog 42 [.int .i64 1] [.sc (.int .i64)] (fun (r7 : Int) =>
  idxW r7 66 true (ldW (.int .i64) (Addr.add (Addr.add k_0 66) (Int.toNat r7 * 1)) (fun (x8 : Int) =>
  callT Try.prog 24 [.pointer (some k_0), .int .i64 x8] [.sc .bool] (fun (_r9 : Bool) h10 =>
  callT Try.prog 44 [.pointer (some k_0), .int .i64 x8, .int .i64 0] [] (fun (_r11 : Unit) h12 =>
  K (.bool true) h12) h10) h4) h4)) h4)
  (K (.bool true) h4)) h4) h4)) h2)) h0)
set_option maxRecDepth 100000 in
theorem F23_eq (k_0 : Addr) (slot_1 : Int) (K : Value → Heap → Prop) (h0 : Heap) : funWE Try.prog 23 (.seq (.leaf) (.seq (.seq (.leaf) (.cond (.seq (.leaf) (.leaf)) (.leaf))) (.seq (.leaf) (.seq (.seq (.draw [0, 1, 2, 3, 4, 5, 6, 7, 8, 9, 10] []) (.cond (.seq (.draw [0, 1, 2, 3, 4, 5, 6] [1]) (.seq (.leaf) (.leaf))) (.leaf))) (.seq (.leaf) (.leaf)))))) [.pointer (some k_0), .int .i64 slot_1] K h0 = F23 k_0 slot_1 K h0 := by kernel_rfl

-- function 24
set_option maxRecDepth 100000 in
def F24 (k_0 : Addr) (slot_1 : Int) (K : Value → Heap → Prop) (h0 : Heap) : Prop := (
  callT Try.prog 43 [.pointer (some k_0), .int .i64 slot_1] [.sc .bool] (fun (r1 : Bool) h2 =>
  br (!r1)
  (K (.bool false) h2)
  (idxW slot_1 66 true (ldW (.int .i64) (Addr.add (Addr.add k_0 0) (Int.toNat slot_1 * 1)) (fun (x3 : Int) =>
  idxW slot_1 66 true (ldW (.int .i64) (Addr.add (Addr.add k_0 66) (Int.toNat slot_1 * 1)) (fun (x4 : Int) =>
  idxW x4 66 true (stW (Addr.add (Addr.add k_0 0) (Int.toNat x4 * 1)) (.int .i64 x3) (fun h5 =>
  idxW x3 66 true (stW (Addr.add (Addr.add k_0 66) (Int.toNat x3 * 1)) (.int .i64 x4) (fun h6 =>
  idxW slot_1 66 true (ldW (.int .i64) (Addr.add (Addr.add k_0 132) (Int.toNat slot_1 * 1)) (fun (x7 : Int) =>
  idxW x7 2 true (ldW (.int .i64) (Addr.add (Addr.add k_0 198) (Int.toNat x7 * 1)) (fun (x8 : Int) =>
  idxW x7 2 true (stW (Addr.add (Addr.add k_0 198) (Int.toNat x7 * 1)) (.int .i64 (IntKind.wrap .i64 (x8 - (1 : Int)))) (fun h9 =>
  idxW slot_1 66 true (stW (Addr.add (Addr.add k_0 132) (Int.toNat slot_1 * 1)) (.int .i64 2) (fun h10 =>
  K (.bool true) h10) h9)) h6)) h6)) h6)) h5)) h2)) h2)) h2))) h0)
set_option maxRecDepth 100000 in
theorem F24_eq (k_0 : Addr) (slot_1 : Int) (K : Value → Heap → Prop) (h0 : Heap) : funWE Try.prog 24 (.seq (.leaf) (.seq (.seq (.leaf) (.cond (.seq (.leaf) (.leaf)) (.leaf))) (.seq (.draw [0, 1, 2, 3, 4, 5, 6, 7, 8, 9, 10, 11, 12, 13] []) (.seq (.draw [0, 1, 2, 3, 4, 5, 6, 7, 8, 10, 11, 9, 12, 13] []) (.seq (.draw [0, 1, 2, 3, 4, 5, 6, 7, 8, 9, 10, 11, 12, 13, 14, 15] []) (.seq (.leaf) (.seq (.leaf) (.leaf)))))))) [.pointer (some k_0), .int .i64 slot_1] K h0 = F24 k_0 slot_1 K h0 := by kernel_rfl

-- function 25
set_option maxRecDepth 100000 in
def F25 (a_0 : Option Addr) (a_0l _a_0c : Nat) (b_1 : Option Addr) (b_1l _b_1c : Nat) (K : Value → Heap → Prop) (h0 : Heap) : Prop := (
  br ((((a_0l : Nat) : Int)) != (((b_1l : Nat) : Int)))
  (K (.bool false) h0)
  (loopT [.sc (.int .i64)] (fun (s2 : Int) _ (K1 : Int → Heap → Prop) h3 =>
  br (decide (s2 < (((a_0l : Nat) : Int))))
  (ptrW a_0 (fun a4 =>
  idxW s2 a_0l true (ldW (.int .i64) (Addr.add a4 (Int.toNat s2 * 1)) (fun (x5 : Int) =>
  ptrW b_1 (fun a6 =>
  idxW s2 b_1l true (ldW (.int .i64) (Addr.add a6 (Int.toNat s2 * 1)) (fun (x7 : Int) =>
  br (x5 != x7)
  (K (.bool false) h3)
  (K1 (IntKind.wrap .i64 (s2 + (1 : Int))) h3)) h3))) h3)))
  (K (.bool true) h3)) (0 : Int) h0))
set_option maxRecDepth 100000 in
theorem F25_eq (a_0 : Option Addr) (a_0l a_0c : Nat) (b_1 : Option Addr) (b_1l b_1c : Nat) (K : Value → Heap → Prop) (h0 : Heap) : funWE Try.prog 25 (.seq (.leaf) (.seq (.seq (.leaf) (.cond (.seq (.leaf) (.leaf)) (.leaf))) (.seq (.seq (.leaf) (.block (.loop [(5, .sc (.int .i64))] (.seq (.seq (.leaf) (.cond (.leaf) (.leaf))) (.seq (.block (.seq (.draw [0, 1, 2, 3, 4, 5, 6, 7, 8] []) (.cond (.seq (.leaf) (.leaf)) (.leaf)))) (.leaf)))))) (.seq (.leaf) (.leaf))))) [.slice a_0 a_0l a_0c, .slice b_1 b_1l b_1c] K h0 = F25 a_0 a_0l a_0c b_1 b_1l b_1c K h0 := by kernel_rfl

-- function 26
set_option maxRecDepth 100000 in
def F26 (a_0 : Option Addr) (a_0l _a_0c : Nat) (b_1 : Option Addr) (b_1l _b_1c : Nat) (K : Value → Heap → Prop) (h0 : Heap) : Prop := (
  br ((((a_0l : Nat) : Int)) != (((b_1l : Nat) : Int)))
  (K (.bool false) h0)
  (loopT [.sc (.int .i64)] (fun (s2 : Int) _ (K1 : Int → Heap → Prop) h3 =>
  br (decide (s2 < (((a_0l : Nat) : Int))))
  (ptrW a_0 (fun a4 =>
  idxW s2 a_0l true (ldW (.int .u32) (Addr.add a4 (Int.toNat s2 * 1)) (fun (x5 : Int) =>
  ptrW b_1 (fun a6 =>
  idxW s2 b_1l true (ldW (.int .u32) (Addr.add a6 (Int.toNat s2 * 1)) (fun (x7 : Int) =>
  br (x5 != x7)
  (K (.bool false) h3)
  (K1 (IntKind.wrap .i64 (s2 + (1 : Int))) h3)) h3))) h3)))
  (K (.bool true) h3)) (0 : Int) h0))
set_option maxRecDepth 100000 in
theorem F26_eq (a_0 : Option Addr) (a_0l a_0c : Nat) (b_1 : Option Addr) (b_1l b_1c : Nat) (K : Value → Heap → Prop) (h0 : Heap) : funWE Try.prog 26 (.seq (.leaf) (.seq (.seq (.leaf) (.cond (.seq (.leaf) (.leaf)) (.leaf))) (.seq (.seq (.leaf) (.block (.loop [(5, .sc (.int .i64))] (.seq (.seq (.leaf) (.cond (.leaf) (.leaf))) (.seq (.block (.seq (.draw [0, 1, 2, 3, 4, 5, 6, 7, 8] []) (.cond (.seq (.leaf) (.leaf)) (.leaf)))) (.leaf)))))) (.seq (.leaf) (.leaf))))) [.slice a_0 a_0l a_0c, .slice b_1 b_1l b_1c] K h0 = F26 a_0 a_0l a_0c b_1 b_1l b_1c K h0 := by kernel_rfl

-- function 41
set_option maxRecDepth 100000 in
def F41 (k_0 : Addr) (row_1 : Int) (K : Value → Heap → Prop) (h0 : Heap) : Prop := (
  newW (.cells (zeroC Try.prog 45) 45) (fun a1 h2 =>
  callT Try.prog 54 [.pointer (some k_0), .int .i64 row_1] [.sc .any] (fun (r3 : Value) h4 =>
  rfW r3 (fun n28 x29 x30 =>
  rangeW Try.prog n28 x29 x30 [.sc (.int .i64)] (fun l5 o6 (s7 : Int) Y8 h9 =>
  roundIn l5 o6 (fun h11 =>
  ldW .slice a1 (fun (x13 : Option Addr × Nat × Nat) =>
  newW (.cells #[.int .i64 s7] 3) (fun a14 h15 =>
  apW Try.prog #[45, 45] #[.slice x13.1 x13.2.1 x13.2.2, .slice (some a14) 1 1] (fun b16 n17 c18 h19 =>
  stW a1 (.slice b16 n17 c18) (fun h20 =>
  roundEnd l5 o6.rdy (Y8 true) h20) h19) h15) h11) h11) h9) (fun l26 o27 h21 =>
  (roundDone l26 o27.rdy (fun h22 =>
  ldW .slice a1 (fun (x23 : Option Addr × Nat × Nat) =>
  (∀ h24, Taken h0.size h22 h24 →
  K (.slice x23.1 x23.2.1 x23.2.2) h24)) h22) h21) ∨
  (roundDone l26 (o27.dn .ret) (fun h22 =>
  (∀ h25, Taken h0.size h22 h25 →
  K (.slice none 0 0) h25)) h21) ∨ False) h4)) h2) h0)
set_option maxRecDepth 100000 in
theorem F41_eq (k_0 : Addr) (row_1 : Int) (K : Value → Heap → Prop) (h0 : Heap) : funWE Try.prog 41 (.seq (.leaf) (.seq (.leaf) (.seq (.seq (.leaf) (.block (.range [.sc (.int .i64)] [] (.leaf) (.block (.leaf))))) (.seq (.leaf) (.leaf))))) [.pointer (some k_0), .int .i64 row_1] K h0 = F41 k_0 row_1 K h0 := by kernel_rfl

-- function 42
set_option maxRecDepth 100000 in
def F42 (row_0 : Int) (K : Value → Heap → Prop) (h0 : Heap) : Prop := (
  K (.int .i64 (IntKind.wrap .i64 ((64 : Int) + row_0))) h0)
set_option maxRecDepth 100000 in
theorem F42_eq (row_0 : Int) (K : Value → Heap → Prop) (h0 : Heap) : funWE Try.prog 42 (.seq (.leaf) (.seq (.leaf) (.leaf))) [.int .i64 row_0] K h0 = F42 row_0 K h0 := by kernel_rfl

-- function 43
set_option maxRecDepth 100000 in
def F43 (k_0 : Addr) (slot_1 : Int) (K : Value → Heap → Prop) (h0 : Heap) : Prop := (
  br (decide (slot_1 ≥ (0 : Int)))
  (ldW (.int .i64) (Addr.add k_0 200) (fun (x1 : Int) =>
  br (decide (slot_1 < x1))
  (idxW slot_1 66 true (ldW (.int .i64) (Addr.add (Addr.add k_0 132) (Int.toNat slot_1 * 1)) (fun (x2 : Int) =>
  K (.bool (x2 != (2 : Int))) h0) h0))
  (K (.bool false) h0)) h0)
  (K (.bool false) h0))
set_option maxRecDepth 100000 in
theorem F43_eq (k_0 : Addr) (slot_1 : Int) (K : Value → Heap → Prop) (h0 : Heap) : funWE Try.prog 43 (.seq (.leaf) (.seq (.leaf) (.leaf))) [.pointer (some k_0), .int .i64 slot_1] K h0 = F43 k_0 slot_1 K h0 := by kernel_rfl

-- function 44
set_option maxRecDepth 100000 in
def F44 (k_0 : Addr) (slot_1 : Int) (row_2 : Int) (K : Value → Heap → Prop) (h0 : Heap) : Prop := (
  callT Try.prog 42 [.int .i64 row_2] [.sc (.int .i64)] (fun (r1 : Int) h2 =>
  idxW r1 66 true (ldW (.int .i64) (Addr.add (Addr.add k_0 0) (Int.toNat r1 * 1)) (fun (x3 : Int) =>
  idxW r1 66 true (stW (Addr.add (Addr.add k_0 0) (Int.toNat r1 * 1)) (.int .i64 slot_1) (fun h4 =>
  idxW slot_1 66 true (stW (Addr.add (Addr.add k_0 66) (Int.toNat slot_1 * 1)) (.int .i64 r1) (fun h5 =>
  idxW slot_1 66 true (stW (Addr.add (Addr.add k_0 0) (Int.toNat slot_1 * 1)) (.int .i64 x3) (fun h6 =>
  idxW x3 66 true (stW (Addr.add (Addr.add k_0 66) (Int.toNat x3 * 1)) (.int .i64 slot_1) (fun h7 =>
  idxW slot_1 66 true (stW (Addr.add (Addr.add k_0 132) (Int.toNat slot_1 * 1)) (.int .i64 row_2) (fun h8 =>
  idxW row_2 2 true (ldW (.int .i64) (Addr.add (Addr.add k_0 198) (Int.toNat row_2 * 1)) (fun (x9 : Int) =>
  idxW row_2 2 true (stW (Addr.add (Addr.add k_0 198) (Int.toNat row_2 * 1)) (.int .i64 (IntKind.wrap .i64 (x9 + (1 : Int)))) (fun h10 =>
  K (.tuple #[]) h10) h8)) h8)) h7)) h6)) h5)) h4)) h2)) h2)) h0)
set_option maxRecDepth 100000 in
theorem F44_eq (k_0 : Addr) (slot_1 : Int) (row_2 : Int) (K : Value → Heap → Prop) (h0 : Heap) : funWE Try.prog 44 (.seq (.leaf) (.seq (.leaf) (.seq (.draw [0, 1, 2, 3, 4, 5, 6, 7, 8, 9, 10, 11, 12, 13, 14, 16, 17, 20, 21, 24, 25, 15, 18, 19, 22, 23, 26, 27] []) (.seq (.leaf) (.draw [0, 1, 2, 3, 4, 5, 6, 7, 8, 9, 10] []))))) [.pointer (some k_0), .int .i64 slot_1, .int .i64 row_2] K h0 = F44 k_0 slot_1 row_2 K h0 := by kernel_rfl

-- function 53
set_option maxRecDepth 100000 in
def F53 (s_0 : Option Addr) (s_0l s_0c : Nat) (v_1 : Int) (K : Value → Heap → Prop) (h0 : Heap) : Prop := (
  callT Try.prog 58 [.slice s_0 s_0l s_0c, .int .i64 v_1] [.sc (.int .i64)] (fun (r1 : Int) h2 =>
  K (.bool (decide (r1 ≥ (0 : Int)))) h2) h0)
set_option maxRecDepth 100000 in
theorem F53_eq (s_0 : Option Addr) (s_0l s_0c : Nat) (v_1 : Int) (K : Value → Heap → Prop) (h0 : Heap) : funWE Try.prog 53 (.seq (.leaf) (.seq (.leaf) (.leaf))) [.slice s_0 s_0l s_0c, .int .i64 v_1] K h0 = F53 s_0 s_0l s_0c v_1 K h0 := by kernel_rfl

-- function 54
set_option maxRecDepth 100000 in
def F54 (k_0 : Addr) (row_1 : Int) (K : Value → Heap → Prop) (h0 : Heap) : Prop := (
  newW (.cells #[.pointer (some k_0)] 39) (fun a1 h2 =>
  newW (.cells #[.int .i64 row_1] 3) (fun a3 h4 =>
  K (.func (.func 59) #[] #[.pointer (some a1), .pointer (some a3)]) h4) h2) h0)
set_option maxRecDepth 100000 in
theorem F54_eq (k_0 : Addr) (row_1 : Int) (K : Value → Heap → Prop) (h0 : Heap) : funWE Try.prog 54 (.seq (.leaf) (.seq (.leaf) (.leaf))) [.pointer (some k_0), .int .i64 row_1] K h0 = F54 k_0 row_1 K h0 := by kernel_rfl

-- function 59
set_option maxRecDepth 100000 in
def F59 (yield_0 : Nat) (cap_0 : Addr) (cap_1 : Addr) (K : Value → Heap → Prop) (h0 : Heap) : Prop := (
  ldW .ptr cap_0 (fun (x1 : Option Addr) =>
  ldW (.int .i64) cap_1 (fun (x2 : Int) =>
  callQ Try.prog 42 [.int .i64 x2] [.sc (.int .i64)] (fun (r3 : Int) =>
  ptrW x1 (fun a4 =>
  idxW r3 66 true (ldW (.int .i64) (Addr.add (Addr.add a4 0) (Int.toNat r3 * 1)) (fun (x5 : Int) =>
  loopT [.sc (.int .i64)] (fun (s7 : Int) _ (K6 : Int → Heap → Prop) h8 =>
  cutT [] (fun (K9 : Unit → Heap → Prop) h15 =>
  ldW (.int .i64) cap_1 (fun (x10 : Int) =>
  callT Try.prog 42 [.int .i64 x10] [.sc (.int .i64)] (fun (r11 : Int) h12 =>
  br (s7 != r11)
  (yieldT Try.prog yield_0 [.int .i64 s7] (fun b13 h14 =>
  br b13
  (K9 () h14)
  (K (.tuple #[]) h14)) h12)
  (K (.tuple #[]) h12)) h15) h15) (fun (_s16 : Unit) _ h17 =>
  ldW .ptr cap_0 (fun (x18 : Option Addr) =>
  ptrW x18 (fun a19 =>
  idxW s7 66 true (ldW (.int .i64) (Addr.add (Addr.add a19 0) (Int.toNat s7 * 1)) (fun (x20 : Int) =>
  K6 x20 h17) h17))) h17) h8) x5 h0) h0))) h0) h0) h0)
set_option maxRecDepth 100000 in
theorem F59_eq (yield_0 : Nat) (cap_0 : Addr) (cap_1 : Addr) (K : Value → Heap → Prop) (h0 : Heap) : funWE Try.prog 59 (.seq (.draw [0, 1, 2, 3, 4, 5, 6, 7] [2]) (.block (.loop [(4, .sc (.int .i64))] (.cut [] (.seq (.leaf) (.cond (.leaf) (.leaf))) (.seq (.block (.leaf)) (.leaf)))))) [.func (.yield yield_0) #[] #[], .pointer (some cap_0), .pointer (some cap_1)] K h0 = F59 yield_0 cap_0 cap_1 K h0 := by kernel_rfl

end Go.Proofs.Ytfanjfbenhocnaa.W
