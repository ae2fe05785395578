/-
  The formulas of the law IndexOrder. Each formula checked by the kernel. Printed by a program of this repo.
-/
import Derived.Test.YtfanjfbenhocnaaProg
import Derived.Test.YtfanjfbenhocnaaPl
namespace Go.Proofs.Ytfanjfbenhocnaa.W
open Go.Pl

-- function 7
set_option maxRecDepth 100000 in
def F7 (keys_0 : Option Addr) (keys_0l _keys_0c : Nat) (drop_1 : Option Addr) (drop_1l _drop_1c : Nat) (K : Value → Heap → Prop) (h0 : Heap) : Prop := (
  callT Try.prog 10 [] [.sc .bool] (fun (r1 : Bool) h2 =>
  br (!r1)
  (K (.bool false) h2)
  (cutT [] (fun (K3 : Unit → Heap → Prop) h4 =>
  br (decide ((((keys_0l : Nat) : Int)) > (64 : Int)))
  (K (.bool true) h4)
  (br (decide ((((drop_1l : Nat) : Int)) > (64 : Int)))
  (K (.bool true) h4)
  (K3 () h4))) (fun (_s5 : Unit) _ h6 =>
  callT Try.prog 11 [.int .i64 64] [.sc .ptr, .sc .any] (fun (r7 : (Option Addr) × Value) h8 =>
  callT Try.prog 11 [.int .i64 64] [.sc .ptr, .sc .any] (fun (r9 : (Option Addr) × Value) h10 =>
  cutT [] (fun (K11 : Unit → Heap → Prop) h12 =>
  br (Option.isNone r7.1)
  (K (.bool false) h12)
  (br (Option.isNone r9.1)
  (K (.bool false) h12)
  (K11 () h12))) (fun (_s13 : Unit) _ h14 =>
  loopT [.sc (.int .i64)] (fun (s16 : Int) _ (K15 : Int → Heap → Prop) h17 =>
  br (decide (s16 < (((keys_0l : Nat) : Int))))
  (ptrW keys_0 (fun a18 =>
  idxW (IntKind.wrap .i64 ((IntKind.wrap .i64 ((((keys_0l : Nat) : Int)) - (1 : Int))) - s16)) keys_0l true (ldW (.int .u32) (Addr.add a18 (Int.toNat (IntKind.wrap .i64 ((IntKind.wrap .i64 ((((keys_0l : Nat) : Int)) - (1 : Int))) - s16)) * 1)) (fun (x19 : Int) =>
  ptrW keys_0 (fun a20 =>
  idxW s16 keys_0l true (ldW (.int .u32) (Addr.add a20 (Int.toNat s16 * 1)) (fun (x21 : Int) =>
  ptrW keys_0 (fun a22 =>
  idxW s16 keys_0l true (ldW (.int .u32) (Addr.add a22 (Int.toNat s16 * 1)) (fun (x23 : Int) =>
  callT Try.prog 13 [.pointer r7.1, .int .u32 x21, .int .i64 (IntKind.wrap .i64 (Int.tmod x23 (1000 : Int)))] [.sc .bool] (fun (r24 : Bool) h25 =>
  br (!r24)
  (K (.bool false) h25)
  (callT Try.prog 13 [.pointer r9.1, .int .u32 x19, .int .i64 (IntKind.wrap .i64 (Int.tmod x19 (1000 : Int)))] [.sc .bool] (fun (r26 : Bool) h27 =>
  br (!r26)
  (K (.bool false) h27)
  (K15 (IntKind.wrap .i64 (s16 + (1 : Int))) h27)) h25)) h17) h17))) h17))) h17)))
  (loopT [.sc (.int .i64)] (fun (s29 : Int) _ (K28 : Int → Heap → Prop) h30 =>
  br (decide (s29 < (((keys_0l : Nat) : Int))))
  (cutT [] (fun (K31 : Unit → Heap → Prop) h42 =>
  cutT [.sc .bool] (fun (K32 : Bool → Heap → Prop) h35 =>
  br (decide (s29 < (((drop_1l : Nat) : Int))))
  (ptrW drop_1 (fun a33 =>
  idxW s29 drop_1l true (ldW .bool (Addr.add a33 (Int.toNat s29 * 1)) (fun (x34 : Bool) =>
  K32 x34 h35) h35)))
  (K32 false h35)) (fun (s36 : Bool) _ h37 =>
  br s36
  (ptrW keys_0 (fun a38 =>
  idxW s29 keys_0l true (ldW (.int .u32) (Addr.add a38 (Int.toNat s29 * 1)) (fun (x39 : Int) =>
  callT Try.prog 14 [.pointer r7.1, .int .u32 x39] [.sc .bool] (fun (_r40 : Bool) h41 =>
  K31 () h41) h37) h37)))
  (K31 () h37)) h42) (fun (_s43 : Unit) _ h44 =>
  cutT [.sc .bool] (fun (K45 : Bool → Heap → Prop) h48 =>
  br (decide ((IntKind.wrap .i64 ((IntKind.wrap .i64 ((((keys_0l : Nat) : Int)) - (1 : Int))) - s29)) < (((drop_1l : Nat) : Int))))
  (ptrW drop_1 (fun a46 =>
  idxW (IntKind.wrap .i64 ((IntKind.wrap .i64 ((((keys_0l : Nat) : Int)) - (1 : Int))) - s29)) drop_1l true (ldW .bool (Addr.add a46 (Int.toNat (IntKind.wrap .i64 ((IntKind.wrap .i64 ((((keys_0l : Nat) : Int)) - (1 : Int))) - s29)) * 1)) (fun (x47 : Bool) =>
  K45 x47 h48) h48)))
  (K45 false h48)) (fun (s49 : Bool) _ h50 =>
  br s49
  (ptrW keys_0 (fun a51 =>
  idxW (IntKind.wrap .i64 ((IntKind.wrap .i64 ((((keys_0l : Nat) : Int)) - (1 : Int))) - s29)) keys_0l true (ldW (.int .u32) (Addr.add a51 (Int.toNat (IntKind.wrap .i64 ((IntKind.wrap .i64 ((((keys_0l : Nat) : Int)) - (1 : Int))) - s29)) * 1)) (fun (x52 : Int) =>
  callT Try.prog 14 [.pointer r9.1, .int .u32 x52] [.sc .bool] (fun (_r53 : Bool) h54 =>
  K28 (IntKind.wrap .i64 (s29 + (1 : Int))) h54) h50) h50)))
  (K28 (IntKind.wrap .i64 (s29 + (1 : Int))) h50)) h44) h30)
  (loopT [.sc (.int .i64)] (fun (s56 : Int) _ (K55 : Int → Heap → Prop) h57 =>
  br (decide (s56 < (((keys_0l : Nat) : Int))))
  (ptrW keys_0 (fun a58 =>
  idxW s56 keys_0l true (ldW (.int .u32) (Addr.add a58 (Int.toNat s56 * 1)) (fun (x59 : Int) =>
  callT Try.prog 15 [.pointer r7.1, .int .u32 x59] [.sc (.int .i64), .sc .bool] (fun (r60 : Int × Bool) h61 =>
  callT Try.prog 15 [.pointer r9.1, .int .u32 x59] [.sc (.int .i64), .sc .bool] (fun (r62 : Int × Bool) h63 =>
  br (r60.1 != r62.1)
  (K (.bool false) h63)
  (br (!(r60.2 == r62.2))
  (K (.bool false) h63)
  (br r60.2
  (br (r60.1 != (IntKind.wrap .i64 (Int.tmod x59 (1000 : Int))))
  (K (.bool false) h63)
  (K55 (IntKind.wrap .i64 (s56 + (1 : Int))) h63))
  (K55 (IntKind.wrap .i64 (s56 + (1 : Int))) h63)))) h61) h57) h57)))
  (callT Try.prog 27 [.pointer r7.1] [.sc .slice] (fun (r64 : (Option Addr × Nat × Nat)) h65 =>
  callT Try.prog 27 [.pointer r9.1] [.sc .slice] (fun (r66 : (Option Addr × Nat × Nat)) h67 =>
  callT Try.prog 26 [.slice r64.1 r64.2.1 r64.2.2, .slice r66.1 r66.2.1 r66.2.2] [.sc .bool] (fun (r68 : Bool) h69 =>
  br r68
  (callT Try.prog 12 [.pointer r7.1] [.sc (.int .i64)] (fun (r70 : Int) h71 =>
  callT Try.prog 12 [.pointer r9.1] [.sc (.int .i64)] (fun (r72 : Int) h73 =>
  K (.bool (r70 == r72)) h73) h71) h69)
  (K (.bool false) h69)) h67) h65) h57)) (0 : Int) h30)) (0 : Int) h17)) (0 : Int) h14) h10) h8) h6) h2)) h0)
set_option maxRecDepth 100000 in
theorem F7_eq (keys_0 : Option Addr) (keys_0l keys_0c : Nat) (drop_1 : Option Addr) (drop_1l drop_1c : Nat) (K : Value → Heap → Prop) (h0 : Heap) : funWE Try.prog 7 (.seq (.leaf) (.seq (.seq (.leaf) (.cond (.seq (.leaf) (.leaf)) (.leaf))) (.cut [] (.seq (.leaf) (.cond (.seq (.leaf) (.leaf)) (.leaf))) (.seq (.leaf) (.seq (.leaf) (.cut [] (.seq (.leaf) (.cond (.seq (.leaf) (.leaf)) (.leaf))) (.seq (.seq (.leaf) (.block (.loop [(45, .sc (.int .i64))] (.seq (.leaf) (.seq (.cond (.leaf) (.leaf)) (.seq (.block (.seq (.leaf) (.seq (.leaf) (.seq (.draw (odp [0, 1, 2, 3, 4, 5, 6, 7, 8, 9, 10, 11, 12, 13, 14, 15, 16, 17, 18, 19, 20, 21] .nil) []) (.cond (.seq (.leaf) (.leaf)) (.leaf)))))) (.leaf))))))) (.seq (.seq (.leaf) (.block (.loop [(81, .sc (.int .i64))] (.seq (.leaf) (.seq (.cond (.leaf) (.leaf)) (.seq (.block (.seq (.leaf) (.seq (.leaf) (.cut [] (.cut [(98, .sc .bool)] (.leaf) (.cond (.leaf) (.leaf))) (.cut [(114, .sc .bool)] (.leaf) (.cond (.leaf) (.leaf))))))) (.leaf))))))) (.seq (.seq (.leaf) (.block (.loop [(124, .sc (.int .i64))] (.seq (.leaf) (.seq (.cond (.leaf) (.leaf)) (.seq (.block (.seq (.leaf) (.seq (.leaf) (.seq (.leaf) (.seq (.leaf) (.cond (.seq (.leaf) (.leaf)) (.leaf))))))) (.leaf))))))) (.seq (.leaf) (.leaf))))))))))) [.slice keys_0 keys_0l keys_0c, .slice drop_1 drop_1l drop_1c] K h0 = F7 keys_0 keys_0l keys_0c drop_1 drop_1l drop_1c K h0 := by kernel_rfl

-- function 10
set_option maxRecDepth 100000 in
def F10  (K : Value → Heap → Prop) (h0 : Heap) : Prop := (
  callT Try.prog 11 [.int .i64 1] [.sc .ptr, .sc .any] (fun (r1 : (Option Addr) × Value) h2 =>
  cutT [] (fun (K3 : Unit → Heap → Prop) h4 =>
  br (Option.isNone r1.1)
  (K (.bool false) h4)
  (ifW r1.2 (br (!(isNilV r1.2))
  (K (.bool false) h4)
  (K3 () h4)))) (fun (_s5 : Unit) _ h6 =>
  callT Try.prog 13 [.pointer r1.1, .int .u32 7, .int .i64 0] [.sc .bool] (fun (r7 : Bool) h8 =>
  callT Try.prog 13 [.pointer r1.1, .int .u32 8, .int .i64 1] [.sc .bool] (fun (r9 : Bool) h10 =>
  callT Try.prog 13 [.pointer r1.1, .int .u32 7, .int .i64 2] [.sc .bool] (fun (r11 : Bool) h12 =>
  callT Try.prog 15 [.pointer r1.1, .int .u32 7] [.sc (.int .i64), .sc .bool] (fun (r13 : Int × Bool) h14 =>
  callT Try.prog 15 [.pointer r1.1, .int .u32 8] [.sc (.int .i64), .sc .bool] (fun (r15 : Int × Bool) h16 =>
  br r7
  (br (!r9)
  (br r11
  (br (r13.1 == (2 : Int))
  (br r13.2
  (br (!r15.2)
  (callT Try.prog 12 [.pointer r1.1] [.sc (.int .i64)] (fun (r17 : Int) h18 =>
  br (r17 == (1 : Int))
  (callT Try.prog 14 [.pointer r1.1, .int .u32 7] [.sc .bool] (fun (r19 : Bool) h20 =>
  br r19
  (callT Try.prog 14 [.pointer r1.1, .int .u32 7] [.sc .bool] (fun (r21 : Bool) h22 =>
  br (!r21)
  (callT Try.prog 12 [.pointer r1.1] [.sc (.int .i64)] (fun (r23 : Int) h24 =>
  K (.bool (r23 == (0 : Int))) h24) h22)
  (K (.bool false) h22)) h20)
  (K (.bool false) h20)) h18)
  (K (.bool false) h18)) h16)
  (K (.bool false) h16))
  (K (.bool false) h16))
  (K (.bool false) h16))
  (K (.bool false) h16))
  (K (.bool false) h16))
  (K (.bool false) h16)) h14) h12) h10) h8) h6) h2) h0)
set_option maxRecDepth 100000 in
theorem F10_eq  (K : Value → Heap → Prop) (h0 : Heap) : funWE Try.prog 10 (.seq (.leaf) (.seq (.leaf) (.cut [] (.seq (.leaf) (.cond (.seq (.leaf) (.leaf)) (.leaf))) (.seq (.leaf) (.seq (.leaf) (.seq (.leaf) (.seq (.leaf) (.leaf)))))))) [] K h0 = F10  K h0 := by kernel_rfl

-- function 26
set_option maxRecDepth 100000 in
def F26 (a_0 : Option Addr) (a_0l _a_0c : Nat) (b_1 : Option Addr) (b_1l _b_1c : Nat) (K : Value → Heap → Prop) (h0 : Heap) : Prop := (
  br ((((a_0l : Nat) : Int)) != (((b_1l : Nat) : Int)))
  (K (.bool false) h0)
  (loopT [.sc (.int .i64)] (fun (s2 : Int) _ (K1 : Int → Heap → Prop) h3 =>
  br (decide (s2 < (((a_0l : Nat) : Int))))
  (ptrW a_0 (fun a4 =>
  idxW s2 a_0l true (ldW (.int .u32) (Addr.add a4 (Int.toNat s2 * 1)) (fun (x5 : Int) =>
  ptrW b_1 (fun a6 =>
  idxW s2 b_1l true (ldW (.int .u32) (Addr.add a6 (Int.toNat s2 * 1)) (fun (x7 : Int) =>
  br (x5 != x7)
  (K (.bool false) h3)
  (K1 (IntKind.wrap .i64 (s2 + (1 : Int))) h3)) h3))) h3)))
  (K (.bool true) h3)) (0 : Int) h0))
set_option maxRecDepth 100000 in
theorem F26_eq (a_0 : Option Addr) (a_0l a_0c : Nat) (b_1 : Option Addr) (b_1l b_1c : Nat) (K : Value → Heap → Prop) (h0 : Heap) : funWE Try.prog 26 (.seq (.leaf) (.seq (.seq (.leaf) (.cond (.seq (.leaf) (.leaf)) (.leaf))) (.seq (.seq (.leaf) (.block (.loop [(5, .sc (.int .i64))] (.seq (.seq (.leaf) (.cond (.leaf) (.leaf))) (.seq (.block (.seq (.draw (odp [0, 1, 2, 3, 4, 5, 6, 7, 8] .nil) []) (.cond (.seq (.leaf) (.leaf)) (.leaf)))) (.leaf)))))) (.seq (.leaf) (.leaf))))) [.slice a_0 a_0l a_0c, .slice b_1 b_1l b_1c] K h0 = F26 a_0 a_0l a_0c b_1 b_1l b_1c K h0 := by kernel_rfl

end Go.Proofs.Ytfanjfbenhocnaa.W
