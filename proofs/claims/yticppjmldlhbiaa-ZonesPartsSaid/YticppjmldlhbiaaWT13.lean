/-
  The formulas of the laws of zones, without fault. Each formula checked by the kernel. Printed by a program of this repo.
-/
import Derived.Test.YticppjmldlhbiaaProg
import Derived.Test.YticppjmldlhbiaaPl
namespace Go.Proofs.Yticppjmldlhbiaa.W
open Go.Pl

-- function 22
set_option maxRecDepth 100000 in
def F22  (K : Value → Heap → Prop) (h0 : Heap) : Prop := (
  callT Try.prog 23 [.int .i64 3] [.sc .ptr, .sc .any] (fun (r1 : (Option Addr) × Value) h2 =>
  cutT [] (fun (K3 : Unit → Heap → Prop) h4 =>
  br (Option.isNone r1.1)
  (K (.bool false) h4)
  (ifW r1.2 (br (!(isNilV r1.2))
  (K (.bool false) h4)
  (K3 () h4)))) (fun (_s5 : Unit) _ h6 =>
  callT Try.prog 29 [.pointer r1.1] [.sc (.int .i64), .sc .bool] (fun (r7 : Int × Bool) h8 =>
  callT Try.prog 29 [.pointer r1.1] [.sc (.int .i64), .sc .bool] (fun (r9 : Int × Bool) h10 =>
  cutT [.sc .bool] (fun (K11 : Bool → Heap → Prop) h20 =>
  callT Try.prog 30 [.pointer r1.1, .int .i64 1] [.sc .bool] (fun (r12 : Bool) h13 =>
  br r12
  (callT Try.prog 30 [.pointer r1.1, .int .i64 1] [.sc .bool] (fun (r14 : Bool) h15 =>
  br (!r14)
  (callT Try.prog 31 [.pointer r1.1, .int .i64 0] [.sc .bool] (fun (r16 : Bool) h17 =>
  br r16
  (callT Try.prog 31 [.pointer r1.1, .int .i64 0] [.sc .bool] (fun (r18 : Bool) h19 =>
  K11 (!r18) h19) h17)
  (K11 false h17)) h15)
  (K11 false h15)) h13)
  (K11 false h13)) h20) (fun (s21 : Bool) _ h22 =>
  callT Try.prog 28 [.pointer r1.1, .int .i64 1] [.sc (.int .i64), .sc .bool] (fun (r23 : Int × Bool) h24 =>
  br (r7.1 == (0 : Int))
  (br r7.2
  (br (r9.1 == (1 : Int))
  (br r9.2
  (br s21
  (br (r23.1 == (2 : Int))
  (br r23.2
  (callT Try.prog 24 [.pointer r1.1] [.sc .slice] (fun (r25 : (Option Addr × Nat × Nat)) h26 =>
  newW (.cells #[.int .i64 2, .int .i64 0] 3) (fun a27 h28 =>
  callT Try.prog 20 [.slice r25.1 r25.2.1 r25.2.2, .slice (some a27) 2 2] [.sc .bool] (fun (r29 : Bool) h30 =>
  br r29
  (callT Try.prog 26 [.pointer r1.1] [.sc .slice] (fun (r31 : (Option Addr × Nat × Nat)) h32 =>
  newW (.cells #[.int .i64 1] 3) (fun a33 h34 =>
  callT Try.prog 20 [.slice r31.1 r31.2.1 r31.2.2, .slice (some a33) 1 1] [.sc .bool] (fun (r35 : Bool) h36 =>
  br r35
  (callT Try.prog 27 [.pointer r1.1, .int .i64 1] [.sc (.int .u32)] (fun (r37 : Int) h38 =>
  K (.bool (r37 == (0 : Int))) h38) h36)
  (K (.bool false) h36)) h34) h32) h30)
  (K (.bool false) h30)) h28) h26) h24)
  (K (.bool false) h24))
  (K (.bool false) h24))
  (K (.bool false) h24))
  (K (.bool false) h24))
  (K (.bool false) h24))
  (K (.bool false) h24))
  (K (.bool false) h24)) h22) h10) h8) h6) h2) h0)
set_option maxRecDepth 100000 in
theorem F22_eq  (K : Value → Heap → Prop) (h0 : Heap) : funWE Try.prog 22 (.seq (.leaf) (.seq (.leaf) (.cut [] (.seq (.leaf) (.cond (.seq (.leaf) (.leaf)) (.leaf))) (.seq (.leaf) (.seq (.leaf) (.cut [(7, .sc .bool)] (.leaf) (.seq (.leaf) (.seq (.leaf) (.leaf))))))))) [] K h0 = F22  K h0 := by kernel_rfl

-- function 25
set_option maxRecDepth 100000 in
def F25 (t_0 : Addr) (x_1_0 : Int) (x_1_1 : Int) (K : Value → Heap → Prop) (h0 : Heap) : Prop := (
  newW (.cells #[.int .i64 x_1_0, .int .i64 x_1_1] 51) (fun a1 h2 =>
  ldW (.int .i64) (Addr.add a1 0) (fun (x3 : Int) =>
  br (x3 == (0 : Int))
  (callT Try.prog 29 [.pointer (some t_0)] [.sc (.int .i64), .sc .bool] (fun (r4 : Int × Bool) h5 =>
  K (.tuple #[.int .i64 r4.1, .bool r4.2]) h5) h2)
  (br (x3 == (1 : Int))
  (ldW (.int .i64) (Addr.add a1 1) (fun (x6 : Int) =>
  callT Try.prog 30 [.pointer (some t_0), .int .i64 x6] [.sc .bool] (fun (r7 : Bool) h8 =>
  K (.tuple #[.int .i64 (-1), .bool r7]) h8) h2) h2)
  (br (x3 == (2 : Int))
  (ldW (.int .i64) (Addr.add a1 1) (fun (x9 : Int) =>
  callT Try.prog 31 [.pointer (some t_0), .int .i64 x9] [.sc .bool] (fun (r10 : Bool) h11 =>
  K (.tuple #[.int .i64 (-1), .bool r10]) h11) h2) h2)
  (K (.tuple #[.int .i64 (-1), .bool false]) h2)))) h2) h0)
set_option maxRecDepth 100000 in
theorem F25_eq (t_0 : Addr) (x_1_0 : Int) (x_1_1 : Int) (K : Value → Heap → Prop) (h0 : Heap) : funWE Try.prog 25 (.seq (.leaf) (.seq (.seq (.leaf) (.block (.seq (.leaf) (.cond (.seq (.leaf) (.leaf)) (.seq (.leaf) (.cond (.seq (.leaf) (.leaf)) (.seq (.leaf) (.cond (.seq (.leaf) (.leaf)) (.leaf))))))))) (.seq (.leaf) (.leaf)))) [.pointer (some t_0), .agg #[.int .i64 x_1_0, .int .i64 x_1_1]] K h0 = F25 t_0 x_1_0 x_1_1 K h0 := by kernel_rfl

-- function 4
set_option maxRecDepth 100000 in
def F4 (many_0 : Int) (l_1 : Option Addr) (l_1l _l_1c : Nat) (K : Value → Heap → Prop) (h0 : Heap) : Prop := (
  callT Try.prog 22 [] [.sc .bool] (fun (r1 : Bool) h2 =>
  br (!r1)
  (K (.bool false) h2)
  (callT Try.prog 23 [.int .i64 many_0] [.sc .ptr, .sc .any] (fun (r3 : (Option Addr) × Value) h4 =>
  cutT [] (fun (K5 : Unit → Heap → Prop) h6 =>
  br (Option.isNone r3.1)
  (K (.bool true) h6)
  (br (decide (many_0 > (24 : Int)))
  (K (.bool true) h6)
  (br (decide ((((l_1l : Nat) : Int)) > (200 : Int)))
  (K (.bool true) h6)
  (K5 () h6)))) (fun (_s7 : Unit) _ h8 =>
  callT Try.prog 24 [.pointer r3.1] [.sc .slice] (fun (r9 : (Option Addr × Nat × Nat)) h10 =>
  loopT [.sc .slice, .sc (.int .i64)] (fun (s12 : (Option Addr × Nat × Nat) × Int) _ (K11 : ((Option Addr × Nat × Nat) × Int) → Heap → Prop) h13 =>
  br (decide (s12.2 < (((l_1l : Nat) : Int))))
  (ptrW l_1 (fun a14 =>
  idxW s12.2 l_1l true (ldAggW [.int .i64, .int .i64] (Addr.add a14 (Int.toNat s12.2 * 2)) (fun (x15 : Int × Int) =>
  newW (.cells (zeroC Try.prog 51) 51) (fun a16 h17 =>
  stLW a16 [.int .i64 x15.1, .int .i64 x15.2] (fun h18 =>
  ldAggW [.int .i64, .int .i64] a16 (fun (x19 : Int × Int) =>
  callT Try.prog 25 [.pointer r3.1, .agg #[.int .i64 x19.1, .int .i64 x19.2]] [.sc (.int .i64), .sc .bool] (fun (r20 : Int × Bool) h21 =>
  cutT [.sc .slice] (fun (K22 : ((Option Addr × Nat × Nat)) → Heap → Prop) h32 =>
  ldW (.int .i64) (Addr.add a16 0) (fun (x23 : Int) =>
  br (x23 == (0 : Int))
  (br (!(r20.2 == (decide ((((s12.1.2.1 : Nat) : Int)) > (0 : Int)))))
  (K (.bool false) h32)
  (br r20.2
  (ptrW s12.1.1 (fun a24 =>
  idxW (0 : Int) s12.1.2.1 true (ldW (.int .i64) (Addr.add a24 (Int.toNat (0 : Int) * 1)) (fun (x25 : Int) =>
  br (r20.1 != x25)
  (K (.bool false) h32)
  (br r20.2
  (slW s12.1.1 s12.1.2.2 1 (1 : Int) (((s12.1.2.1 : Nat) : Int)) (((s12.1.2.2 : Nat) : Int)) (fun b26 n27 c28 =>
  K22 (b26, n27, c28) h32))
  (K22 (s12.1.1, s12.1.2.1, s12.1.2.2) h32))) h32)))
  (br r20.2
  (slW s12.1.1 s12.1.2.2 1 (1 : Int) (((s12.1.2.1 : Nat) : Int)) (((s12.1.2.2 : Nat) : Int)) (fun b29 n30 c31 =>
  K22 (b29, n30, c31) h32))
  (K22 (s12.1.1, s12.1.2.1, s12.1.2.2) h32))))
  (K22 (s12.1.1, s12.1.2.1, s12.1.2.2) h32)) h32) (fun (s33 : (Option Addr × Nat × Nat)) _ h34 =>
  cutT [.sc .slice] (fun (K35 : ((Option Addr × Nat × Nat)) → Heap → Prop) h48 =>
  cutT [.sc .bool] (fun (K36 : Bool → Heap → Prop) h38 =>
  ldW (.int .i64) (Addr.add a16 0) (fun (x37 : Int) =>
  br (x37 == (2 : Int))
  (K36 r20.2 h38)
  (K36 false h38)) h38) (fun (s39 : Bool) _ h40 =>
  br s39
  (ldW (.int .i64) (Addr.add a16 1) (fun (x41 : Int) =>
  newW (.cells #[.int .i64 x41] 3) (fun a42 h43 =>
  apW Try.prog #[36, 36] #[.slice s33.1 s33.2.1 s33.2.2, .slice (some a42) 1 1] (fun b44 n45 c46 h47 =>
  K35 (b44, n45, c46) h47) h43) h40) h40)
  (K35 (s33.1, s33.2.1, s33.2.2) h40)) h48) (fun (s49 : (Option Addr × Nat × Nat)) _ h50 =>
  callT Try.prog 24 [.pointer r3.1] [.sc .slice] (fun (r51 : (Option Addr × Nat × Nat)) h52 =>
  callT Try.prog 26 [.pointer r3.1] [.sc .slice] (fun (r53 : (Option Addr × Nat × Nat)) h54 =>
  callT Try.prog 20 [.slice r51.1 r51.2.1 r51.2.2, .slice s49.1 s49.2.1 s49.2.2] [.sc .bool] (fun (r55 : Bool) h56 =>
  br (!r55)
  (K (.bool false) h56)
  (mkW Try.prog 3 many_0 many_0 (fun b57 n58 _c59 h60 =>
  loopT [.sc (.int .i64)] (fun (s62 : Int) _ (K61 : Int → Heap → Prop) h63 =>
  br (decide (s62 < (((n58 : Nat) : Int))))
  (ptrW b57 (fun a64 =>
  idxW s62 n58 true (stW (Addr.add a64 (Int.toNat s62 * 1)) (.int .i64 1) (fun h65 =>
  K61 (IntKind.wrap .i64 (s62 + (1 : Int))) h65) h63)))
  (loopT [.sc (.int .i64)] (fun (s67 : Int) _ (K66 : Int → Heap → Prop) h68 =>
  br (decide (s67 < (((r51.2.1 : Nat) : Int))))
  (ptrW r51.1 (fun a69 =>
  idxW s67 r51.2.1 true (ldW (.int .i64) (Addr.add a69 (Int.toNat s67 * 1)) (fun (x70 : Int) =>
  ptrW b57 (fun a71 =>
  idxW x70 n58 true (stW (Addr.add a71 (Int.toNat x70 * 1)) (.int .i64 0) (fun h72 =>
  K66 (IntKind.wrap .i64 (s67 + (1 : Int))) h72) h68))) h68)))
  (loopT [.sc (.int .i64)] (fun (s74 : Int) _ (K73 : Int → Heap → Prop) h75 =>
  br (decide (s74 < (((r53.2.1 : Nat) : Int))))
  (ptrW r53.1 (fun a76 =>
  idxW s74 r53.2.1 true (ldW (.int .i64) (Addr.add a76 (Int.toNat s74 * 1)) (fun (x77 : Int) =>
  cutT [] (fun (K78 : Unit → Heap → Prop) h87 =>
  ptrW b57 (fun a79 =>
  idxW x77 n58 true (ldW (.int .i64) (Addr.add a79 (Int.toNat x77 * 1)) (fun (x80 : Int) =>
  br (x80 != (1 : Int))
  (K (.bool false) h87)
  (br (decide (s74 > (0 : Int)))
  (ptrW r53.1 (fun a81 =>
  idxW (IntKind.wrap .i64 (s74 - (1 : Int))) r53.2.1 true (ldW (.int .i64) (Addr.add a81 (Int.toNat (IntKind.wrap .i64 (s74 - (1 : Int))) * 1)) (fun (x82 : Int) =>
  callT Try.prog 27 [.pointer r3.1, .int .i64 x82] [.sc (.int .u32)] (fun (r83 : Int) h84 =>
  callT Try.prog 27 [.pointer r3.1, .int .i64 x77] [.sc (.int .u32)] (fun (r85 : Int) h86 =>
  br (decide (r83 ≤ r85))
  (K (.bool false) h86)
  (K78 () h86)) h84) h87) h87)))
  (K78 () h87))) h87))) (fun (_s88 : Unit) _ h89 =>
  ptrW b57 (fun a90 =>
  idxW x77 n58 true (stW (Addr.add a90 (Int.toNat x77 * 1)) (.int .i64 2) (fun h91 =>
  K73 (IntKind.wrap .i64 (s74 + (1 : Int))) h91) h89))) h75) h75)))
  (loopT [.sc (.int .i64)] (fun (s93 : Int) _ (K92 : Int → Heap → Prop) h94 =>
  br (decide (s93 < (((n58 : Nat) : Int))))
  (ptrW b57 (fun a95 =>
  idxW s93 n58 true (ldW (.int .i64) (Addr.add a95 (Int.toNat s93 * 1)) (fun (x96 : Int) =>
  callT Try.prog 28 [.pointer r3.1, .int .i64 s93] [.sc (.int .i64), .sc .bool] (fun (r97 : Int × Bool) h98 =>
  br (r97.1 != x96)
  (K (.bool false) h98)
  (br (!r97.2)
  (K (.bool false) h98)
  (br (x96 != (2 : Int))
  (callT Try.prog 27 [.pointer r3.1, .int .i64 s93] [.sc (.int .u32)] (fun (r99 : Int) h100 =>
  br (r99 != (0 : Int))
  (K (.bool false) h100)
  (K92 (IntKind.wrap .i64 (s93 + (1 : Int))) h100)) h98)
  (K92 (IntKind.wrap .i64 (s93 + (1 : Int))) h98)))) h94) h94)))
  (K11 ((s49.1, s49.2.1, s49.2.2), (IntKind.wrap .i64 (s12.2 + (1 : Int)))) h94)) (0 : Int) h75)) (0 : Int) h68)) (0 : Int) h63)) (0 : Int) h60) h56)) h54) h52) h50) h34) h21) h18) h18) h17) h13) h13)))
  (K (.bool true) h13)) ((r9.1, r9.2.1, r9.2.2), (0 : Int)) h10) h8) h4) h2)) h0)
set_option maxRecDepth 100000 in
theorem F4_eq (many_0 : Int) (l_1 : Option Addr) (l_1l l_1c : Nat) (K : Value → Heap → Prop) (h0 : Heap) : funWE Try.prog 4 (.seq (.leaf) (.seq (.seq (.leaf) (.cond (.seq (.leaf) (.leaf)) (.leaf))) (.seq (.leaf) (.cut [] (.seq (.leaf) (.cond (.seq (.leaf) (.leaf)) (.leaf))) (.seq (.leaf) (.seq (.seq (.leaf) (.block (.loop [(7, .sc .slice), (46, .sc (.int .i64))] (.seq (.leaf) (.seq (.cond (.leaf) (.leaf)) (.seq (.block (.seq (.leaf) (.seq (.leaf) (.cut [(7, .sc .slice)] (.seq (.leaf) (.cond (.seq (.seq (.leaf) (.cond (.seq (.leaf) (.leaf)) (.leaf))) (.seq (.leaf) (.cond (.leaf) (.leaf)))) (.leaf))) (.cut [(7, .sc .slice)] (.cut [(82, .sc .bool)] (.leaf) (.cond (.leaf) (.leaf))) (.seq (.leaf) (.seq (.seq (.leaf) (.cond (.seq (.leaf) (.leaf)) (.leaf))) (.seq (.leaf) (.seq (.seq (.leaf) (.block (.loop [(100, .sc (.int .i64))] (.seq (.leaf) (.seq (.cond (.leaf) (.leaf)) (.seq (.block (.seq (.leaf) (.leaf))) (.leaf))))))) (.seq (.seq (.leaf) (.block (.loop [(109, .sc (.int .i64))] (.seq (.leaf) (.seq (.cond (.leaf) (.leaf)) (.seq (.block (.seq (.leaf) (.leaf))) (.leaf))))))) (.seq (.seq (.leaf) (.block (.loop [(119, .sc (.int .i64))] (.seq (.leaf) (.seq (.cond (.leaf) (.leaf)) (.seq (.block (.seq (.leaf) (.cut [] (.seq (.leaf) (.cond (.seq (.leaf) (.leaf)) (.leaf))) (.leaf)))) (.leaf))))))) (.seq (.leaf) (.block (.loop [(152, .sc (.int .i64))] (.seq (.leaf) (.seq (.cond (.leaf) (.leaf)) (.seq (.block (.seq (.leaf) (.seq (.leaf) (.seq (.leaf) (.cond (.seq (.leaf) (.leaf)) (.leaf)))))) (.leaf)))))))))))))))))) (.leaf))))))) (.seq (.leaf) (.leaf)))))))) [.int .i64 many_0, .slice l_1 l_1l l_1c] K h0 = F4 many_0 l_1 l_1l l_1c K h0 := by kernel_rfl

-- function 5
set_option maxRecDepth 100000 in
def F5 (many_0 : Int) (turns_1 : Int) (K : Value → Heap → Prop) (h0 : Heap) : Prop := (
  callT Try.prog 22 [] [.sc .bool] (fun (r1 : Bool) h2 =>
  br (!r1)
  (K (.bool false) h2)
  (callT Try.prog 23 [.int .i64 many_0] [.sc .ptr, .sc .any] (fun (r3 : (Option Addr) × Value) h4 =>
  cutT [] (fun (K5 : Unit → Heap → Prop) h6 =>
  br (Option.isNone r3.1)
  (K (.bool true) h6)
  (br (decide (turns_1 < (0 : Int)))
  (K (.bool true) h6)
  (br (decide (turns_1 > (200 : Int)))
  (K (.bool true) h6)
  (K5 () h6)))) (fun (_s7 : Unit) _ h8 =>
  loopT [.sc (.int .i64)] (fun (s10 : Int) _ (K9 : Int → Heap → Prop) h11 =>
  br (decide (s10 < turns_1))
  (callT Try.prog 29 [.pointer r3.1] [.sc (.int .i64), .sc .bool] (fun (r12 : Int × Bool) h13 =>
  br (!r12.2)
  (K (.bool false) h13)
  (ckB (!decide (many_0 = 0)) (br (r12.1 != (Int.tmod s10 many_0))
  (K (.bool false) h13)
  (callT Try.prog 30 [.pointer r3.1, .int .i64 r12.1] [.sc .bool] (fun (r14 : Bool) h15 =>
  br (!r14)
  (K (.bool false) h15)
  (callT Try.prog 27 [.pointer r3.1, .int .i64 r12.1] [.sc (.int .u32)] (fun (r16 : Int) h17 =>
  br (r16 != (0 : Int))
  (K (.bool false) h17)
  (callT Try.prog 31 [.pointer r3.1, .int .i64 r12.1] [.sc .bool] (fun (r18 : Bool) h19 =>
  br (!r18)
  (K (.bool false) h19)
  (K9 (IntKind.wrap .i64 (s10 + (1 : Int))) h19)) h17)) h15)) h13)))) h11)
  (loopT [.sc (.int .i64)] (fun (s21 : Int) _ (K20 : Int → Heap → Prop) h22 =>
  br (decide (s21 < many_0))
  (callT Try.prog 29 [.pointer r3.1] [.sc (.int .i64), .sc .bool] (fun (r23 : Int × Bool) h24 =>
  cutT [] (fun (K25 : Unit → Heap → Prop) h28 =>
  br (!r23.2)
  (K (.bool false) h28)
  (ckB (!decide (many_0 = 0)) (br (r23.1 != (Int.tmod (IntKind.wrap .i64 (turns_1 + s21)) many_0))
  (K (.bool false) h28)
  (callT Try.prog 30 [.pointer r3.1, .int .i64 r23.1] [.sc .bool] (fun (r26 : Bool) h27 =>
  br (!r26)
  (K (.bool false) h27)
  (K25 () h27)) h28)))) (fun (_s29 : Unit) _ h30 =>
  loopT [.sc (.int .i64)] (fun (s32 : Int) _ (K31 : Int → Heap → Prop) h33 =>
  br (decide (s32 < (IntKind.wrap .i64 (s21 + (1 : Int)))))
  (ckB (!decide (many_0 = 0)) (callT Try.prog 27 [.pointer r3.1, .int .i64 (Int.tmod (IntKind.wrap .i64 (turns_1 + s32)) many_0)] [.sc (.int .u32)] (fun (r34 : Int) h35 =>
  br (r34 != (IntKind.wrap .u32 (IntKind.wrap .i64 (s21 - s32))))
  (K (.bool false) h35)
  (K31 (IntKind.wrap .i64 (s32 + (1 : Int))) h35)) h33))
  (K20 (IntKind.wrap .i64 (s21 + (1 : Int))) h33)) (0 : Int) h30) h24) h22)
  (callT Try.prog 29 [.pointer r3.1] [.sc (.int .i64), .sc .bool] (fun (r36 : Int × Bool) h37 =>
  br (!r36.2)
  (callT Try.prog 26 [.pointer r3.1] [.sc .slice] (fun (r38 : (Option Addr × Nat × Nat)) h39 =>
  K (.bool ((((r38.2.1 : Nat) : Int)) == many_0)) h39) h37)
  (K (.bool false) h37)) h22)) (0 : Int) h11)) (0 : Int) h8) h4) h2)) h0)
set_option maxRecDepth 100000 in
theorem F5_eq (many_0 : Int) (turns_1 : Int) (K : Value → Heap → Prop) (h0 : Heap) : funWE Try.prog 5 (.seq (.leaf) (.seq (.seq (.leaf) (.cond (.seq (.leaf) (.leaf)) (.leaf))) (.seq (.leaf) (.cut [] (.seq (.leaf) (.cond (.seq (.leaf) (.leaf)) (.leaf))) (.seq (.seq (.leaf) (.block (.loop [(34, .sc (.int .i64))] (.seq (.leaf) (.seq (.cond (.leaf) (.leaf)) (.seq (.block (.seq (.leaf) (.seq (.leaf) (.seq (.leaf) (.cond (.seq (.leaf) (.leaf)) (.leaf)))))) (.leaf))))))) (.seq (.seq (.leaf) (.block (.loop [(71, .sc (.int .i64))] (.seq (.leaf) (.seq (.cond (.leaf) (.leaf)) (.seq (.block (.seq (.leaf) (.seq (.leaf) (.cut [] (.seq (.leaf) (.cond (.seq (.leaf) (.leaf)) (.leaf))) (.seq (.leaf) (.block (.loop [(98, .sc (.int .i64))] (.seq (.leaf) (.seq (.cond (.leaf) (.leaf)) (.seq (.block (.seq (.leaf) (.seq (.leaf) (.cond (.seq (.leaf) (.leaf)) (.leaf))))) (.leaf))))))))))) (.leaf))))))) (.seq (.leaf) (.seq (.leaf) (.leaf))))))))) [.int .i64 many_0, .int .i64 turns_1] K h0 = F5 many_0 turns_1 K h0 := by kernel_rfl

end Go.Proofs.Yticppjmldlhbiaa.W
