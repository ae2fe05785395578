/-
  The formulas of package valid and its law. Each formula checked by the kernel. Printed by a program of this repo.
-/
import Derived.Test.YticppjmldlhbiaaProg
import Derived.Test.YticppjmldlhbiaaPl
namespace Go.Proofs.Yticppjmldlhbiaa.W
open Go.Pl

-- function 3
set_option maxRecDepth 100000 in
def F3 (g_0_0 : Int) (g_0_1 : Int) (g_0_2 : Int) (l_1 : Option Addr) (l_1l _l_1c : Nat) (K : Value → Heap → Prop) (h0 : Heap) : Prop := (
  newW (.cells #[.int .i64 g_0_0, .int .i64 g_0_1, .int .i64 g_0_2] 23) (fun a1 h2 =>
  callT Try.prog 10 [] [.sc .bool] (fun (r3 : Bool) h4 =>
  br (!r3)
  (K (.bool false) h4)
  (ldAggW [.int .i64, .int .i64, .int .i64] a1 (fun (x5 : Int × Int × Int) =>
  callT Try.prog 11 [.agg #[.int .i64 x5.1, .int .i64 x5.2.1, .int .i64 x5.2.2]] [.sc .ptr, .sc .any] (fun (r6 : (Option Addr) × Value) h7 =>
  cutT [] (fun (K8 : Unit → Heap → Prop) h9 =>
  br (Option.isNone r6.1)
  (K (.bool true) h9)
  (br (decide ((((l_1l : Nat) : Int)) > (300 : Int)))
  (K (.bool true) h9)
  (K8 () h9))) (fun (_s10 : Unit) _ h11 =>
  loopT [.sc (.int .i64)] (fun (s13 : Int) _ (K12 : Int → Heap → Prop) h14 =>
  br (decide (s13 < (((l_1l : Nat) : Int))))
  (ptrW l_1 (fun a15 =>
  idxW s13 l_1l true (ldAggW [.int .i64, .int .u32] (Addr.add a15 (Int.toNat s13 * 2)) (fun (x16 : Int × Int) =>
  newW (.cells (zeroC Try.prog 33) 33) (fun a17 h18 =>
  stLW a17 [.int .i64 x16.1, .int .u32 x16.2] (fun h19 =>
  callT Try.prog 12 [.pointer r6.1] [.sc (.int .i64)] (fun (r20 : Int) h21 =>
  cutT [.sc (.int .i64)] (fun (K22 : Int → Heap → Prop) h23 =>
  cutT [.sc .bool] (fun (K24 : Bool → Heap → Prop) h29 =>
  ldW (.int .i64) (Addr.add a17 0) (fun (x25 : Int) =>
  br (x25 == (0 : Int))
  (ldW (.int .u32) (Addr.add a17 1) (fun (x26 : Int) =>
  callT Try.prog 13 [.pointer r6.1, .int .u32 x26] [.sc .bool] (fun (r27 : Bool) h28 =>
  K24 r27 h28) h29) h29)
  (K24 false h29)) h29) (fun (s30 : Bool) _ h31 =>
  br s30
  (K22 (IntKind.wrap .i64 (r20 + (1 : Int))) h31)
  (ldW (.int .i64) (Addr.add a17 0) (fun (x32 : Int) =>
  br (x32 == (1 : Int))
  (ldW (.int .u32) (Addr.add a17 1) (fun (x33 : Int) =>
  callT Try.prog 14 [.pointer r6.1, .int .u32 x33] [.sc .bool] (fun (r34 : Bool) h35 =>
  br r34
  (K22 (IntKind.wrap .i64 (r20 - (1 : Int))) h35)
  (K22 r20 h35)) h31) h31)
  (K22 r20 h31)) h31)) h23) (fun (s36 : Int) _ h37 =>
  callT Try.prog 12 [.pointer r6.1] [.sc (.int .i64)] (fun (r38 : Int) h39 =>
  br (r38 != s36)
  (K (.bool false) h39)
  (ldW (.int .i64) (Addr.add a17 0) (fun (x40 : Int) =>
  br (x40 == (1 : Int))
  (ldW (.int .u32) (Addr.add a17 1) (fun (x41 : Int) =>
  callT Try.prog 15 [.pointer r6.1, .int .u32 x41] [.sc .bool] (fun (r42 : Bool) h43 =>
  br r42
  (K (.bool false) h43)
  (K12 (IntKind.wrap .i64 (s13 + (1 : Int))) h43)) h39) h39)
  (K12 (IntKind.wrap .i64 (s13 + (1 : Int))) h39)) h39)) h37) h21) h19) h18) h14) h14)))
  (newW (.cells #[] 3) (fun a44 h45 =>
  ldAggW [.int .i64, .int .i64, .int .i64] a1 (fun (x46 : Int × Int × Int) =>
  callT Try.prog 16 [.agg #[.int .i64 x46.1, .int .i64 x46.2.1, .int .i64 x46.2.2]] [.sc (.int .i64)] (fun (r47 : Int) h48 =>
  loopT [.sc (.int .i64), .sc .slice, .sc (.int .i64)] (fun (s50 : Int × (Option Addr × Nat × Nat) × Int) _ (K49 : (Int × (Option Addr × Nat × Nat) × Int) → Heap → Prop) h51 =>
  br (decide (s50.2.2 < r47))
  (callT Try.prog 17 [.pointer r6.1, .int .i64 s50.2.2] [.sc .slice] (fun (r52 : (Option Addr × Nat × Nat)) h53 =>
  callT Try.prog 18 [.pointer r6.1, .int .i64 s50.2.2] [.sc (.int .i64)] (fun (r54 : Int) h55 =>
  br ((((r52.2.1 : Nat) : Int)) != r54)
  (K (.bool false) h55)
  (loopT [.sc (.int .i64)] (fun (s57 : Int) _ (K56 : Int → Heap → Prop) h58 =>
  br (decide (s57 < (((r52.2.1 : Nat) : Int))))
  (ptrW r52.1 (fun a59 =>
  idxW s57 r52.2.1 true (ldW (.int .u32) (Addr.add a59 (Int.toNat s57 * 1)) (fun (x60 : Int) =>
  ldAggW [.int .i64, .int .i64, .int .i64] a1 (fun (x61 : Int × Int × Int) =>
  callT Try.prog 19 [.agg #[.int .i64 x61.1, .int .i64 x61.2.1, .int .i64 x61.2.2], .int .u32 x60] [.sc (.int .i64), .sc (.int .i64), .sc .bool] (fun (r62 : Int × Int × Bool) h63 =>
  br (!r62.2.2)
  (K (.bool false) h63)
  (br (r62.1 != s50.2.2)
  (K (.bool false) h63)
  (callT Try.prog 15 [.pointer r6.1, .int .u32 x60] [.sc .bool] (fun (r64 : Bool) h65 =>
  br (!r64)
  (K (.bool false) h65)
  (br (decide (s57 > (0 : Int)))
  (ptrW r52.1 (fun a66 =>
  idxW (IntKind.wrap .i64 (s57 - (1 : Int))) r52.2.1 true (ldW (.int .u32) (Addr.add a66 (Int.toNat (IntKind.wrap .i64 (s57 - (1 : Int))) * 1)) (fun (x67 : Int) =>
  br (decide (x67 ≥ x60))
  (K (.bool false) h65)
  (K56 (IntKind.wrap .i64 (s57 + (1 : Int))) h65)) h65)))
  (K56 (IntKind.wrap .i64 (s57 + (1 : Int))) h65))) h63))) h58) h58) h58)))
  (cutT [.sc .slice] (fun (K68 : ((Option Addr × Nat × Nat)) → Heap → Prop) h75 =>
  br ((((r52.2.1 : Nat) : Int)) == (0 : Int))
  (newW (.cells #[.int .i64 s50.2.2] 3) (fun a69 h70 =>
  apW Try.prog #[36, 36] #[.slice s50.2.1.1 s50.2.1.2.1 s50.2.1.2.2, .slice (some a69) 1 1] (fun b71 n72 c73 h74 =>
  K68 (b71, n72, c73) h74) h70) h75)
  (K68 (s50.2.1.1, s50.2.1.2.1, s50.2.1.2.2) h75)) (fun (s76 : (Option Addr × Nat × Nat)) _ h77 =>
  K49 ((IntKind.wrap .i64 (s50.1 + (((r52.2.1 : Nat) : Int)))), (s76.1, s76.2.1, s76.2.2), (IntKind.wrap .i64 (s50.2.2 + (1 : Int)))) h77) h58)) (0 : Int) h55)) h53) h51)
  (callT Try.prog 12 [.pointer r6.1] [.sc (.int .i64)] (fun (r78 : Int) h79 =>
  br (s50.1 == r78)
  (callT Try.prog 21 [.pointer r6.1] [.sc .slice] (fun (r80 : (Option Addr × Nat × Nat)) h81 =>
  callT Try.prog 20 [.slice r80.1 r80.2.1 r80.2.2, .slice s50.2.1.1 s50.2.1.2.1 s50.2.1.2.2] [.sc .bool] (fun (r82 : Bool) h83 =>
  K (.bool r82) h83) h81) h79)
  (K (.bool false) h79)) h51)) ((0 : Int), ((some a44), 0, 0), (0 : Int)) h48) h45) h45) h14)) (0 : Int) h11) h7) h4) h4)) h2) h0)
set_option maxRecDepth 100000 in
theorem F3_eq (g_0_0 : Int) (g_0_1 : Int) (g_0_2 : Int) (l_1 : Option Addr) (l_1l l_1c : Nat) (K : Value → Heap → Prop) (h0 : Heap) : funWE Try.prog 3 (.seq (.leaf) (.seq (.seq (.leaf) (.cond (.seq (.leaf) (.leaf)) (.leaf))) (.seq (.leaf) (.cut [] (.seq (.leaf) (.cond (.seq (.leaf) (.leaf)) (.leaf))) (.seq (.seq (.leaf) (.block (.loop [(35, .sc (.int .i64))] (.seq (.leaf) (.seq (.cond (.leaf) (.leaf)) (.seq (.block (.seq (.leaf) (.seq (.leaf) (.seq (.bcut [(9, .sc (.int .i64))] (.cut [(41, .sc .bool)] (.leaf) (.cond (.leaf) (.seq (.leaf) (.cond (.leaf) (.leaf)))))) (.seq (.leaf) (.cond (.seq (.leaf) (.leaf)) (.leaf))))))) (.leaf))))))) (.seq (.leaf) (.seq (.seq (.leaf) (.block (.loop [(10, .sc (.int .i64)), (11, .sc .slice), (84, .sc (.int .i64))] (.seq (.leaf) (.seq (.cond (.leaf) (.leaf)) (.seq (.block (.seq (.leaf) (.seq (.leaf) (.seq (.seq (.leaf) (.cond (.seq (.leaf) (.leaf)) (.leaf))) (.seq (.seq (.leaf) (.block (.loop [(98, .sc (.int .i64))] (.seq (.leaf) (.seq (.cond (.leaf) (.leaf)) (.seq (.block (.seq (.leaf) (.seq (.leaf) (.seq (.leaf) (.cond (.seq (.leaf) (.leaf)) (.leaf)))))) (.leaf))))))) (.cut [(11, .sc .slice)] (.seq (.leaf) (.cond (.leaf) (.leaf))) (.leaf))))))) (.leaf))))))) (.seq (.leaf) (.leaf))))))))) [.agg #[.int .i64 g_0_0, .int .i64 g_0_1, .int .i64 g_0_2], .slice l_1 l_1l l_1c] K h0 = F3 g_0_0 g_0_1 g_0_2 l_1 l_1l l_1c K h0 := by kernel_rfl

-- function 10
set_option maxRecDepth 100000 in
def F10  (K : Value → Heap → Prop) (h0 : Heap) : Prop := (
  callT Try.prog 11 [.agg #[.int .i64 11, .int .i64 4, .int .i64 6]] [.sc .ptr, .sc .any] (fun (r1 : (Option Addr) × Value) h2 =>
  cutT [] (fun (K3 : Unit → Heap → Prop) h4 =>
  br (Option.isNone r1.1)
  (K (.bool false) h4)
  (ifW r1.2 (br (!(isNilV r1.2))
  (K (.bool false) h4)
  (K3 () h4)))) (fun (_s5 : Unit) _ h6 =>
  cutT [.sc .bool] (fun (K7 : Bool → Heap → Prop) h18 =>
  callT Try.prog 13 [.pointer r1.1, .int .u32 5] [.sc .bool] (fun (r8 : Bool) h9 =>
  br r8
  (callT Try.prog 13 [.pointer r1.1, .int .u32 8] [.sc .bool] (fun (r10 : Bool) h11 =>
  br r10
  (callT Try.prog 13 [.pointer r1.1, .int .u32 8] [.sc .bool] (fun (r12 : Bool) h13 =>
  br (!r12)
  (callT Try.prog 13 [.pointer r1.1, .int .u32 0] [.sc .bool] (fun (r14 : Bool) h15 =>
  br (!r14)
  (callT Try.prog 13 [.pointer r1.1, .int .u32 37] [.sc .bool] (fun (r16 : Bool) h17 =>
  K7 (!r16) h17) h15)
  (K7 false h15)) h13)
  (K7 false h13)) h11)
  (K7 false h11)) h9)
  (K7 false h9)) h18) (fun (s19 : Bool) _ h20 =>
  br s19
  (callT Try.prog 18 [.pointer r1.1, .int .i64 1] [.sc (.int .i64)] (fun (r21 : Int) h22 =>
  br (r21 == (2 : Int))
  (callT Try.prog 12 [.pointer r1.1] [.sc (.int .i64)] (fun (r23 : Int) h24 =>
  br (r23 == (2 : Int))
  (callT Try.prog 15 [.pointer r1.1, .int .u32 5] [.sc .bool] (fun (r25 : Bool) h26 =>
  br r25
  (callT Try.prog 15 [.pointer r1.1, .int .u32 6] [.sc .bool] (fun (r27 : Bool) h28 =>
  br (!r27)
  (callT Try.prog 17 [.pointer r1.1, .int .i64 1] [.sc .slice] (fun (r29 : (Option Addr × Nat × Nat)) h30 =>
  newW (.cells #[.int .u32 5, .int .u32 8] 31) (fun a31 h32 =>
  callT Try.prog 42 [.slice r29.1 r29.2.1 r29.2.2, .slice (some a31) 2 2] [.sc .bool] (fun (r33 : Bool) h34 =>
  br r33
  (callT Try.prog 21 [.pointer r1.1] [.sc .slice] (fun (r35 : (Option Addr × Nat × Nat)) h36 =>
  newW (.cells #[.int .i64 0, .int .i64 2, .int .i64 3, .int .i64 4, .int .i64 5, .int .i64 6, .int .i64 7, .int .i64 8] 3) (fun a37 h38 =>
  callT Try.prog 20 [.slice r35.1 r35.2.1 r35.2.2, .slice (some a37) 8 8] [.sc .bool] (fun (r39 : Bool) h40 =>
  br r39
  (callT Try.prog 14 [.pointer r1.1, .int .u32 5] [.sc .bool] (fun (r41 : Bool) h42 =>
  br r41
  (callT Try.prog 14 [.pointer r1.1, .int .u32 5] [.sc .bool] (fun (r43 : Bool) h44 =>
  K (.bool (!r43)) h44) h42)
  (K (.bool false) h42)) h40)
  (K (.bool false) h40)) h38) h36) h34)
  (K (.bool false) h34)) h32) h30) h28)
  (K (.bool false) h28)) h26)
  (K (.bool false) h26)) h24)
  (K (.bool false) h24)) h22)
  (K (.bool false) h22)) h20)
  (K (.bool false) h20)) h6) h2) h0)
set_option maxRecDepth 100000 in
theorem F10_eq  (K : Value → Heap → Prop) (h0 : Heap) : funWE Try.prog 10 (.seq (.leaf) (.seq (.leaf) (.cut [] (.seq (.leaf) (.cond (.seq (.leaf) (.leaf)) (.leaf))) (.cut [(3, .sc .bool)] (.leaf) (.seq (.leaf) (.leaf)))))) [] K h0 = F10  K h0 := by kernel_rfl

-- function 11
set_option maxRecDepth 100000 in
def F11 (g_0_0 : Int) (g_0_1 : Int) (g_0_2 : Int) (K : Value → Heap → Prop) (h0 : Heap) : Prop := (
  newW (.cells #[.int .i64 g_0_0, .int .i64 g_0_1, .int .i64 g_0_2] 23) (fun a1 h2 =>
  ldAggW [.int .i64, .int .i64, .int .i64] a1 (fun (x3 : Int × Int × Int) =>
  callT Try.prog 43 [.agg #[.int .i64 x3.1, .int .i64 x3.2.1, .int .i64 x3.2.2]] [.sc .bool] (fun (r4 : Bool) h5 =>
  br (!r4)
  (K (.tuple #[.pointer none, .iface 77 (.int .i64 1)]) h5)
  (ldAggW [.int .i64, .int .i64, .int .i64] a1 (fun (x6 : Int × Int × Int) =>
  ldAggW [.int .i64, .int .i64, .int .i64] a1 (fun (x7 : Int × Int × Int) =>
  callT Try.prog 16 [.agg #[.int .i64 x7.1, .int .i64 x7.2.1, .int .i64 x7.2.2]] [.sc (.int .i64)] (fun (r8 : Int) h9 =>
  (mkW Try.prog 31 r8 r8 (fun b10 n11 c12 h13 =>
  newW (.cells #[.int .i64 x6.1, .int .i64 x6.2.1, .int .i64 x6.2.2, .slice b10 n11 c12] 79) (fun a14 h15 =>
  K (.tuple #[.pointer (some a14), .nilIface]) h15) h13) h9 ∧ Ext h5 h9)) h5) h5) h5)) h2) h2) h0)
set_option maxRecDepth 100000 in
theorem F11_eq (g_0_0 : Int) (g_0_1 : Int) (g_0_2 : Int) (K : Value → Heap → Prop) (h0 : Heap) : funWE Try.prog 11 (.seq (.leaf) (.seq (.seq (.leaf) (.cond (.seq (.leaf) (.leaf)) (.leaf))) (.seq (.draw [0, 1, 2, 3, 4, 5, 6, 7] [100002]) (.leaf)))) [.agg #[.int .i64 g_0_0, .int .i64 g_0_1, .int .i64 g_0_2]] K h0 = F11 g_0_0 g_0_1 g_0_2 K h0 := by kernel_rfl

-- function 12
set_option maxRecDepth 100000 in
def F12 (s_0 : Addr) (K : Value → Heap → Prop) (h0 : Heap) : Prop := (
  ldW .slice (Addr.add s_0 3) (fun (x1 : Option Addr × Nat × Nat) =>
  loopT [.sc (.int .i64), .sc (.int .i64)] (fun (s3 : Int × Int) _ (K2 : (Int × Int) → Heap → Prop) h4 =>
  br (decide (s3.2 < (((x1.2.1 : Nat) : Int))))
  (callW Try.prog (.sc (.int .i64)) (.func (.func 18) #[.pointer (some s_0)] #[]) [.int .i64 s3.2] (fun (x5 : Int) h6 =>
  K2 ((IntKind.wrap .i64 (s3.1 + x5)), (IntKind.wrap .i64 (s3.2 + (1 : Int)))) h6) h4)
  (K (.int .i64 s3.1) h4)) ((0 : Int), (0 : Int)) h0) h0)
set_option maxRecDepth 100000 in
theorem F12_eq (s_0 : Addr) (K : Value → Heap → Prop) (h0 : Heap) : funWE Try.prog 12 (.seq (.leaf) (.seq (.leaf) (.seq (.seq (.leaf) (.block (.loop [(3, .sc (.int .i64)), (13, .sc (.int .i64))] (.seq (.leaf) (.seq (.cond (.leaf) (.leaf)) (.seq (.block (.seq (.leaf) (.leaf))) (.leaf))))))) (.seq (.leaf) (.leaf))))) [.pointer (some s_0)] K h0 = F12 s_0 K h0 := by kernel_rfl

-- function 13
set_option maxRecDepth 100000 in
def F13 (s_0 : Addr) (a_1 : Int) (K : Value → Heap → Prop) (h0 : Heap) : Prop := (
  callT Try.prog 44 [.pointer (some s_0), .int .u32 a_1] [.sc .ptr, .sc (.int .u32)] (fun (r1 : (Option Addr) × Int) h2 =>
  cutT [.sc .bool] (fun (K3 : Bool → Heap → Prop) h6 =>
  br (r1.2 != (0 : Int))
  (ptrW r1.1 (fun a4 =>
  ldW (.int .u32) a4 (fun (x5 : Int) =>
  K3 ((IntKind.wrap .u32 (((BitVec.ofInt 32 x5 &&& BitVec.ofInt 32 r1.2).toNat : Int))) == (0 : Int)) h6) h6))
  (K3 false h6)) (fun (s7 : Bool) _ h8 =>
  ptrW r1.1 (fun a9 =>
  ldW (.int .u32) a9 (fun (x10 : Int) =>
  ptrW r1.1 (fun a11 =>
  stW a11 (.int .u32 (IntKind.wrap .u32 (((BitVec.ofInt 32 x10 ||| BitVec.ofInt 32 r1.2).toNat : Int)))) (fun h12 =>
  K (.bool s7) h12) h8)) h8)) h2) h0)
set_option maxRecDepth 100000 in
theorem F13_eq (s_0 : Addr) (a_1 : Int) (K : Value → Heap → Prop) (h0 : Heap) : funWE Try.prog 13 (.seq (.leaf) (.seq (.leaf) (.cut [(7, .sc .bool)] (.leaf) (.seq (.leaf) (.seq (.leaf) (.leaf)))))) [.pointer (some s_0), .int .u32 a_1] K h0 = F13 s_0 a_1 K h0 := by kernel_rfl

-- function 14
set_option maxRecDepth 100000 in
def F14 (s_0 : Addr) (a_1 : Int) (K : Value → Heap → Prop) (h0 : Heap) : Prop := (
  callT Try.prog 44 [.pointer (some s_0), .int .u32 a_1] [.sc .ptr, .sc (.int .u32)] (fun (r1 : (Option Addr) × Int) h2 =>
  ptrW r1.1 (fun a3 =>
  ldW (.int .u32) a3 (fun (x4 : Int) =>
  ptrW r1.1 (fun a5 =>
  ldW (.int .u32) a5 (fun (x6 : Int) =>
  ptrW r1.1 (fun a7 =>
  stW a7 (.int .u32 (IntKind.wrap .u32 (((BitVec.ofInt 32 x6 &&& ~~~(BitVec.ofInt 32 r1.2)).toNat : Int)))) (fun h8 =>
  K (.bool ((IntKind.wrap .u32 (((BitVec.ofInt 32 x4 &&& BitVec.ofInt 32 r1.2).toNat : Int))) != (0 : Int))) h8) h2)) h2)) h2)) h0)
set_option maxRecDepth 100000 in
theorem F14_eq (s_0 : Addr) (a_1 : Int) (K : Value → Heap → Prop) (h0 : Heap) : funWE Try.prog 14 (.seq (.leaf) (.seq (.leaf) (.seq (.leaf) (.seq (.leaf) (.seq (.leaf) (.leaf)))))) [.pointer (some s_0), .int .u32 a_1] K h0 = F14 s_0 a_1 K h0 := by kernel_rfl

-- function 15
set_option maxRecDepth 100000 in
def F15 (s_0 : Addr) (a_1 : Int) (K : Value → Heap → Prop) (h0 : Heap) : Prop := (
  callT Try.prog 44 [.pointer (some s_0), .int .u32 a_1] [.sc .ptr, .sc (.int .u32)] (fun (r1 : (Option Addr) × Int) h2 =>
  ptrW r1.1 (fun a3 =>
  ldW (.int .u32) a3 (fun (x4 : Int) =>
  K (.bool ((IntKind.wrap .u32 (((BitVec.ofInt 32 x4 &&& BitVec.ofInt 32 r1.2).toNat : Int))) != (0 : Int))) h2) h2)) h0)
set_option maxRecDepth 100000 in
theorem F15_eq (s_0 : Addr) (a_1 : Int) (K : Value → Heap → Prop) (h0 : Heap) : funWE Try.prog 15 (.seq (.leaf) (.seq (.leaf) (.seq (.leaf) (.leaf)))) [.pointer (some s_0), .int .u32 a_1] K h0 = F15 s_0 a_1 K h0 := by kernel_rfl

-- function 17
set_option maxRecDepth 100000 in
def F17 (s_0 : Addr) (zone_1 : Int) (K : Value → Heap → Prop) (h0 : Heap) : Prop := (
  ldW (.int .i64) (Addr.add (Addr.add s_0 0) 1) (fun (x1 : Int) =>
  loopT [.sc .slice, .sc (.int .i64)] (fun (s3 : (Option Addr × Nat × Nat) × Int) _ (K2 : ((Option Addr × Nat × Nat) × Int) → Heap → Prop) h4 =>
  br (decide (s3.2 < x1))
  (ldAggW [.int .i64, .int .i64, .int .i64] (Addr.add s_0 0) (fun (x5 : Int × Int × Int) =>
  callT Try.prog 45 [.agg #[.int .i64 x5.1, .int .i64 x5.2.1, .int .i64 x5.2.2], .int .i64 zone_1, .int .i64 s3.2] [.sc (.int .u32)] (fun (r6 : Int) h7 =>
  callT Try.prog 15 [.pointer (some s_0), .int .u32 r6] [.sc .bool] (fun (r8 : Bool) h9 =>
  br r8
  (newW (.cells #[.int .u32 r6] 31) (fun a10 h11 =>
  apW Try.prog #[38, 38] #[.slice s3.1.1 s3.1.2.1 s3.1.2.2, .slice (some a10) 1 1] (fun b12 n13 c14 h15 =>
  K2 ((b12, n13, c14), (IntKind.wrap .i64 (s3.2 + (1 : Int)))) h15) h11) h9)
  (K2 ((s3.1.1, s3.1.2.1, s3.1.2.2), (IntKind.wrap .i64 (s3.2 + (1 : Int)))) h9)) h7) h4) h4)
  (K (.slice s3.1.1 s3.1.2.1 s3.1.2.2) h4)) ((none, 0, 0), (0 : Int)) h0) h0)
set_option maxRecDepth 100000 in
theorem F17_eq (s_0 : Addr) (zone_1 : Int) (K : Value → Heap → Prop) (h0 : Heap) : funWE Try.prog 17 (.seq (.leaf) (.seq (.leaf) (.seq (.seq (.leaf) (.block (.loop [(5, .sc .slice), (13, .sc (.int .i64))] (.seq (.leaf) (.seq (.cond (.leaf) (.leaf)) (.seq (.block (.seq (.leaf) (.seq (.leaf) (.seq (.leaf) (.cond (.leaf) (.leaf)))))) (.leaf))))))) (.seq (.leaf) (.leaf))))) [.pointer (some s_0), .int .i64 zone_1] K h0 = F17 s_0 zone_1 K h0 := by kernel_rfl

-- function 18
set_option maxRecDepth 100000 in
def F18 (s_0 : Addr) (zone_1 : Int) (K : Value → Heap → Prop) (h0 : Heap) : Prop := (
  cutT [] (fun (K1 : Unit → Heap → Prop) h3 =>
  br (decide (zone_1 < (0 : Int)))
  (K (.int .i64 0) h3)
  (ldW .slice (Addr.add s_0 3) (fun (x2 : Option Addr × Nat × Nat) =>
  br (decide (zone_1 ≥ (((x2.2.1 : Nat) : Int))))
  (K (.int .i64 0) h3)
  (K1 () h3)) h3)) (fun (_s4 : Unit) _ h5 =>
  ldW .slice (Addr.add s_0 3) (fun (x6 : Option Addr × Nat × Nat) =>
  ptrW x6.1 (fun a7 =>
  idxW zone_1 x6.2.1 true (ldW (.int .u32) (Addr.add a7 (Int.toNat zone_1 * 1)) (fun (x8 : Int) =>
  callT Try.prog 46 [.int .u32 x8] [.sc (.int .i64)] (fun (r9 : Int) h10 =>
  K (.int .i64 r9) h10) h5) h5))) h5) h0)
set_option maxRecDepth 100000 in
theorem F18_eq (s_0 : Addr) (zone_1 : Int) (K : Value → Heap → Prop) (h0 : Heap) : funWE Try.prog 18 (.seq (.leaf) (.cut [] (.seq (.leaf) (.cond (.seq (.leaf) (.leaf)) (.leaf))) (.seq (.leaf) (.leaf)))) [.pointer (some s_0), .int .i64 zone_1] K h0 = F18 s_0 zone_1 K h0 := by kernel_rfl

-- function 21
set_option maxRecDepth 100000 in
def F21 (s_0 : Addr) (K : Value → Heap → Prop) (h0 : Heap) : Prop := (
  ldW .slice (Addr.add s_0 3) (fun (x1 : Option Addr × Nat × Nat) =>
  loopT [.sc .slice, .sc (.int .i64)] (fun (s3 : (Option Addr × Nat × Nat) × Int) _ (K2 : ((Option Addr × Nat × Nat) × Int) → Heap → Prop) h4 =>
  br (decide (s3.2 < (((x1.2.1 : Nat) : Int))))
  (ptrW x1.1 (fun a5 =>
  idxW s3.2 x1.2.1 true (ldW (.int .u32) (Addr.add a5 (Int.toNat s3.2 * 1)) (fun (x6 : Int) =>
  br (x6 == (0 : Int))
  (newW (.cells #[.int .i64 s3.2] 3) (fun a7 h8 =>
  apW Try.prog #[36, 36] #[.slice s3.1.1 s3.1.2.1 s3.1.2.2, .slice (some a7) 1 1] (fun b9 n10 c11 h12 =>
  K2 ((b9, n10, c11), (IntKind.wrap .i64 (s3.2 + (1 : Int)))) h12) h8) h4)
  (K2 ((s3.1.1, s3.1.2.1, s3.1.2.2), (IntKind.wrap .i64 (s3.2 + (1 : Int)))) h4)) h4)))
  (K (.slice s3.1.1 s3.1.2.1 s3.1.2.2) h4)) ((none, 0, 0), (0 : Int)) h0) h0)
set_option maxRecDepth 100000 in
theorem F21_eq (s_0 : Addr) (K : Value → Heap → Prop) (h0 : Heap) : funWE Try.prog 21 (.seq (.leaf) (.seq (.leaf) (.seq (.seq (.leaf) (.block (.loop [(3, .sc .slice), (11, .sc (.int .i64))] (.seq (.leaf) (.seq (.cond (.leaf) (.leaf)) (.seq (.block (.seq (.leaf) (.seq (.leaf) (.cond (.leaf) (.leaf))))) (.leaf))))))) (.seq (.leaf) (.leaf))))) [.pointer (some s_0)] K h0 = F21 s_0 K h0 := by kernel_rfl

-- function 44
set_option maxRecDepth 100000 in
def F44 (s_0 : Addr) (a_1 : Int) (K : Value → Heap → Prop) (h0 : Heap) : Prop := (
  ldAggW [.int .i64, .int .i64, .int .i64] (Addr.add s_0 0) (fun (x1 : Int × Int × Int) =>
  callT Try.prog 19 [.agg #[.int .i64 x1.1, .int .i64 x1.2.1, .int .i64 x1.2.2], .int .u32 a_1] [.sc (.int .i64), .sc (.int .i64), .sc .bool] (fun (r2 : Int × Int × Bool) h3 =>
  br (!r2.2.2)
  (newW (.cells (zeroC Try.prog 31) 31) (fun a4 h5 =>
  K (.tuple #[.pointer (some a4), .int .u32 0]) h5) h3)
  (ldW .slice (Addr.add s_0 3) (fun (x6 : Option Addr × Nat × Nat) =>
  ptrW x6.1 (fun a7 =>
  idxW r2.1 x6.2.1 true (ckB (decide (0 ≤ r2.2.1)) (K (.tuple #[.pointer (some (Addr.add a7 (Int.toNat r2.1 * 1))), .int .u32 (IntKind.wrap .u32 ((1 : Int) * 2 ^ (min (r2.2.1).toNat 32)))]) h3)))) h3)) h0) h0)
set_option maxRecDepth 100000 in
theorem F44_eq (s_0 : Addr) (a_1 : Int) (K : Value → Heap → Prop) (h0 : Heap) : funWE Try.prog 44 (.seq (.leaf) (.seq (.leaf) (.seq (.seq (.leaf) (.cond (.seq (.leaf) (.leaf)) (.leaf))) (.seq (.draw [0, 1, 2, 3, 4, 5, 6, 7, 8, 9] []) (.leaf))))) [.pointer (some s_0), .int .u32 a_1] K h0 = F44 s_0 a_1 K h0 := by kernel_rfl

end Go.Proofs.Yticppjmldlhbiaa.W
