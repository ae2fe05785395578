/-
  The formulas of the sort of numbers. Each formula checked by the kernel. Printed by a program of this repo.
-/
import Derived.Test.YtfanjfbenhocnaaGreatDoorProg
import Derived.Test.YtfanjfbenhocnaaGreatDoorPl
namespace Go.Proofs.YtfanjfbenhocnaaGreatDoor.W
open Go.Pl

-- function 71
set_option maxRecDepth 100000 in
def F71 (x_0 : Option Addr) (x_0l x_0c : Nat) (K : Value → Heap → Prop) (h0 : Heap) : Prop := (
  callT Tryz.prog 73 [.int .u64 (IntKind.wrap .u64 (((x_0l : Nat) : Int)))] [.sc (.int .i64)] (fun (r1 : Int) h2 =>
  callT Tryz.prog 72 [.slice x_0 x_0l x_0c, .int .i64 0, .int .i64 (((x_0l : Nat) : Int)), .int .i64 r1] [] (fun (_r3 : Unit) h4 =>
  K (.tuple #[]) h4) h2) h0)
set_option maxRecDepth 100000 in
theorem F71_eq (x_0 : Option Addr) (x_0l x_0c : Nat) (K : Value → Heap → Prop) (h0 : Heap) : funWE Tryz.prog 71 (.seq (.leaf) (.leaf)) [.slice x_0 x_0l x_0c] K h0 = F71 x_0 x_0l x_0c K h0 := by kernel_rfl

-- function 72
set_option maxRecDepth 100000 in
def F72 (data_0 : Option Addr) (data_0l data_0c : Nat) (a_1 : Int) (b_2 : Int) (limit_3 : Int) (K : Value → Heap → Prop) (h0 : Heap) : Prop := (
  loopT [.sc (.int .i64), .sc (.int .i64), .sc (.int .i64), .sc .bool, .sc .bool] (fun (s2 : Int × Int × Int × Bool × Bool) _ (K1 : (Int × Int × Int × Bool × Bool) → Heap → Prop) h3 =>
  br (decide ((IntKind.wrap .i64 (s2.2.1 - s2.1)) ≤ (12 : Int)))
  (callT Tryz.prog 74 [.slice data_0 data_0l data_0c, .int .i64 s2.1, .int .i64 s2.2.1] [] (fun (_r4 : Unit) h5 =>
  K (.tuple #[]) h5) h3)
  (br (s2.2.2.1 == (0 : Int))
  (callT Tryz.prog 75 [.slice data_0 data_0l data_0c, .int .i64 s2.1, .int .i64 s2.2.1] [] (fun (_r6 : Unit) h7 =>
  K (.tuple #[]) h7) h3)
  (cutT [.sc (.int .i64)] (fun (K8 : Int → Heap → Prop) h11 =>
  br (!s2.2.2.2.1)
  (callT Tryz.prog 76 [.slice data_0 data_0l data_0c, .int .i64 s2.1, .int .i64 s2.2.1] [] (fun (_r9 : Unit) h10 =>
  K8 (IntKind.wrap .i64 (s2.2.2.1 - (1 : Int))) h10) h11)
  (K8 s2.2.2.1 h11)) (fun (s12 : Int) _ h13 =>
  callT Tryz.prog 77 [.slice data_0 data_0l data_0c, .int .i64 s2.1, .int .i64 s2.2.1] [.sc (.int .i64), .sc (.int .i64)] (fun (r14 : Int × Int) h15 =>
  cutT [.sc (.int .i64), .sc (.int .i64)] (fun (K16 : (Int × Int) → Heap → Prop) h19 =>
  br (r14.2 == (2 : Int))
  (callT Tryz.prog 78 [.slice data_0 data_0l data_0c, .int .i64 s2.1, .int .i64 s2.2.1] [] (fun (_r17 : Unit) h18 =>
  K16 ((IntKind.wrap .i64 ((IntKind.wrap .i64 (s2.2.1 - (1 : Int))) - (IntKind.wrap .i64 (r14.1 - s2.1)))), (1 : Int)) h18) h19)
  (K16 (r14.1, r14.2) h19)) (fun (s20 : Int × Int) _ h21 =>
  cutT [] (fun (K22 : Unit → Heap → Prop) h29 =>
  cutT [.sc .bool] (fun (K23 : Bool → Heap → Prop) h24 =>
  br s2.2.2.2.1
  (br s2.2.2.2.2
  (K23 (s20.2 == (1 : Int)) h24)
  (K23 false h24))
  (K23 false h24)) (fun (s25 : Bool) _ h26 =>
  br s25
  (callT Tryz.prog 79 [.slice data_0 data_0l data_0c, .int .i64 s2.1, .int .i64 s2.2.1] [.sc .bool] (fun (r27 : Bool) h28 =>
  br r27
  (K (.tuple #[]) h28)
  (K22 () h28)) h26)
  (K22 () h26)) h29) (fun (_s30 : Unit) _ h31 =>
  cutT [.sc (.int .i64)] (fun (K32 : Int → Heap → Prop) h44 =>
  cutT [.sc .bool] (fun (K33 : Bool → Heap → Prop) h39 =>
  br (decide (s2.1 > (0 : Int)))
  (ptrW data_0 (fun a34 =>
  idxW (IntKind.wrap .i64 (s2.1 - (1 : Int))) data_0l true (ldW (.int .u32) (Addr.add a34 (Int.toNat (IntKind.wrap .i64 (s2.1 - (1 : Int))) * 1)) (fun (x35 : Int) =>
  ptrW data_0 (fun a36 =>
  idxW s20.1 data_0l true (ldW (.int .u32) (Addr.add a36 (Int.toNat s20.1 * 1)) (fun (x37 : Int) =>
  callQ Tryz.prog 80 [.int .u32 x35, .int .u32 x37] [.sc .bool] (fun (r38 : Bool) =>
  K33 (!r38) h39) h39) h39))) h39)))
  (K33 false h39)) (fun (s40 : Bool) _ h41 =>
  br s40
  (callT Tryz.prog 81 [.slice data_0 data_0l data_0c, .int .i64 s2.1, .int .i64 s2.2.1, .int .i64 s20.1] [.sc (.int .i64)] (fun (r42 : Int) h43 =>
  K1 (r42, s2.2.1, s12, s2.2.2.2.1, s2.2.2.2.2) h43) h41)
  (K32 s2.1 h41)) h44) (fun (s45 : Int) _ h46 =>
  callT Tryz.prog 82 [.slice data_0 data_0l data_0c, .int .i64 s45, .int .i64 s2.2.1, .int .i64 s20.1] [.sc (.int .i64), .sc .bool] (fun (r47 : Int × Bool) h48 =>
  br (decide ((IntKind.wrap .i64 (r47.1 - s45)) < (IntKind.wrap .i64 (s2.2.1 - r47.1))))
  (callT Tryz.prog 72 [.slice data_0 data_0l data_0c, .int .i64 s45, .int .i64 r47.1, .int .i64 s12] [] (fun (_r49 : Unit) h50 =>
  K1 ((IntKind.wrap .i64 (r47.1 + (1 : Int))), s2.2.1, s12, (decide ((IntKind.wrap .i64 (r47.1 - s45)) ≥ (IntKind.wrap .i64 (Int.tdiv (IntKind.wrap .i64 (s2.2.1 - s2.1)) (8 : Int))))), r47.2) h50) h48)
  (callT Tryz.prog 72 [.slice data_0 data_0l data_0c, .int .i64 (IntKind.wrap .i64 (r47.1 + (1 : Int))), .int .i64 s2.2.1, .int .i64 s12] [] (fun (_r51 : Unit) h52 =>
  K1 (s45, r47.1, s12, (decide ((IntKind.wrap .i64 (s2.2.1 - r47.1)) ≥ (IntKind.wrap .i64 (Int.tdiv (IntKind.wrap .i64 (s2.2.1 - s2.1)) (8 : Int))))), r47.2) h52) h48)) h46) h31) h21) h15) h13) h3))) (a_1, b_2, limit_3, true, true) h0)
set_option maxRecDepth 100000 in
theorem F72_eq (data_0 : Option Addr) (data_0l data_0c : Nat) (a_1 : Int) (b_2 : Int) (limit_3 : Int) (K : Value → Heap → Prop) (h0 : Heap) : funWE Tryz.prog 72 (.seq (.leaf) (.seq (.leaf) (.block (.loop [(1, .sc (.int .i64)), (2, .sc (.int .i64)), (3, .sc (.int .i64)), (8, .sc .bool), (9, .sc .bool)] (.block (.seq (.leaf) (.seq (.seq (.leaf) (.cond (.seq (.leaf) (.leaf)) (.leaf))) (.seq (.seq (.leaf) (.cond (.seq (.leaf) (.leaf)) (.leaf))) (.cut [(3, .sc (.int .i64))] (.seq (.leaf) (.cond (.seq (.leaf) (.leaf)) (.leaf))) (.seq (.leaf) (.cut [(11, .sc (.int .i64)), (12, .sc (.int .i64))] (.seq (.leaf) (.cond (.seq (.leaf) (.seq (.leaf) (.leaf))) (.leaf))) (.cut [] (.cut [(68, .sc .bool)] (.leaf) (.cond (.seq (.leaf) (.cond (.leaf) (.leaf))) (.leaf))) (.cut [(1, .sc (.int .i64))] (.cut [(87, .sc .bool)] (.draw (odp [0, 1, 2, 3, 4, 5, 6, 7, 8, 9, 10, 11, 12, 13, 14] .nil) [12]) (.cond (.seq (.leaf) (.seq (.leaf) (.leaf))) (.leaf))) (.seq (.leaf) (.seq (.leaf) (.seq (.leaf) (.seq (.leaf) (.seq (.leaf) (.cond (.seq (.leaf) (.seq (.leaf) (.leaf))) (.seq (.leaf) (.seq (.leaf) (.leaf)))))))))))))))))))))) [.slice data_0 data_0l data_0c, .int .i64 a_1, .int .i64 b_2, .int .i64 limit_3] K h0 = F72 data_0 data_0l data_0c a_1 b_2 limit_3 K h0 := by kernel_rfl

-- function 74
set_option maxRecDepth 100000 in
def F74 (data_0 : Option Addr) (data_0l _data_0c : Nat) (a_1 : Int) (b_2 : Int) (K : Value → Heap → Prop) (h0 : Heap) : Prop := (
  loopT [.sc (.int .i64)] (fun (s2 : Int) _ (K1 : Int → Heap → Prop) h3 =>
  br (decide (s2 < b_2))
  (cutT [] (fun (K4 : Unit → Heap → Prop) h5 =>
  loopT [.sc (.int .i64)] (fun (s7 : Int) _ (K6 : Int → Heap → Prop) h8 =>
  cutT [] (fun (K9 : Unit → Heap → Prop) h15 =>
  br (decide (s7 > a_1))
  (ptrW data_0 (fun a10 =>
  idxW s7 data_0l true (ldW (.int .u32) (Addr.add a10 (Int.toNat s7 * 1)) (fun (x11 : Int) =>
  ptrW data_0 (fun a12 =>
  idxW (IntKind.wrap .i64 (s7 - (1 : Int))) data_0l true (ldW (.int .u32) (Addr.add a12 (Int.toNat (IntKind.wrap .i64 (s7 - (1 : Int))) * 1)) (fun (x13 : Int) =>
  callQ Tryz.prog 80 [.int .u32 x11, .int .u32 x13] [.sc .bool] (fun (r14 : Bool) =>
  br r14
  (K9 () h15)
  (K4 () h15)) h15) h15))) h15)))
  (K4 () h15)) (fun (_s16 : Unit) _ h17 =>
  ptrW data_0 (fun a18 =>
  idxW (IntKind.wrap .i64 (s7 - (1 : Int))) data_0l true (ldW (.int .u32) (Addr.add a18 (Int.toNat (IntKind.wrap .i64 (s7 - (1 : Int))) * 1)) (fun (x19 : Int) =>
  ptrW data_0 (fun a20 =>
  idxW s7 data_0l true (ldW (.int .u32) (Addr.add a20 (Int.toNat s7 * 1)) (fun (x21 : Int) =>
  ptrW data_0 (fun a22 =>
  idxW s7 data_0l true (stW (Addr.add a22 (Int.toNat s7 * 1)) (.int .u32 x19) (fun h23 =>
  ptrW data_0 (fun a24 =>
  idxW (IntKind.wrap .i64 (s7 - (1 : Int))) data_0l true (stW (Addr.add a24 (Int.toNat (IntKind.wrap .i64 (s7 - (1 : Int))) * 1)) (.int .u32 x21) (fun h25 =>
  K6 (IntKind.wrap .i64 (s7 - (1 : Int))) h25) h23))) h17))) h17))) h17))) h8) s2 h5) (fun (_s26 : Unit) _ h27 =>
  K1 (IntKind.wrap .i64 (s2 + (1 : Int))) h27) h3)
  (K (.tuple #[]) h3)) (IntKind.wrap .i64 (a_1 + (1 : Int))) h0)
set_option maxRecDepth 100000 in
theorem F74_eq (data_0 : Option Addr) (data_0l data_0c : Nat) (a_1 : Int) (b_2 : Int) (K : Value → Heap → Prop) (h0 : Heap) : funWE Tryz.prog 74 (.seq (.leaf) (.block (.loop [(6, .sc (.int .i64))] (.seq (.seq (.leaf) (.cond (.leaf) (.leaf))) (.seq (.bcut [] (.seq (.leaf) (.block (.loop [(7, .sc (.int .i64))] (.cut [] (.seq (.draw (odp [0, 1, 2, 3, 4, 5, 6, 7, 8, 9, 10, 11, 12, 13, 14] .nil) [13]) (.cond (.leaf) (.leaf))) (.seq (.block (.draw (odp [0, 1, 2, 3, 4, 5, 6, 7, 8, 9, 10, 11, 12, 13, 14, 15, 16, 17] .nil) [])) (.leaf))))))) (.leaf)))))) [.slice data_0 data_0l data_0c, .int .i64 a_1, .int .i64 b_2] K h0 = F74 data_0 data_0l data_0c a_1 b_2 K h0 := by kernel_rfl

-- function 75
set_option maxRecDepth 100000 in
def F75 (data_0 : Option Addr) (data_0l data_0c : Nat) (a_1 : Int) (b_2 : Int) (K : Value → Heap → Prop) (h0 : Heap) : Prop := (
  loopT [.sc (.int .i64)] (fun (s2 : Int) _ (K1 : Int → Heap → Prop) h3 =>
  br (decide (s2 ≥ (0 : Int)))
  (callT Tryz.prog 85 [.slice data_0 data_0l data_0c, .int .i64 s2, .int .i64 (IntKind.wrap .i64 (b_2 - a_1)), .int .i64 a_1] [] (fun (_r4 : Unit) h5 =>
  K1 (IntKind.wrap .i64 (s2 - (1 : Int))) h5) h3)
  (loopT [.sc (.int .i64)] (fun (s7 : Int) _ (K6 : Int → Heap → Prop) h8 =>
  br (decide (s7 ≥ (0 : Int)))
  (ptrW data_0 (fun a9 =>
  idxW (IntKind.wrap .i64 (a_1 + s7)) data_0l true (ldW (.int .u32) (Addr.add a9 (Int.toNat (IntKind.wrap .i64 (a_1 + s7)) * 1)) (fun (x10 : Int) =>
  ptrW data_0 (fun a11 =>
  idxW a_1 data_0l true (ldW (.int .u32) (Addr.add a11 (Int.toNat a_1 * 1)) (fun (x12 : Int) =>
  ptrW data_0 (fun a13 =>
  idxW a_1 data_0l true (stW (Addr.add a13 (Int.toNat a_1 * 1)) (.int .u32 x10) (fun h14 =>
  ptrW data_0 (fun a15 =>
  idxW (IntKind.wrap .i64 (a_1 + s7)) data_0l true (stW (Addr.add a15 (Int.toNat (IntKind.wrap .i64 (a_1 + s7)) * 1)) (.int .u32 x12) (fun h16 =>
  callT Tryz.prog 85 [.slice data_0 data_0l data_0c, .int .i64 0, .int .i64 s7, .int .i64 a_1] [] (fun (_r17 : Unit) h18 =>
  K6 (IntKind.wrap .i64 (s7 - (1 : Int))) h18) h16) h14))) h8))) h8))) h8)))
  (K (.tuple #[]) h8)) (IntKind.wrap .i64 ((IntKind.wrap .i64 (b_2 - a_1)) - (1 : Int))) h3)) (IntKind.wrap .i64 (Int.tdiv (IntKind.wrap .i64 ((IntKind.wrap .i64 (b_2 - a_1)) - (1 : Int))) (2 : Int))) h0)
set_option maxRecDepth 100000 in
theorem F75_eq (data_0 : Option Addr) (data_0l data_0c : Nat) (a_1 : Int) (b_2 : Int) (K : Value → Heap → Prop) (h0 : Heap) : funWE Tryz.prog 75 (.seq (.leaf) (.seq (.leaf) (.seq (.leaf) (.seq (.seq (.leaf) (.block (.loop [(9, .sc (.int .i64))] (.seq (.seq (.leaf) (.cond (.leaf) (.leaf))) (.seq (.block (.leaf)) (.leaf)))))) (.seq (.leaf) (.block (.loop [(10, .sc (.int .i64))] (.seq (.seq (.leaf) (.cond (.leaf) (.leaf))) (.seq (.block (.seq (.draw (odp [0, 1, 2, 3, 4, 5, 6, 7, 8, 9, 10, 11, 12, 13, 14, 15, 16, 17, 18, 19] .nil) []) (.leaf))) (.leaf)))))))))) [.slice data_0 data_0l data_0c, .int .i64 a_1, .int .i64 b_2] K h0 = F75 data_0 data_0l data_0c a_1 b_2 K h0 := by kernel_rfl

-- function 76
set_option maxRecDepth 100000 in
def F76 (data_0 : Option Addr) (data_0l _data_0c : Nat) (a_1 : Int) (b_2 : Int) (K : Value → Heap → Prop) (h0 : Heap) : Prop := (
  br (decide ((IntKind.wrap .i64 (b_2 - a_1)) ≥ (8 : Int)))
  (newW (.cells (zeroC Tryz.prog 152) 152) (fun a1 h2 =>
  stW a1 (.int .u64 (IntKind.wrap .u64 (IntKind.wrap .i64 (b_2 - a_1)))) (fun h3 =>
  callT Tryz.prog 86 [.int .i64 (IntKind.wrap .i64 (b_2 - a_1))] [.sc (.int .u64)] (fun (r4 : Int) h5 =>
  loopT [.sc (.int .i64)] (fun (s7 : Int) _ (K6 : Int → Heap → Prop) h8 =>
  br (decide (s7 ≤ (IntKind.wrap .i64 ((IntKind.wrap .i64 (a_1 + (IntKind.wrap .i64 ((IntKind.wrap .i64 (Int.tdiv (IntKind.wrap .i64 (b_2 - a_1)) (4 : Int))) * (2 : Int))))) + (1 : Int)))))
  (cutT [] (fun (K9 : Unit → Heap → Prop) h10 =>
  callT Tryz.prog 87 [.pointer (some a1)] [.sc (.int .u64)] (fun (r11 : Int) h12 =>
  cutT [.sc (.int .i64)] (fun (K13 : Int → Heap → Prop) h14 =>
  br (decide ((IntKind.wrap .i64 (IntKind.wrap .u64 (((BitVec.ofInt 64 r11 &&& BitVec.ofInt 64 (IntKind.wrap .u64 (r4 - (1 : Int)))).toNat : Int)))) ≥ (IntKind.wrap .i64 (b_2 - a_1))))
  (K13 (IntKind.wrap .i64 ((IntKind.wrap .i64 (IntKind.wrap .u64 (((BitVec.ofInt 64 r11 &&& BitVec.ofInt 64 (IntKind.wrap .u64 (r4 - (1 : Int)))).toNat : Int)))) - (IntKind.wrap .i64 (b_2 - a_1)))) h14)
  (K13 (IntKind.wrap .i64 (IntKind.wrap .u64 (((BitVec.ofInt 64 r11 &&& BitVec.ofInt 64 (IntKind.wrap .u64 (r4 - (1 : Int)))).toNat : Int)))) h14)) (fun (s15 : Int) _ h16 =>
  ptrW data_0 (fun a17 =>
  idxW (IntKind.wrap .i64 (a_1 + s15)) data_0l true (ldW (.int .u32) (Addr.add a17 (Int.toNat (IntKind.wrap .i64 (a_1 + s15)) * 1)) (fun (x18 : Int) =>
  ptrW data_0 (fun a19 =>
  idxW s7 data_0l true (ldW (.int .u32) (Addr.add a19 (Int.toNat s7 * 1)) (fun (x20 : Int) =>
  ptrW data_0 (fun a21 =>
  idxW s7 data_0l true (stW (Addr.add a21 (Int.toNat s7 * 1)) (.int .u32 x18) (fun h22 =>
  ptrW data_0 (fun a23 =>
  idxW (IntKind.wrap .i64 (a_1 + s15)) data_0l true (stW (Addr.add a23 (Int.toNat (IntKind.wrap .i64 (a_1 + s15)) * 1)) (.int .u32 x20) (fun h24 =>
  K9 () h24) h22))) h16))) h16))) h16))) h12) h10) (fun (_s25 : Unit) _ h26 =>
  K6 (IntKind.wrap .i64 (s7 + (1 : Int))) h26) h8)
  (K (.tuple #[]) h8)) (IntKind.wrap .i64 ((IntKind.wrap .i64 (a_1 + (IntKind.wrap .i64 ((IntKind.wrap .i64 (Int.tdiv (IntKind.wrap .i64 (b_2 - a_1)) (4 : Int))) * (2 : Int))))) - (1 : Int))) h5) h3) h2) h0)
  (K (.tuple #[]) h0))
set_option maxRecDepth 100000 in
theorem F76_eq (data_0 : Option Addr) (data_0l data_0c : Nat) (a_1 : Int) (b_2 : Int) (K : Value → Heap → Prop) (h0 : Heap) : funWE Tryz.prog 76 (.seq (.leaf) (.seq (.leaf) (.cond (.seq (.leaf) (.seq (.leaf) (.seq (.leaf) (.block (.loop [(9, .sc (.int .i64))] (.seq (.seq (.leaf) (.cond (.leaf) (.leaf))) (.seq (.bcut [] (.seq (.leaf) (.cut [(10, .sc (.int .i64))] (.seq (.leaf) (.cond (.leaf) (.leaf))) (.draw (odp [0, 1, 2, 3, 4, 5, 6, 7, 8, 9, 10, 11, 12, 13, 14, 15, 16, 17, 18, 19] .nil) [])))) (.leaf)))))))) (.leaf)))) [.slice data_0 data_0l data_0c, .int .i64 a_1, .int .i64 b_2] K h0 = F76 data_0 data_0l data_0c a_1 b_2 K h0 := by kernel_rfl

-- function 77
set_option maxRecDepth 100000 in
def F77 (data_0 : Option Addr) (data_0l data_0c : Nat) (a_1 : Int) (b_2 : Int) (K : Value → Heap → Prop) (h0 : Heap) : Prop := (
  newW (.cells (zeroC Tryz.prog 3) 3) (fun a1 h2 =>
  cutT [.sc (.int .i64)] (fun (K3 : Int → Heap → Prop) h16 =>
  br (decide ((IntKind.wrap .i64 (b_2 - a_1)) ≥ (8 : Int)))
  (cutT [.sc (.int .i64), .sc (.int .i64), .sc (.int .i64)] (fun (K4 : (Int × Int × Int) → Heap → Prop) h11 =>
  br (decide ((IntKind.wrap .i64 (b_2 - a_1)) ≥ (50 : Int)))
  (callT Tryz.prog 88 [.slice data_0 data_0l data_0c, .int .i64 (IntKind.wrap .i64 (a_1 + (IntKind.wrap .i64 ((IntKind.wrap .i64 (Int.tdiv (IntKind.wrap .i64 (b_2 - a_1)) (4 : Int))) * (1 : Int))))), .pointer (some a1)] [.sc (.int .i64)] (fun (r5 : Int) h6 =>
  callT Tryz.prog 88 [.slice data_0 data_0l data_0c, .int .i64 (IntKind.wrap .i64 (a_1 + (IntKind.wrap .i64 ((IntKind.wrap .i64 (Int.tdiv (IntKind.wrap .i64 (b_2 - a_1)) (4 : Int))) * (2 : Int))))), .pointer (some a1)] [.sc (.int .i64)] (fun (r7 : Int) h8 =>
  callT Tryz.prog 88 [.slice data_0 data_0l data_0c, .int .i64 (IntKind.wrap .i64 (a_1 + (IntKind.wrap .i64 ((IntKind.wrap .i64 (Int.tdiv (IntKind.wrap .i64 (b_2 - a_1)) (4 : Int))) * (3 : Int))))), .pointer (some a1)] [.sc (.int .i64)] (fun (r9 : Int) h10 =>
  K4 (r5, r7, r9) h10) h8) h6) h11)
  (K4 ((IntKind.wrap .i64 (a_1 + (IntKind.wrap .i64 ((IntKind.wrap .i64 (Int.tdiv (IntKind.wrap .i64 (b_2 - a_1)) (4 : Int))) * (1 : Int))))), (IntKind.wrap .i64 (a_1 + (IntKind.wrap .i64 ((IntKind.wrap .i64 (Int.tdiv (IntKind.wrap .i64 (b_2 - a_1)) (4 : Int))) * (2 : Int))))), (IntKind.wrap .i64 (a_1 + (IntKind.wrap .i64 ((IntKind.wrap .i64 (Int.tdiv (IntKind.wrap .i64 (b_2 - a_1)) (4 : Int))) * (3 : Int)))))) h11)) (fun (s12 : Int × Int × Int) _ h13 =>
  callT Tryz.prog 89 [.slice data_0 data_0l data_0c, .int .i64 s12.1, .int .i64 s12.2.1, .int .i64 s12.2.2, .pointer (some a1)] [.sc (.int .i64)] (fun (r14 : Int) h15 =>
  K3 r14 h15) h13) h16)
  (K3 (IntKind.wrap .i64 (a_1 + (IntKind.wrap .i64 ((IntKind.wrap .i64 (Int.tdiv (IntKind.wrap .i64 (b_2 - a_1)) (4 : Int))) * (2 : Int))))) h16)) (fun (s17 : Int) _ h18 =>
  ldW (.int .i64) a1 (fun (x19 : Int) =>
  br (x19 == (0 : Int))
  (K (.tuple #[.int .i64 s17, .int .i64 1]) h18)
  (br (x19 == (12 : Int))
  (K (.tuple #[.int .i64 s17, .int .i64 2]) h18)
  (K (.tuple #[.int .i64 s17, .int .i64 0]) h18))) h18) h2) h0)
set_option maxRecDepth 100000 in
theorem F77_eq (data_0 : Option Addr) (data_0l data_0c : Nat) (a_1 : Int) (b_2 : Int) (K : Value → Heap → Prop) (h0 : Heap) : funWE Tryz.prog 77 (.seq (.leaf) (.seq (.leaf) (.seq (.leaf) (.seq (.leaf) (.seq (.leaf) (.seq (.leaf) (.cut [(11, .sc (.int .i64))] (.seq (.leaf) (.cond (.cut [(10, .sc (.int .i64)), (11, .sc (.int .i64)), (12, .sc (.int .i64))] (.seq (.leaf) (.cond (.seq (.leaf) (.seq (.leaf) (.leaf))) (.leaf))) (.leaf)) (.leaf))) (.seq (.leaf) (.block (.seq (.leaf) (.cond (.seq (.leaf) (.leaf)) (.seq (.leaf) (.cond (.seq (.leaf) (.leaf)) (.seq (.leaf) (.leaf))))))))))))))) [.slice data_0 data_0l data_0c, .int .i64 a_1, .int .i64 b_2] K h0 = F77 data_0 data_0l data_0c a_1 b_2 K h0 := by kernel_rfl

-- function 78
set_option maxRecDepth 100000 in
def F78 (data_0 : Option Addr) (data_0l _data_0c : Nat) (a_1 : Int) (b_2 : Int) (K : Value → Heap → Prop) (h0 : Heap) : Prop := (
  loopT [.sc (.int .i64), .sc (.int .i64)] (fun (s2 : Int × Int) _ (K1 : (Int × Int) → Heap → Prop) h3 =>
  br (decide (s2.1 < s2.2))
  (ptrW data_0 (fun a4 =>
  idxW s2.2 data_0l true (ldW (.int .u32) (Addr.add a4 (Int.toNat s2.2 * 1)) (fun (x5 : Int) =>
  ptrW data_0 (fun a6 =>
  idxW s2.1 data_0l true (ldW (.int .u32) (Addr.add a6 (Int.toNat s2.1 * 1)) (fun (x7 : Int) =>
  ptrW data_0 (fun a8 =>
  idxW s2.1 data_0l true (stW (Addr.add a8 (Int.toNat s2.1 * 1)) (.int .u32 x5) (fun h9 =>
  ptrW data_0 (fun a10 =>
  idxW s2.2 data_0l true (stW (Addr.add a10 (Int.toNat s2.2 * 1)) (.int .u32 x7) (fun h11 =>
  K1 ((IntKind.wrap .i64 (s2.1 + (1 : Int))), (IntKind.wrap .i64 (s2.2 - (1 : Int)))) h11) h9))) h3))) h3))) h3)))
  (K (.tuple #[]) h3)) (a_1, (IntKind.wrap .i64 (b_2 - (1 : Int)))) h0)
set_option maxRecDepth 100000 in
theorem F78_eq (data_0 : Option Addr) (data_0l data_0c : Nat) (a_1 : Int) (b_2 : Int) (K : Value → Heap → Prop) (h0 : Heap) : funWE Tryz.prog 78 (.seq (.leaf) (.seq (.leaf) (.block (.loop [(6, .sc (.int .i64)), (7, .sc (.int .i64))] (.seq (.seq (.leaf) (.cond (.leaf) (.leaf))) (.block (.seq (.draw (odp [0, 1, 2, 3, 4, 5, 6, 7, 8, 9, 10, 11, 12, 13, 14, 15] .nil) []) (.seq (.leaf) (.leaf))))))))) [.slice data_0 data_0l data_0c, .int .i64 a_1, .int .i64 b_2] K h0 = F78 data_0 data_0l data_0c a_1 b_2 K h0 := by kernel_rfl

-- function 79
set_option maxRecDepth 100000 in
def F79 (data_0 : Option Addr) (data_0l _data_0c : Nat) (a_1 : Int) (b_2 : Int) (K : Value → Heap → Prop) (h0 : Heap) : Prop := (
  loopT [.sc (.int .i64), .sc (.int .i64)] (fun (s2 : Int × Int) _ (K1 : (Int × Int) → Heap → Prop) h3 =>
  br (decide (s2.2 < (5 : Int)))
  (cutT [.sc (.int .i64)] (fun (K4 : Int → Heap → Prop) h5 =>
  cutT [.sc (.int .i64)] (fun (K6 : Int → Heap → Prop) h7 =>
  loopT [.sc (.int .i64)] (fun (s9 : Int) _ (K8 : Int → Heap → Prop) h10 =>
  cutT [] (fun (K11 : Unit → Heap → Prop) h17 =>
  br (decide (s9 < b_2))
  (ptrW data_0 (fun a12 =>
  idxW s9 data_0l true (ldW (.int .u32) (Addr.add a12 (Int.toNat s9 * 1)) (fun (x13 : Int) =>
  ptrW data_0 (fun a14 =>
  idxW (IntKind.wrap .i64 (s9 - (1 : Int))) data_0l true (ldW (.int .u32) (Addr.add a14 (Int.toNat (IntKind.wrap .i64 (s9 - (1 : Int))) * 1)) (fun (x15 : Int) =>
  callQ Tryz.prog 80 [.int .u32 x13, .int .u32 x15] [.sc .bool] (fun (r16 : Bool) =>
  br (!r16)
  (K11 () h17)
  (K6 s9 h17)) h17) h17))) h17)))
  (K6 s9 h17)) (fun (_s18 : Unit) _ h19 =>
  K8 (IntKind.wrap .i64 (s9 + (1 : Int))) h19) h10) s2.1 h7) (fun (s20 : Int) _ h21 =>
  br (s20 == b_2)
  (K (.bool true) h21)
  (br (decide ((IntKind.wrap .i64 (b_2 - a_1)) < (50 : Int)))
  (K (.bool false) h21)
  (ptrW data_0 (fun a22 =>
  idxW (IntKind.wrap .i64 (s20 - (1 : Int))) data_0l true (ldW (.int .u32) (Addr.add a22 (Int.toNat (IntKind.wrap .i64 (s20 - (1 : Int))) * 1)) (fun (x23 : Int) =>
  ptrW data_0 (fun a24 =>
  idxW s20 data_0l true (ldW (.int .u32) (Addr.add a24 (Int.toNat s20 * 1)) (fun (x25 : Int) =>
  ptrW data_0 (fun a26 =>
  idxW s20 data_0l true (stW (Addr.add a26 (Int.toNat s20 * 1)) (.int .u32 x23) (fun h27 =>
  ptrW data_0 (fun a28 =>
  idxW (IntKind.wrap .i64 (s20 - (1 : Int))) data_0l true (stW (Addr.add a28 (Int.toNat (IntKind.wrap .i64 (s20 - (1 : Int))) * 1)) (.int .u32 x25) (fun h29 =>
  cutT [] (fun (K30 : Unit → Heap → Prop) h47 =>
  br (decide ((IntKind.wrap .i64 (s20 - a_1)) ≥ (2 : Int)))
  (loopT [.sc (.int .i64)] (fun (s32 : Int) _ (K31 : Int → Heap → Prop) h33 =>
  br (decide (s32 ≥ (1 : Int)))
  (ptrW data_0 (fun a34 =>
  idxW s32 data_0l true (ldW (.int .u32) (Addr.add a34 (Int.toNat s32 * 1)) (fun (x35 : Int) =>
  ptrW data_0 (fun a36 =>
  idxW (IntKind.wrap .i64 (s32 - (1 : Int))) data_0l true (ldW (.int .u32) (Addr.add a36 (Int.toNat (IntKind.wrap .i64 (s32 - (1 : Int))) * 1)) (fun (x37 : Int) =>
  callQ Tryz.prog 80 [.int .u32 x35, .int .u32 x37] [.sc .bool] (fun (r38 : Bool) =>
  br (!r38)
  (K30 () h33)
  (ptrW data_0 (fun a39 =>
  idxW (IntKind.wrap .i64 (s32 - (1 : Int))) data_0l true (ldW (.int .u32) (Addr.add a39 (Int.toNat (IntKind.wrap .i64 (s32 - (1 : Int))) * 1)) (fun (x40 : Int) =>
  ptrW data_0 (fun a41 =>
  idxW s32 data_0l true (ldW (.int .u32) (Addr.add a41 (Int.toNat s32 * 1)) (fun (x42 : Int) =>
  ptrW data_0 (fun a43 =>
  idxW s32 data_0l true (stW (Addr.add a43 (Int.toNat s32 * 1)) (.int .u32 x40) (fun h44 =>
  ptrW data_0 (fun a45 =>
  idxW (IntKind.wrap .i64 (s32 - (1 : Int))) data_0l true (stW (Addr.add a45 (Int.toNat (IntKind.wrap .i64 (s32 - (1 : Int))) * 1)) (.int .u32 x42) (fun h46 =>
  K31 (IntKind.wrap .i64 (s32 - (1 : Int))) h46) h44))) h33))) h33))) h33)))) h33) h33))) h33)))
  (K30 () h33)) (IntKind.wrap .i64 (s20 - (1 : Int))) h47)
  (K30 () h47)) (fun (_s48 : Unit) _ h49 =>
  br (decide ((IntKind.wrap .i64 (b_2 - s20)) ≥ (2 : Int)))
  (loopT [.sc (.int .i64)] (fun (s51 : Int) _ (K50 : Int → Heap → Prop) h52 =>
  br (decide (s51 < b_2))
  (ptrW data_0 (fun a53 =>
  idxW s51 data_0l true (ldW (.int .u32) (Addr.add a53 (Int.toNat s51 * 1)) (fun (x54 : Int) =>
  ptrW data_0 (fun a55 =>
  idxW (IntKind.wrap .i64 (s51 - (1 : Int))) data_0l true (ldW (.int .u32) (Addr.add a55 (Int.toNat (IntKind.wrap .i64 (s51 - (1 : Int))) * 1)) (fun (x56 : Int) =>
  callQ Tryz.prog 80 [.int .u32 x54, .int .u32 x56] [.sc .bool] (fun (r57 : Bool) =>
  br (!r57)
  (K4 s20 h52)
  (ptrW data_0 (fun a58 =>
  idxW (IntKind.wrap .i64 (s51 - (1 : Int))) data_0l true (ldW (.int .u32) (Addr.add a58 (Int.toNat (IntKind.wrap .i64 (s51 - (1 : Int))) * 1)) (fun (x59 : Int) =>
  ptrW data_0 (fun a60 =>
  idxW s51 data_0l true (ldW (.int .u32) (Addr.add a60 (Int.toNat s51 * 1)) (fun (x61 : Int) =>
  ptrW data_0 (fun a62 =>
  idxW s51 data_0l true (stW (Addr.add a62 (Int.toNat s51 * 1)) (.int .u32 x59) (fun h63 =>
  ptrW data_0 (fun a64 =>
  idxW (IntKind.wrap .i64 (s51 - (1 : Int))) data_0l true (stW (Addr.add a64 (Int.toNat (IntKind.wrap .i64 (s51 - (1 : Int))) * 1)) (.int .u32 x61) (fun h65 =>
  K50 (IntKind.wrap .i64 (s51 + (1 : Int))) h65) h63))) h52))) h52))) h52)))) h52) h52))) h52)))
  (K4 s20 h52)) (IntKind.wrap .i64 (s20 + (1 : Int))) h49)
  (K4 s20 h49)) h29) h27))) h21))) h21))) h21))))) h5) (fun (s66 : Int) _ h67 =>
  K1 (s66, (IntKind.wrap .i64 (s2.2 + (1 : Int)))) h67) h3)
  (K (.bool false) h3)) ((IntKind.wrap .i64 (a_1 + (1 : Int))), (0 : Int)) h0)
set_option maxRecDepth 100000 in
theorem F79_eq (data_0 : Option Addr) (data_0l data_0c : Nat) (a_1 : Int) (b_2 : Int) (K : Value → Heap → Prop) (h0 : Heap) : funWE Tryz.prog 79 (.seq (.leaf) (.seq (.leaf) (.seq (.seq (.leaf) (.block (.loop [(7, .sc (.int .i64)), (8, .sc (.int .i64))] (.seq (.seq (.leaf) (.cond (.leaf) (.leaf))) (.seq (.bcut [(7, .sc (.int .i64))] (.seq (.bcut [(7, .sc (.int .i64))] (.loop [(7, .sc (.int .i64))] (.cut [] (.seq (.draw (odp [0, 1, 2, 3, 4, 5, 6, 7, 8, 9, 10, 11, 12, 13, 14, 15] .nil) [13]) (.cond (.leaf) (.leaf))) (.block (.leaf))))) (.seq (.seq (.leaf) (.cond (.seq (.leaf) (.leaf)) (.leaf))) (.seq (.seq (.leaf) (.cond (.seq (.leaf) (.leaf)) (.leaf))) (.seq (.draw (odp [0, 1, 2, 3, 4, 5, 6, 7, 8, 9, 10, 11, 12, 13, 14, 15, 16, 17] .nil) []) (.cut [] (.seq (.leaf) (.cond (.seq (.leaf) (.block (.loop [(9, .sc (.int .i64))] (.seq (.seq (.leaf) (.cond (.leaf) (.leaf))) (.seq (.block (.seq (.seq (.draw (odp [0, 1, 2, 3, 4, 5, 6, 7, 8, 9, 10] .nil) [9]) (.cond (.leaf) (.leaf))) (.draw (odp [0, 1, 2, 3, 4, 5, 6, 7, 8, 9, 10, 11, 12, 13, 14, 15, 16, 17] .nil) []))) (.leaf)))))) (.leaf))) (.seq (.leaf) (.cond (.seq (.leaf) (.block (.loop [(10, .sc (.int .i64))] (.seq (.seq (.leaf) (.cond (.leaf) (.leaf))) (.seq (.block (.seq (.seq (.draw (odp [0, 1, 2, 3, 4, 5, 6, 7, 8, 9, 10] .nil) [9]) (.cond (.leaf) (.leaf))) (.draw (odp [0, 1, 2, 3, 4, 5, 6, 7, 8, 9, 10, 11, 12, 13, 14, 15, 16, 17] .nil) []))) (.leaf)))))) (.leaf))))))))) (.leaf)))))) (.seq (.leaf) (.leaf))))) [.slice data_0 data_0l data_0c, .int .i64 a_1, .int .i64 b_2] K h0 = F79 data_0 data_0l data_0c a_1 b_2 K h0 := by kernel_rfl

-- function 81
set_option maxRecDepth 100000 in
def F81 (data_0 : Option Addr) (data_0l _data_0c : Nat) (a_1 : Int) (b_2 : Int) (pivot_3 : Int) (K : Value → Heap → Prop) (h0 : Heap) : Prop := (
  ptrW data_0 (fun a1 =>
  idxW pivot_3 data_0l true (ldW (.int .u32) (Addr.add a1 (Int.toNat pivot_3 * 1)) (fun (x2 : Int) =>
  ptrW data_0 (fun a3 =>
  idxW a_1 data_0l true (ldW (.int .u32) (Addr.add a3 (Int.toNat a_1 * 1)) (fun (x4 : Int) =>
  ptrW data_0 (fun a5 =>
  idxW a_1 data_0l true (stW (Addr.add a5 (Int.toNat a_1 * 1)) (.int .u32 x2) (fun h6 =>
  ptrW data_0 (fun a7 =>
  idxW pivot_3 data_0l true (stW (Addr.add a7 (Int.toNat pivot_3 * 1)) (.int .u32 x4) (fun h8 =>
  cutT [.sc (.int .i64)] (fun (K9 : Int → Heap → Prop) h10 =>
  loopT [.sc (.int .i64), .sc (.int .i64)] (fun (s12 : Int × Int) _ (K11 : (Int × Int) → Heap → Prop) h13 =>
  cutT [.sc (.int .i64)] (fun (K14 : Int → Heap → Prop) h15 =>
  loopT [.sc (.int .i64)] (fun (s17 : Int) _ (K16 : Int → Heap → Prop) h18 =>
  cutT [] (fun (K19 : Unit → Heap → Prop) h25 =>
  br (decide (s17 ≤ s12.2))
  (ptrW data_0 (fun a20 =>
  idxW a_1 data_0l true (ldW (.int .u32) (Addr.add a20 (Int.toNat a_1 * 1)) (fun (x21 : Int) =>
  ptrW data_0 (fun a22 =>
  idxW s17 data_0l true (ldW (.int .u32) (Addr.add a22 (Int.toNat s17 * 1)) (fun (x23 : Int) =>
  callQ Tryz.prog 80 [.int .u32 x21, .int .u32 x23] [.sc .bool] (fun (r24 : Bool) =>
  br (!r24)
  (K19 () h25)
  (K14 s17 h25)) h25) h25))) h25)))
  (K14 s17 h25)) (fun (_s26 : Unit) _ h27 =>
  K16 (IntKind.wrap .i64 (s17 + (1 : Int))) h27) h18) s12.1 h15) (fun (s28 : Int) _ h29 =>
  cutT [.sc (.int .i64)] (fun (K30 : Int → Heap → Prop) h31 =>
  loopT [.sc (.int .i64)] (fun (s33 : Int) _ (K32 : Int → Heap → Prop) h34 =>
  cutT [] (fun (K35 : Unit → Heap → Prop) h41 =>
  br (decide (s28 ≤ s33))
  (ptrW data_0 (fun a36 =>
  idxW a_1 data_0l true (ldW (.int .u32) (Addr.add a36 (Int.toNat a_1 * 1)) (fun (x37 : Int) =>
  ptrW data_0 (fun a38 =>
  idxW s33 data_0l true (ldW (.int .u32) (Addr.add a38 (Int.toNat s33 * 1)) (fun (x39 : Int) =>
  callQ Tryz.prog 80 [.int .u32 x37, .int .u32 x39] [.sc .bool] (fun (r40 : Bool) =>
  br r40
  (K35 () h41)
  (K30 s33 h41)) h41) h41))) h41)))
  (K30 s33 h41)) (fun (_s42 : Unit) _ h43 =>
  K32 (IntKind.wrap .i64 (s33 - (1 : Int))) h43) h34) s12.2 h31) (fun (s44 : Int) _ h45 =>
  br (decide (s28 > s44))
  (K9 s28 h45)
  (ptrW data_0 (fun a46 =>
  idxW s44 data_0l true (ldW (.int .u32) (Addr.add a46 (Int.toNat s44 * 1)) (fun (x47 : Int) =>
  ptrW data_0 (fun a48 =>
  idxW s28 data_0l true (ldW (.int .u32) (Addr.add a48 (Int.toNat s28 * 1)) (fun (x49 : Int) =>
  ptrW data_0 (fun a50 =>
  idxW s28 data_0l true (stW (Addr.add a50 (Int.toNat s28 * 1)) (.int .u32 x47) (fun h51 =>
  ptrW data_0 (fun a52 =>
  idxW s44 data_0l true (stW (Addr.add a52 (Int.toNat s44 * 1)) (.int .u32 x49) (fun h53 =>
  K11 ((IntKind.wrap .i64 (s28 + (1 : Int))), (IntKind.wrap .i64 (s44 - (1 : Int)))) h53) h51))) h45))) h45))) h45)))) h29) h13) ((IntKind.wrap .i64 (a_1 + (1 : Int))), (IntKind.wrap .i64 (b_2 - (1 : Int)))) h10) (fun (s54 : Int) _ h55 =>
  K (.int .i64 s54) h55) h8) h6))) h0))) h0))) h0)))
set_option maxRecDepth 100000 in
theorem F81_eq (data_0 : Option Addr) (data_0l data_0c : Nat) (a_1 : Int) (b_2 : Int) (pivot_3 : Int) (K : Value → Heap → Prop) (h0 : Heap) : funWE Tryz.prog 81 (.seq (.leaf) (.seq (.draw (odp [0, 1, 2, 3, 4, 5, 6, 7, 8, 9, 10, 11, 12, 13, 14, 15] .nil) []) (.seq (.leaf) (.seq (.bcut [(9, .sc (.int .i64))] (.loop [(9, .sc (.int .i64)), (10, .sc (.int .i64))] (.block (.seq (.bcut [(9, .sc (.int .i64))] (.loop [(9, .sc (.int .i64))] (.cut [] (.seq (.draw (odp [0, 1, 2, 3, 4, 5, 6, 7, 8, 9, 10, 11, 12, 13, 14] .nil) [12]) (.cond (.leaf) (.leaf))) (.block (.leaf))))) (.seq (.bcut [(10, .sc (.int .i64))] (.loop [(10, .sc (.int .i64))] (.cut [] (.seq (.draw (odp [0, 1, 2, 3, 4, 5, 6, 7, 8, 9, 10, 11, 12, 13] .nil) [12]) (.cond (.leaf) (.leaf))) (.block (.leaf))))) (.seq (.seq (.leaf) (.cond (.leaf) (.leaf))) (.seq (.draw (odp [0, 1, 2, 3, 4, 5, 6, 7, 8, 9, 10, 11, 12, 13, 14, 15] .nil) []) (.seq (.leaf) (.leaf))))))))) (.seq (.leaf) (.leaf)))))) [.slice data_0 data_0l data_0c, .int .i64 a_1, .int .i64 b_2, .int .i64 pivot_3] K h0 = F81 data_0 data_0l data_0c a_1 b_2 pivot_3 K h0 := by kernel_rfl

-- function 82
set_option maxRecDepth 100000 in
def F82 (data_0 : Option Addr) (data_0l _data_0c : Nat) (a_1 : Int) (b_2 : Int) (pivot_3 : Int) (K : Value → Heap → Prop) (h0 : Heap) : Prop := (
  ptrW data_0 (fun a1 =>
  idxW pivot_3 data_0l true (ldW (.int .u32) (Addr.add a1 (Int.toNat pivot_3 * 1)) (fun (x2 : Int) =>
  ptrW data_0 (fun a3 =>
  idxW a_1 data_0l true (ldW (.int .u32) (Addr.add a3 (Int.toNat a_1 * 1)) (fun (x4 : Int) =>
  ptrW data_0 (fun a5 =>
  idxW a_1 data_0l true (stW (Addr.add a5 (Int.toNat a_1 * 1)) (.int .u32 x2) (fun h6 =>
  ptrW data_0 (fun a7 =>
  idxW pivot_3 data_0l true (stW (Addr.add a7 (Int.toNat pivot_3 * 1)) (.int .u32 x4) (fun h8 =>
  cutT [.sc (.int .i64)] (fun (K9 : Int → Heap → Prop) h10 =>
  loopT [.sc (.int .i64)] (fun (s12 : Int) _ (K11 : Int → Heap → Prop) h13 =>
  cutT [] (fun (K14 : Unit → Heap → Prop) h20 =>
  br (decide (s12 ≤ (IntKind.wrap .i64 (b_2 - (1 : Int)))))
  (ptrW data_0 (fun a15 =>
  idxW s12 data_0l true (ldW (.int .u32) (Addr.add a15 (Int.toNat s12 * 1)) (fun (x16 : Int) =>
  ptrW data_0 (fun a17 =>
  idxW a_1 data_0l true (ldW (.int .u32) (Addr.add a17 (Int.toNat a_1 * 1)) (fun (x18 : Int) =>
  callQ Tryz.prog 80 [.int .u32 x16, .int .u32 x18] [.sc .bool] (fun (r19 : Bool) =>
  br r19
  (K14 () h20)
  (K9 s12 h20)) h20) h20))) h20)))
  (K9 s12 h20)) (fun (_s21 : Unit) _ h22 =>
  K11 (IntKind.wrap .i64 (s12 + (1 : Int))) h22) h13) (IntKind.wrap .i64 (a_1 + (1 : Int))) h10) (fun (s23 : Int) _ h24 =>
  cutT [.sc (.int .i64)] (fun (K25 : Int → Heap → Prop) h26 =>
  loopT [.sc (.int .i64)] (fun (s28 : Int) _ (K27 : Int → Heap → Prop) h29 =>
  cutT [] (fun (K30 : Unit → Heap → Prop) h36 =>
  br (decide (s23 ≤ s28))
  (ptrW data_0 (fun a31 =>
  idxW s28 data_0l true (ldW (.int .u32) (Addr.add a31 (Int.toNat s28 * 1)) (fun (x32 : Int) =>
  ptrW data_0 (fun a33 =>
  idxW a_1 data_0l true (ldW (.int .u32) (Addr.add a33 (Int.toNat a_1 * 1)) (fun (x34 : Int) =>
  callQ Tryz.prog 80 [.int .u32 x32, .int .u32 x34] [.sc .bool] (fun (r35 : Bool) =>
  br (!r35)
  (K30 () h36)
  (K25 s28 h36)) h36) h36))) h36)))
  (K25 s28 h36)) (fun (_s37 : Unit) _ h38 =>
  K27 (IntKind.wrap .i64 (s28 - (1 : Int))) h38) h29) (IntKind.wrap .i64 (b_2 - (1 : Int))) h26) (fun (s39 : Int) _ h40 =>
  br (decide (s23 > s39))
  (ptrW data_0 (fun a41 =>
  idxW a_1 data_0l true (ldW (.int .u32) (Addr.add a41 (Int.toNat a_1 * 1)) (fun (x42 : Int) =>
  ptrW data_0 (fun a43 =>
  idxW s39 data_0l true (ldW (.int .u32) (Addr.add a43 (Int.toNat s39 * 1)) (fun (x44 : Int) =>
  ptrW data_0 (fun a45 =>
  idxW s39 data_0l true (stW (Addr.add a45 (Int.toNat s39 * 1)) (.int .u32 x42) (fun h46 =>
  ptrW data_0 (fun a47 =>
  idxW a_1 data_0l true (stW (Addr.add a47 (Int.toNat a_1 * 1)) (.int .u32 x44) (fun h48 =>
  K (.tuple #[.int .i64 s39, .bool true]) h48) h46))) h40))) h40))) h40)))
  (ptrW data_0 (fun a49 =>
  idxW s39 data_0l true (ldW (.int .u32) (Addr.add a49 (Int.toNat s39 * 1)) (fun (x50 : Int) =>
  ptrW data_0 (fun a51 =>
  idxW s23 data_0l true (ldW (.int .u32) (Addr.add a51 (Int.toNat s23 * 1)) (fun (x52 : Int) =>
  ptrW data_0 (fun a53 =>
  idxW s23 data_0l true (stW (Addr.add a53 (Int.toNat s23 * 1)) (.int .u32 x50) (fun h54 =>
  ptrW data_0 (fun a55 =>
  idxW s39 data_0l true (stW (Addr.add a55 (Int.toNat s39 * 1)) (.int .u32 x52) (fun h56 =>
  cutT [.sc (.int .i64)] (fun (K57 : Int → Heap → Prop) h58 =>
  loopT [.sc (.int .i64), .sc (.int .i64)] (fun (s60 : Int × Int) _ (K59 : (Int × Int) → Heap → Prop) h61 =>
  cutT [.sc (.int .i64)] (fun (K62 : Int → Heap → Prop) h63 =>
  loopT [.sc (.int .i64)] (fun (s65 : Int) _ (K64 : Int → Heap → Prop) h66 =>
  cutT [] (fun (K67 : Unit → Heap → Prop) h73 =>
  br (decide (s65 ≤ s60.2))
  (ptrW data_0 (fun a68 =>
  idxW s65 data_0l true (ldW (.int .u32) (Addr.add a68 (Int.toNat s65 * 1)) (fun (x69 : Int) =>
  ptrW data_0 (fun a70 =>
  idxW a_1 data_0l true (ldW (.int .u32) (Addr.add a70 (Int.toNat a_1 * 1)) (fun (x71 : Int) =>
  callQ Tryz.prog 80 [.int .u32 x69, .int .u32 x71] [.sc .bool] (fun (r72 : Bool) =>
  br r72
  (K67 () h73)
  (K62 s65 h73)) h73) h73))) h73)))
  (K62 s65 h73)) (fun (_s74 : Unit) _ h75 =>
  K64 (IntKind.wrap .i64 (s65 + (1 : Int))) h75) h66) s60.1 h63) (fun (s76 : Int) _ h77 =>
  cutT [.sc (.int .i64)] (fun (K78 : Int → Heap → Prop) h79 =>
  loopT [.sc (.int .i64)] (fun (s81 : Int) _ (K80 : Int → Heap → Prop) h82 =>
  cutT [] (fun (K83 : Unit → Heap → Prop) h89 =>
  br (decide (s76 ≤ s81))
  (ptrW data_0 (fun a84 =>
  idxW s81 data_0l true (ldW (.int .u32) (Addr.add a84 (Int.toNat s81 * 1)) (fun (x85 : Int) =>
  ptrW data_0 (fun a86 =>
  idxW a_1 data_0l true (ldW (.int .u32) (Addr.add a86 (Int.toNat a_1 * 1)) (fun (x87 : Int) =>
  callQ Tryz.prog 80 [.int .u32 x85, .int .u32 x87] [.sc .bool] (fun (r88 : Bool) =>
  br (!r88)
  (K83 () h89)
  (K78 s81 h89)) h89) h89))) h89)))
  (K78 s81 h89)) (fun (_s90 : Unit) _ h91 =>
  K80 (IntKind.wrap .i64 (s81 - (1 : Int))) h91) h82) s60.2 h79) (fun (s92 : Int) _ h93 =>
  br (decide (s76 > s92))
  (K57 s92 h93)
  (ptrW data_0 (fun a94 =>
  idxW s92 data_0l true (ldW (.int .u32) (Addr.add a94 (Int.toNat s92 * 1)) (fun (x95 : Int) =>
  ptrW data_0 (fun a96 =>
  idxW s76 data_0l true (ldW (.int .u32) (Addr.add a96 (Int.toNat s76 * 1)) (fun (x97 : Int) =>
  ptrW data_0 (fun a98 =>
  idxW s76 data_0l true (stW (Addr.add a98 (Int.toNat s76 * 1)) (.int .u32 x95) (fun h99 =>
  ptrW data_0 (fun a100 =>
  idxW s92 data_0l true (stW (Addr.add a100 (Int.toNat s92 * 1)) (.int .u32 x97) (fun h101 =>
  K59 ((IntKind.wrap .i64 (s76 + (1 : Int))), (IntKind.wrap .i64 (s92 - (1 : Int)))) h101) h99))) h93))) h93))) h93)))) h77) h61) ((IntKind.wrap .i64 (s23 + (1 : Int))), (IntKind.wrap .i64 (s39 - (1 : Int)))) h58) (fun (s102 : Int) _ h103 =>
  ptrW data_0 (fun a104 =>
  idxW a_1 data_0l true (ldW (.int .u32) (Addr.add a104 (Int.toNat a_1 * 1)) (fun (x105 : Int) =>
  ptrW data_0 (fun a106 =>
  idxW s102 data_0l true (ldW (.int .u32) (Addr.add a106 (Int.toNat s102 * 1)) (fun (x107 : Int) =>
  ptrW data_0 (fun a108 =>
  idxW s102 data_0l true (stW (Addr.add a108 (Int.toNat s102 * 1)) (.int .u32 x105) (fun h109 =>
  ptrW data_0 (fun a110 =>
  idxW a_1 data_0l true (stW (Addr.add a110 (Int.toNat a_1 * 1)) (.int .u32 x107) (fun h111 =>
  K (.tuple #[.int .i64 s102, .bool false]) h111) h109))) h103))) h103))) h103))) h56) h54))) h40))) h40))) h40)))) h24) h8) h6))) h0))) h0))) h0)))
set_option maxRecDepth 100000 in
theorem F82_eq (data_0 : Option Addr) (data_0l data_0c : Nat) (a_1 : Int) (b_2 : Int) (pivot_3 : Int) (K : Value → Heap → Prop) (h0 : Heap) : funWE Tryz.prog 82 (.seq (.leaf) (.seq (.draw (odp [0, 1, 2, 3, 4, 5, 6, 7, 8, 9, 10, 11, 12, 13, 14, 15] .nil) []) (.seq (.leaf) (.seq (.bcut [(10, .sc (.int .i64))] (.loop [(10, .sc (.int .i64))] (.cut [] (.seq (.draw (odp [0, 1, 2, 3, 4, 5, 6, 7, 8, 9, 10, 11, 12, 13] .nil) [12]) (.cond (.leaf) (.leaf))) (.block (.leaf))))) (.seq (.bcut [(11, .sc (.int .i64))] (.loop [(11, .sc (.int .i64))] (.cut [] (.seq (.draw (odp [0, 1, 2, 3, 4, 5, 6, 7, 8, 9, 10, 11, 12, 13, 14] .nil) [12]) (.cond (.leaf) (.leaf))) (.block (.leaf))))) (.seq (.seq (.leaf) (.cond (.seq (.draw (odp [0, 1, 2, 3, 4, 5, 6, 7, 8, 9, 10, 11, 12, 13, 14, 15] .nil) []) (.seq (.leaf) (.leaf))) (.leaf))) (.seq (.draw (odp [0, 1, 2, 3, 4, 5, 6, 7, 8, 9, 10, 11, 12, 13, 14, 15] .nil) []) (.seq (.leaf) (.seq (.leaf) (.seq (.bcut [(11, .sc (.int .i64))] (.loop [(10, .sc (.int .i64)), (11, .sc (.int .i64))] (.block (.seq (.bcut [(10, .sc (.int .i64))] (.loop [(10, .sc (.int .i64))] (.cut [] (.seq (.draw (odp [0, 1, 2, 3, 4, 5, 6, 7, 8, 9, 10, 11, 12, 13] .nil) [12]) (.cond (.leaf) (.leaf))) (.block (.leaf))))) (.seq (.bcut [(11, .sc (.int .i64))] (.loop [(11, .sc (.int .i64))] (.cut [] (.seq (.draw (odp [0, 1, 2, 3, 4, 5, 6, 7, 8, 9, 10, 11, 12, 13, 14] .nil) [12]) (.cond (.leaf) (.leaf))) (.block (.leaf))))) (.seq (.seq (.leaf) (.cond (.leaf) (.leaf))) (.seq (.draw (odp [0, 1, 2, 3, 4, 5, 6, 7, 8, 9, 10, 11, 12, 13, 14, 15] .nil) []) (.seq (.leaf) (.leaf))))))))) (.seq (.draw (odp [0, 1, 2, 3, 4, 5, 6, 7, 8, 9, 10, 11, 12, 13, 14, 15] .nil) []) (.seq (.leaf) (.leaf))))))))))))) [.slice data_0 data_0l data_0c, .int .i64 a_1, .int .i64 b_2, .int .i64 pivot_3] K h0 = F82 data_0 data_0l data_0c a_1 b_2 pivot_3 K h0 := by kernel_rfl

-- function 85
set_option maxRecDepth 100000 in
def F85 (data_0 : Option Addr) (data_0l _data_0c : Nat) (lo_1 : Int) (hi_2 : Int) (first_3 : Int) (K : Value → Heap → Prop) (h0 : Heap) : Prop := (
  loopT [.sc (.int .i64)] (fun (s2 : Int) _ (K1 : Int → Heap → Prop) h3 =>
  br (decide ((IntKind.wrap .i64 ((IntKind.wrap .i64 ((2 : Int) * s2)) + (1 : Int))) ≥ hi_2))
  (K (.tuple #[]) h3)
  (cutT [.sc (.int .i64)] (fun (K4 : Int → Heap → Prop) h14 =>
  cutT [.sc .bool] (fun (K5 : Bool → Heap → Prop) h11 =>
  br (decide ((IntKind.wrap .i64 ((IntKind.wrap .i64 ((IntKind.wrap .i64 ((2 : Int) * s2)) + (1 : Int))) + (1 : Int))) < hi_2))
  (ptrW data_0 (fun a6 =>
  idxW (IntKind.wrap .i64 (first_3 + (IntKind.wrap .i64 ((IntKind.wrap .i64 ((2 : Int) * s2)) + (1 : Int))))) data_0l true (ldW (.int .u32) (Addr.add a6 (Int.toNat (IntKind.wrap .i64 (first_3 + (IntKind.wrap .i64 ((IntKind.wrap .i64 ((2 : Int) * s2)) + (1 : Int))))) * 1)) (fun (x7 : Int) =>
  ptrW data_0 (fun a8 =>
  idxW (IntKind.wrap .i64 ((IntKind.wrap .i64 (first_3 + (IntKind.wrap .i64 ((IntKind.wrap .i64 ((2 : Int) * s2)) + (1 : Int))))) + (1 : Int))) data_0l true (ldW (.int .u32) (Addr.add a8 (Int.toNat (IntKind.wrap .i64 ((IntKind.wrap .i64 (first_3 + (IntKind.wrap .i64 ((IntKind.wrap .i64 ((2 : Int) * s2)) + (1 : Int))))) + (1 : Int))) * 1)) (fun (x9 : Int) =>
  callQ Tryz.prog 80 [.int .u32 x7, .int .u32 x9] [.sc .bool] (fun (r10 : Bool) =>
  K5 r10 h11) h11) h11))) h11)))
  (K5 false h11)) (fun (s12 : Bool) _ h13 =>
  br s12
  (K4 (IntKind.wrap .i64 ((IntKind.wrap .i64 ((IntKind.wrap .i64 ((2 : Int) * s2)) + (1 : Int))) + (1 : Int))) h13)
  (K4 (IntKind.wrap .i64 ((IntKind.wrap .i64 ((2 : Int) * s2)) + (1 : Int))) h13)) h14) (fun (s15 : Int) _ h16 =>
  ptrW data_0 (fun a17 =>
  idxW (IntKind.wrap .i64 (first_3 + s2)) data_0l true (ldW (.int .u32) (Addr.add a17 (Int.toNat (IntKind.wrap .i64 (first_3 + s2)) * 1)) (fun (x18 : Int) =>
  ptrW data_0 (fun a19 =>
  idxW (IntKind.wrap .i64 (first_3 + s15)) data_0l true (ldW (.int .u32) (Addr.add a19 (Int.toNat (IntKind.wrap .i64 (first_3 + s15)) * 1)) (fun (x20 : Int) =>
  callQ Tryz.prog 80 [.int .u32 x18, .int .u32 x20] [.sc .bool] (fun (r21 : Bool) =>
  br (!r21)
  (K (.tuple #[]) h16)
  (ptrW data_0 (fun a22 =>
  idxW (IntKind.wrap .i64 (first_3 + s15)) data_0l true (ldW (.int .u32) (Addr.add a22 (Int.toNat (IntKind.wrap .i64 (first_3 + s15)) * 1)) (fun (x23 : Int) =>
  ptrW data_0 (fun a24 =>
  idxW (IntKind.wrap .i64 (first_3 + s2)) data_0l true (ldW (.int .u32) (Addr.add a24 (Int.toNat (IntKind.wrap .i64 (first_3 + s2)) * 1)) (fun (x25 : Int) =>
  ptrW data_0 (fun a26 =>
  idxW (IntKind.wrap .i64 (first_3 + s2)) data_0l true (stW (Addr.add a26 (Int.toNat (IntKind.wrap .i64 (first_3 + s2)) * 1)) (.int .u32 x23) (fun h27 =>
  ptrW data_0 (fun a28 =>
  idxW (IntKind.wrap .i64 (first_3 + s15)) data_0l true (stW (Addr.add a28 (Int.toNat (IntKind.wrap .i64 (first_3 + s15)) * 1)) (.int .u32 x25) (fun h29 =>
  K1 s15 h29) h27))) h16))) h16))) h16)))) h16) h16))) h16))) h3)) lo_1 h0)
set_option maxRecDepth 100000 in
theorem F85_eq (data_0 : Option Addr) (data_0l data_0c : Nat) (lo_1 : Int) (hi_2 : Int) (first_3 : Int) (K : Value → Heap → Prop) (h0 : Heap) : funWE Tryz.prog 85 (.seq (.leaf) (.block (.loop [(8, .sc (.int .i64))] (.block (.seq (.leaf) (.seq (.seq (.leaf) (.cond (.leaf) (.leaf))) (.cut [(9, .sc (.int .i64))] (.cut [(36, .sc .bool)] (.draw (odp [0, 1, 2, 3, 4, 5, 6, 7, 8, 9, 10, 11, 12, 13, 14, 15, 16, 17, 18, 19] .nil) [18]) (.cond (.leaf) (.leaf))) (.seq (.seq (.draw (odp [0, 1, 2, 3, 4, 5, 6, 7, 8, 9, 10, 11, 12, 13] .nil) [12]) (.cond (.leaf) (.leaf))) (.seq (.draw (odp [0, 1, 2, 3, 4, 5, 6, 7, 8, 9, 10, 11, 12, 13, 14, 15, 16, 17, 18, 19, 20, 21, 22, 23] .nil) []) (.leaf)))))))))) [.slice data_0 data_0l data_0c, .int .i64 lo_1, .int .i64 hi_2, .int .i64 first_3] K h0 = F85 data_0 data_0l data_0c lo_1 hi_2 first_3 K h0 := by kernel_rfl

-- function 88
set_option maxRecDepth 100000 in
def F88 (data_0 : Option Addr) (data_0l data_0c : Nat) (a_1 : Int) (swaps_2 : Addr) (K : Value → Heap → Prop) (h0 : Heap) : Prop := (
  callT Tryz.prog 89 [.slice data_0 data_0l data_0c, .int .i64 (IntKind.wrap .i64 (a_1 - (1 : Int))), .int .i64 a_1, .int .i64 (IntKind.wrap .i64 (a_1 + (1 : Int))), .pointer (some swaps_2)] [.sc (.int .i64)] (fun (r1 : Int) h2 =>
  K (.int .i64 r1) h2) h0)
set_option maxRecDepth 100000 in
theorem F88_eq (data_0 : Option Addr) (data_0l data_0c : Nat) (a_1 : Int) (swaps_2 : Addr) (K : Value → Heap → Prop) (h0 : Heap) : funWE Tryz.prog 88 (.seq (.leaf) (.seq (.leaf) (.leaf))) [.slice data_0 data_0l data_0c, .int .i64 a_1, .pointer (some swaps_2)] K h0 = F88 data_0 data_0l data_0c a_1 swaps_2 K h0 := by kernel_rfl

-- function 89
set_option maxRecDepth 100000 in
def F89 (data_0 : Option Addr) (data_0l data_0c : Nat) (a_1 : Int) (b_2 : Int) (c_3 : Int) (swaps_4 : Addr) (K : Value → Heap → Prop) (h0 : Heap) : Prop := (
  callT Tryz.prog 91 [.slice data_0 data_0l data_0c, .int .i64 a_1, .int .i64 b_2, .pointer (some swaps_4)] [.sc (.int .i64), .sc (.int .i64)] (fun (r1 : Int × Int) h2 =>
  callT Tryz.prog 91 [.slice data_0 data_0l data_0c, .int .i64 r1.2, .int .i64 c_3, .pointer (some swaps_4)] [.sc (.int .i64), .sc (.int .i64)] (fun (r3 : Int × Int) h4 =>
  callT Tryz.prog 91 [.slice data_0 data_0l data_0c, .int .i64 r1.1, .int .i64 r3.1, .pointer (some swaps_4)] [.sc (.int .i64), .sc (.int .i64)] (fun (r5 : Int × Int) h6 =>
  K (.int .i64 r5.2) h6) h4) h2) h0)
set_option maxRecDepth 100000 in
theorem F89_eq (data_0 : Option Addr) (data_0l data_0c : Nat) (a_1 : Int) (b_2 : Int) (c_3 : Int) (swaps_4 : Addr) (K : Value → Heap → Prop) (h0 : Heap) : funWE Tryz.prog 89 (.seq (.leaf) (.seq (.leaf) (.seq (.leaf) (.seq (.leaf) (.seq (.leaf) (.leaf)))))) [.slice data_0 data_0l data_0c, .int .i64 a_1, .int .i64 b_2, .int .i64 c_3, .pointer (some swaps_4)] K h0 = F89 data_0 data_0l data_0c a_1 b_2 c_3 swaps_4 K h0 := by kernel_rfl

-- function 91
set_option maxRecDepth 100000 in
def F91 (data_0 : Option Addr) (data_0l _data_0c : Nat) (a_1 : Int) (b_2 : Int) (swaps_3 : Addr) (K : Value → Heap → Prop) (h0 : Heap) : Prop := (
  ptrW data_0 (fun a1 =>
  idxW b_2 data_0l true (ldW (.int .u32) (Addr.add a1 (Int.toNat b_2 * 1)) (fun (x2 : Int) =>
  ptrW data_0 (fun a3 =>
  idxW a_1 data_0l true (ldW (.int .u32) (Addr.add a3 (Int.toNat a_1 * 1)) (fun (x4 : Int) =>
  callQ Tryz.prog 80 [.int .u32 x2, .int .u32 x4] [.sc .bool] (fun (r5 : Bool) =>
  br r5
  (ldW (.int .i64) swaps_3 (fun (x6 : Int) =>
  stW swaps_3 (.int .i64 (IntKind.wrap .i64 (x6 + (1 : Int)))) (fun h7 =>
  K (.tuple #[.int .i64 b_2, .int .i64 a_1]) h7) h0) h0)
  (K (.tuple #[.int .i64 a_1, .int .i64 b_2]) h0)) h0) h0))) h0)))
set_option maxRecDepth 100000 in
theorem F91_eq (data_0 : Option Addr) (data_0l data_0c : Nat) (a_1 : Int) (b_2 : Int) (swaps_3 : Addr) (K : Value → Heap → Prop) (h0 : Heap) : funWE Tryz.prog 91 (.seq (.leaf) (.seq (.seq (.draw (odp [0, 1, 2, 3, 4, 5, 6, 7, 8] .nil) [8]) (.cond (.seq (.leaf) (.seq (.leaf) (.leaf))) (.leaf))) (.seq (.leaf) (.leaf)))) [.slice data_0 data_0l data_0c, .int .i64 a_1, .int .i64 b_2, .pointer (some swaps_3)] K h0 = F91 data_0 data_0l data_0c a_1 b_2 swaps_3 K h0 := by kernel_rfl

-- function 80
set_option maxRecDepth 100000 in
def F80 (x_0 : Int) (y_1 : Int) (K : Value → Heap → Prop) (h0 : Heap) : Prop := (
  callT Tryz.prog 90 [.int .u32 x_0] [.sc .bool] (fun (r1 : Bool) h2 =>
  br r1
  (callT Tryz.prog 90 [.int .u32 y_1] [.sc .bool] (fun (r3 : Bool) h4 =>
  br (!r3)
  (K (.bool true) h4)
  (K (.bool (decide (x_0 < y_1))) h4)) h2)
  (K (.bool (decide (x_0 < y_1))) h2)) h0)
set_option maxRecDepth 100000 in
theorem F80_eq (x_0 : Int) (y_1 : Int) (K : Value → Heap → Prop) (h0 : Heap) : funWE Tryz.prog 80 (.seq (.leaf) (.seq (.leaf) (.leaf))) [.int .u32 x_0, .int .u32 y_1] K h0 = F80 x_0 y_1 K h0 := by kernel_rfl

-- function 90
set_option maxRecDepth 100000 in
def F90 (x_0 : Int) (K : Value → Heap → Prop) (h0 : Heap) : Prop := (
  K (.bool (x_0 != x_0)) h0)
set_option maxRecDepth 100000 in
theorem F90_eq (x_0 : Int) (K : Value → Heap → Prop) (h0 : Heap) : funWE Tryz.prog 90 (.seq (.leaf) (.seq (.leaf) (.leaf))) [.int .u32 x_0] K h0 = F90 x_0 K h0 := by kernel_rfl

-- function 86
set_option maxRecDepth 100000 in
def F86 (length_0 : Int) (K : Value → Heap → Prop) (h0 : Heap) : Prop := (
  callT Tryz.prog 73 [.int .u64 (IntKind.wrap .u64 length_0)] [.sc (.int .i64)] (fun (r1 : Int) h2 =>
  ckB (decide (0 ≤ r1)) (K (.int .u64 (IntKind.wrap .u64 ((1 : Int) * 2 ^ (min (r1).toNat 64)))) h2)) h0)
set_option maxRecDepth 100000 in
theorem F86_eq (length_0 : Int) (K : Value → Heap → Prop) (h0 : Heap) : funWE Tryz.prog 86 (.seq (.leaf) (.seq (.leaf) (.leaf))) [.int .i64 length_0] K h0 = F86 length_0 K h0 := by kernel_rfl

-- function 87
set_option maxRecDepth 100000 in
def F87 (r_0 : Addr) (K : Value → Heap → Prop) (h0 : Heap) : Prop := (
  ldW (.int .u64) r_0 (fun (x1 : Int) =>
  ldW (.int .u64) r_0 (fun (x2 : Int) =>
  stW r_0 (.int .u64 (IntKind.wrap .u64 (((BitVec.ofInt 64 x1 ^^^ BitVec.ofInt 64 (IntKind.wrap .u64 (x2 * 8192))).toNat : Int)))) (fun h3 =>
  ldW (.int .u64) r_0 (fun (x4 : Int) =>
  ldW (.int .u64) r_0 (fun (x5 : Int) =>
  stW r_0 (.int .u64 (IntKind.wrap .u64 (((BitVec.ofInt 64 x4 ^^^ BitVec.ofInt 64 (Int.fdiv x5 128)).toNat : Int)))) (fun h6 =>
  ldW (.int .u64) r_0 (fun (x7 : Int) =>
  ldW (.int .u64) r_0 (fun (x8 : Int) =>
  stW r_0 (.int .u64 (IntKind.wrap .u64 (((BitVec.ofInt 64 x7 ^^^ BitVec.ofInt 64 (IntKind.wrap .u64 (x8 * 131072))).toNat : Int)))) (fun h9 =>
  ldW (.int .u64) r_0 (fun (x10 : Int) =>
  K (.int .u64 x10) h9) h9) h6) h6) h6) h3) h3) h3) h0) h0) h0)
set_option maxRecDepth 100000 in
theorem F87_eq (r_0 : Addr) (K : Value → Heap → Prop) (h0 : Heap) : funWE Tryz.prog 87 (.seq (.leaf) (.seq (.draw (odp [0, 1, 2, 3, 4, 5, 6, 7, 8, 9] .nil) []) (.seq (.draw (odp [0, 1, 2, 3, 4, 5, 6, 7, 8, 9] .nil) []) (.seq (.draw (odp [0, 1, 2, 3, 4, 5, 6, 7, 8, 9] .nil) []) (.seq (.leaf) (.leaf)))))) [.pointer (some r_0)] K h0 = F87 r_0 K h0 := by kernel_rfl

end Go.Proofs.YtfanjfbenhocnaaGreatDoor.W
