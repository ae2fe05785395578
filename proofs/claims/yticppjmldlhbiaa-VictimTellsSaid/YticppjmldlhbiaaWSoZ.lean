/-
  The formulas of the sort of zones. Each formula checked by the kernel. Printed by a program of this repo.
-/
import Derived.Test.YticppjmldlhbiaaProg
import Derived.Test.YticppjmldlhbiaaPl
namespace Go.Proofs.Yticppjmldlhbiaa.W
open Go.Pl

-- function 77
set_option maxRecDepth 100000 in
def F77 (x_0 : Option Addr) (x_0l x_0c : Nat) (cmp_1 : Value) (K : Value → Heap → Prop) (h0 : Heap) : Prop := (
  callT Try.prog 83 [.int .u64 (IntKind.wrap .u64 (((x_0l : Nat) : Int)))] [.sc (.int .i64)] (fun (r1 : Int) h2 =>
  callT Try.prog 82 [.slice x_0 x_0l x_0c, .int .i64 0, .int .i64 (((x_0l : Nat) : Int)), .int .i64 r1, cmp_1] [] (fun (_r3 : Unit) h4 =>
  K (.tuple #[]) h4) h2) h0)
set_option maxRecDepth 100000 in
theorem F77_eq (x_0 : Option Addr) (x_0l x_0c : Nat) (cmp_1 : Value) (K : Value → Heap → Prop) (h0 : Heap) : funWE Try.prog 77 (.seq (.leaf) (.leaf)) [.slice x_0 x_0l x_0c, cmp_1] K h0 = F77 x_0 x_0l x_0c cmp_1 K h0 := by kernel_rfl

-- function 82
set_option maxRecDepth 100000 in
def F82 (data_0 : Option Addr) (data_0l data_0c : Nat) (a_1 : Int) (b_2 : Int) (limit_3 : Int) (cmp_4 : Value) (K : Value → Heap → Prop) (h0 : Heap) : Prop := (
  loopT [.sc (.int .i64), .sc (.int .i64), .sc (.int .i64), .sc .bool, .sc .bool] (fun (s2 : Int × Int × Int × Bool × Bool) _ (K1 : (Int × Int × Int × Bool × Bool) → Heap → Prop) h3 =>
  br (decide ((IntKind.wrap .i64 (s2.2.1 - s2.1)) ≤ (12 : Int)))
  (callT Try.prog 84 [.slice data_0 data_0l data_0c, .int .i64 s2.1, .int .i64 s2.2.1, cmp_4] [] (fun (_r4 : Unit) h5 =>
  K (.tuple #[]) h5) h3)
  (br (s2.2.2.1 == (0 : Int))
  (callT Try.prog 85 [.slice data_0 data_0l data_0c, .int .i64 s2.1, .int .i64 s2.2.1, cmp_4] [] (fun (_r6 : Unit) h7 =>
  K (.tuple #[]) h7) h3)
  (cutT [.sc (.int .i64)] (fun (K8 : Int → Heap → Prop) h11 =>
  br (!s2.2.2.2.1)
  (callT Try.prog 86 [.slice data_0 data_0l data_0c, .int .i64 s2.1, .int .i64 s2.2.1, cmp_4] [] (fun (_r9 : Unit) h10 =>
  K8 (IntKind.wrap .i64 (s2.2.2.1 - (1 : Int))) h10) h11)
  (K8 s2.2.2.1 h11)) (fun (s12 : Int) _ h13 =>
  callT Try.prog 87 [.slice data_0 data_0l data_0c, .int .i64 s2.1, .int .i64 s2.2.1, cmp_4] [.sc (.int .i64), .sc (.int .i64)] (fun (r14 : Int × Int) h15 =>
  cutT [.sc (.int .i64), .sc (.int .i64)] (fun (K16 : (Int × Int) → Heap → Prop) h19 =>
  br (r14.2 == (2 : Int))
  (callT Try.prog 88 [.slice data_0 data_0l data_0c, .int .i64 s2.1, .int .i64 s2.2.1, cmp_4] [] (fun (_r17 : Unit) h18 =>
  K16 ((IntKind.wrap .i64 ((IntKind.wrap .i64 (s2.2.1 - (1 : Int))) - (IntKind.wrap .i64 (r14.1 - s2.1)))), (1 : Int)) h18) h19)
  (K16 (r14.1, r14.2) h19)) (fun (s20 : Int × Int) _ h21 =>
  cutT [] (fun (K22 : Unit → Heap → Prop) h29 =>
  cutT [.sc .bool] (fun (K23 : Bool → Heap → Prop) h24 =>
  br s2.2.2.2.1
  (br s2.2.2.2.2
  (K23 (s20.2 == (1 : Int)) h24)
  (K23 false h24))
  (K23 false h24)) (fun (s25 : Bool) _ h26 =>
  br s25
  (callT Try.prog 89 [.slice data_0 data_0l data_0c, .int .i64 s2.1, .int .i64 s2.2.1, cmp_4] [.sc .bool] (fun (r27 : Bool) h28 =>
  br r27
  (K (.tuple #[]) h28)
  (K22 () h28)) h26)
  (K22 () h26)) h29) (fun (_s30 : Unit) _ h31 =>
  cutT [.sc (.int .i64)] (fun (K32 : Int → Heap → Prop) h45 =>
  cutT [.sc .bool] (fun (K33 : Bool → Heap → Prop) h40 =>
  br (decide (s2.1 > (0 : Int)))
  (ptrW data_0 (fun a34 =>
  idxW (IntKind.wrap .i64 (s2.1 - (1 : Int))) data_0l true (ldAggW [.int .i64, .int .i64, .int .u32] (Addr.add a34 (Int.toNat (IntKind.wrap .i64 (s2.1 - (1 : Int))) * 3)) (fun (x35 : Int × Int × Int) =>
  ptrW data_0 (fun a36 =>
  idxW s20.1 data_0l true (ldAggW [.int .i64, .int .i64, .int .u32] (Addr.add a36 (Int.toNat s20.1 * 3)) (fun (x37 : Int × Int × Int) =>
  callW Try.prog (.sc (.int .i64)) cmp_4 [.agg #[.int .i64 x35.1, .int .i64 x35.2.1, .int .u32 x35.2.2], .agg #[.int .i64 x37.1, .int .i64 x37.2.1, .int .u32 x37.2.2]] (fun (x38 : Int) h39 =>
  K33 (!(decide (x38 < (0 : Int)))) h39) h40) h40))) h40)))
  (K33 false h40)) (fun (s41 : Bool) _ h42 =>
  br s41
  (callT Try.prog 90 [.slice data_0 data_0l data_0c, .int .i64 s2.1, .int .i64 s2.2.1, .int .i64 s20.1, cmp_4] [.sc (.int .i64)] (fun (r43 : Int) h44 =>
  K1 (r43, s2.2.1, s12, s2.2.2.2.1, s2.2.2.2.2) h44) h42)
  (K32 s2.1 h42)) h45) (fun (s46 : Int) _ h47 =>
  callT Try.prog 91 [.slice data_0 data_0l data_0c, .int .i64 s46, .int .i64 s2.2.1, .int .i64 s20.1, cmp_4] [.sc (.int .i64), .sc .bool] (fun (r48 : Int × Bool) h49 =>
  br (decide ((IntKind.wrap .i64 (r48.1 - s46)) < (IntKind.wrap .i64 (s2.2.1 - r48.1))))
  (callT Try.prog 82 [.slice data_0 data_0l data_0c, .int .i64 s46, .int .i64 r48.1, .int .i64 s12, cmp_4] [] (fun (_r50 : Unit) h51 =>
  K1 ((IntKind.wrap .i64 (r48.1 + (1 : Int))), s2.2.1, s12, (decide ((IntKind.wrap .i64 (r48.1 - s46)) ≥ (IntKind.wrap .i64 (Int.tdiv (IntKind.wrap .i64 (s2.2.1 - s2.1)) (8 : Int))))), r48.2) h51) h49)
  (callT Try.prog 82 [.slice data_0 data_0l data_0c, .int .i64 (IntKind.wrap .i64 (r48.1 + (1 : Int))), .int .i64 s2.2.1, .int .i64 s12, cmp_4] [] (fun (_r52 : Unit) h53 =>
  K1 (s46, r48.1, s12, (decide ((IntKind.wrap .i64 (s2.2.1 - r48.1)) ≥ (IntKind.wrap .i64 (Int.tdiv (IntKind.wrap .i64 (s2.2.1 - s2.1)) (8 : Int))))), r48.2) h53) h49)) h47) h31) h21) h15) h13) h3))) (a_1, b_2, limit_3, true, true) h0)
set_option maxRecDepth 100000 in
theorem F82_eq (data_0 : Option Addr) (data_0l data_0c : Nat) (a_1 : Int) (b_2 : Int) (limit_3 : Int) (cmp_4 : Value) (K : Value → Heap → Prop) (h0 : Heap) : funWE Try.prog 82 (.seq (.leaf) (.seq (.leaf) (.block (.loop [(1, .sc (.int .i64)), (2, .sc (.int .i64)), (3, .sc (.int .i64)), (10, .sc .bool), (11, .sc .bool)] (.block (.seq (.leaf) (.seq (.seq (.leaf) (.cond (.seq (.leaf) (.leaf)) (.leaf))) (.seq (.seq (.leaf) (.cond (.seq (.leaf) (.leaf)) (.leaf))) (.cut [(3, .sc (.int .i64))] (.seq (.leaf) (.cond (.seq (.leaf) (.leaf)) (.leaf))) (.seq (.leaf) (.cut [(13, .sc (.int .i64)), (14, .sc (.int .i64))] (.seq (.leaf) (.cond (.seq (.leaf) (.seq (.leaf) (.leaf))) (.leaf))) (.cut [] (.cut [(75, .sc .bool)] (.leaf) (.cond (.seq (.leaf) (.cond (.leaf) (.leaf))) (.leaf))) (.cut [(1, .sc (.int .i64))] (.cut [(97, .sc .bool)] (.draw (odp [0, 1, 2, 3, 4, 5, 6, 7, 8, 9, 10, 11, 12, 13, 14, 15, 16] .nil) []) (.cond (.seq (.leaf) (.seq (.leaf) (.leaf))) (.leaf))) (.seq (.leaf) (.seq (.leaf) (.seq (.leaf) (.seq (.leaf) (.seq (.leaf) (.cond (.seq (.leaf) (.seq (.leaf) (.leaf))) (.seq (.leaf) (.seq (.leaf) (.leaf)))))))))))))))))))))) [.slice data_0 data_0l data_0c, .int .i64 a_1, .int .i64 b_2, .int .i64 limit_3, cmp_4] K h0 = F82 data_0 data_0l data_0c a_1 b_2 limit_3 cmp_4 K h0 := by kernel_rfl

-- function 84
set_option maxRecDepth 100000 in
def F84 (data_0 : Option Addr) (data_0l _data_0c : Nat) (a_1 : Int) (b_2 : Int) (cmp_3 : Value) (K : Value → Heap → Prop) (h0 : Heap) : Prop := (
  loopT [.sc (.int .i64)] (fun (s2 : Int) _ (K1 : Int → Heap → Prop) h3 =>
  br (decide (s2 < b_2))
  (cutT [] (fun (K4 : Unit → Heap → Prop) h5 =>
  loopT [.sc (.int .i64)] (fun (s7 : Int) _ (K6 : Int → Heap → Prop) h8 =>
  cutT [] (fun (K9 : Unit → Heap → Prop) h16 =>
  br (decide (s7 > a_1))
  (ptrW data_0 (fun a10 =>
  idxW s7 data_0l true (ldAggW [.int .i64, .int .i64, .int .u32] (Addr.add a10 (Int.toNat s7 * 3)) (fun (x11 : Int × Int × Int) =>
  ptrW data_0 (fun a12 =>
  idxW (IntKind.wrap .i64 (s7 - (1 : Int))) data_0l true (ldAggW [.int .i64, .int .i64, .int .u32] (Addr.add a12 (Int.toNat (IntKind.wrap .i64 (s7 - (1 : Int))) * 3)) (fun (x13 : Int × Int × Int) =>
  callW Try.prog (.sc (.int .i64)) cmp_3 [.agg #[.int .i64 x11.1, .int .i64 x11.2.1, .int .u32 x11.2.2], .agg #[.int .i64 x13.1, .int .i64 x13.2.1, .int .u32 x13.2.2]] (fun (x14 : Int) h15 =>
  br (decide (x14 < (0 : Int)))
  (K9 () h15)
  (K4 () h15)) h16) h16))) h16)))
  (K4 () h16)) (fun (_s17 : Unit) _ h18 =>
  ptrW data_0 (fun a19 =>
  idxW (IntKind.wrap .i64 (s7 - (1 : Int))) data_0l true (ldAggW [.int .i64, .int .i64, .int .u32] (Addr.add a19 (Int.toNat (IntKind.wrap .i64 (s7 - (1 : Int))) * 3)) (fun (x20 : Int × Int × Int) =>
  ptrW data_0 (fun a21 =>
  idxW s7 data_0l true (ldAggW [.int .i64, .int .i64, .int .u32] (Addr.add a21 (Int.toNat s7 * 3)) (fun (x22 : Int × Int × Int) =>
  ptrW data_0 (fun a23 =>
  idxW s7 data_0l true (stLW (Addr.add a23 (Int.toNat s7 * 3)) [.int .i64 x20.1, .int .i64 x20.2.1, .int .u32 x20.2.2] (fun h24 =>
  ptrW data_0 (fun a25 =>
  idxW (IntKind.wrap .i64 (s7 - (1 : Int))) data_0l true (stLW (Addr.add a25 (Int.toNat (IntKind.wrap .i64 (s7 - (1 : Int))) * 3)) [.int .i64 x22.1, .int .i64 x22.2.1, .int .u32 x22.2.2] (fun h26 =>
  K6 (IntKind.wrap .i64 (s7 - (1 : Int))) h26) h24))) h18))) h18))) h18))) h8) s2 h5) (fun (_s27 : Unit) _ h28 =>
  K1 (IntKind.wrap .i64 (s2 + (1 : Int))) h28) h3)
  (K (.tuple #[]) h3)) (IntKind.wrap .i64 (a_1 + (1 : Int))) h0)
set_option maxRecDepth 100000 in
theorem F84_eq (data_0 : Option Addr) (data_0l data_0c : Nat) (a_1 : Int) (b_2 : Int) (cmp_3 : Value) (K : Value → Heap → Prop) (h0 : Heap) : funWE Try.prog 84 (.seq (.leaf) (.block (.loop [(8, .sc (.int .i64))] (.seq (.seq (.leaf) (.cond (.leaf) (.leaf))) (.seq (.bcut [] (.seq (.leaf) (.block (.loop [(9, .sc (.int .i64))] (.cut [] (.seq (.draw (odp [0, 1, 2, 3, 4, 5, 6, 7, 8, 9, 10, 11, 12, 13, 14, 15, 16] .nil) []) (.cond (.leaf) (.leaf))) (.seq (.block (.draw (odp [0, 1, 2, 3, 4, 5, 6, 7, 8, 9, 10, 11, 12, 13, 14, 15, 16, 17] .nil) [])) (.leaf))))))) (.leaf)))))) [.slice data_0 data_0l data_0c, .int .i64 a_1, .int .i64 b_2, cmp_3] K h0 = F84 data_0 data_0l data_0c a_1 b_2 cmp_3 K h0 := by kernel_rfl

-- function 85
set_option maxRecDepth 100000 in
def F85 (data_0 : Option Addr) (data_0l data_0c : Nat) (a_1 : Int) (b_2 : Int) (cmp_3 : Value) (K : Value → Heap → Prop) (h0 : Heap) : Prop := (
  loopT [.sc (.int .i64)] (fun (s2 : Int) _ (K1 : Int → Heap → Prop) h3 =>
  br (decide (s2 ≥ (0 : Int)))
  (callT Try.prog 94 [.slice data_0 data_0l data_0c, .int .i64 s2, .int .i64 (IntKind.wrap .i64 (b_2 - a_1)), .int .i64 a_1, cmp_3] [] (fun (_r4 : Unit) h5 =>
  K1 (IntKind.wrap .i64 (s2 - (1 : Int))) h5) h3)
  (loopT [.sc (.int .i64)] (fun (s7 : Int) _ (K6 : Int → Heap → Prop) h8 =>
  br (decide (s7 ≥ (0 : Int)))
  (ptrW data_0 (fun a9 =>
  idxW (IntKind.wrap .i64 (a_1 + s7)) data_0l true (ldAggW [.int .i64, .int .i64, .int .u32] (Addr.add a9 (Int.toNat (IntKind.wrap .i64 (a_1 + s7)) * 3)) (fun (x10 : Int × Int × Int) =>
  ptrW data_0 (fun a11 =>
  idxW a_1 data_0l true (ldAggW [.int .i64, .int .i64, .int .u32] (Addr.add a11 (Int.toNat a_1 * 3)) (fun (x12 : Int × Int × Int) =>
  ptrW data_0 (fun a13 =>
  idxW a_1 data_0l true (stLW (Addr.add a13 (Int.toNat a_1 * 3)) [.int .i64 x10.1, .int .i64 x10.2.1, .int .u32 x10.2.2] (fun h14 =>
  ptrW data_0 (fun a15 =>
  idxW (IntKind.wrap .i64 (a_1 + s7)) data_0l true (stLW (Addr.add a15 (Int.toNat (IntKind.wrap .i64 (a_1 + s7)) * 3)) [.int .i64 x12.1, .int .i64 x12.2.1, .int .u32 x12.2.2] (fun h16 =>
  callT Try.prog 94 [.slice data_0 data_0l data_0c, .int .i64 0, .int .i64 s7, .int .i64 a_1, cmp_3] [] (fun (_r17 : Unit) h18 =>
  K6 (IntKind.wrap .i64 (s7 - (1 : Int))) h18) h16) h14))) h8))) h8))) h8)))
  (K (.tuple #[]) h8)) (IntKind.wrap .i64 ((IntKind.wrap .i64 (b_2 - a_1)) - (1 : Int))) h3)) (IntKind.wrap .i64 (Int.tdiv (IntKind.wrap .i64 ((IntKind.wrap .i64 (b_2 - a_1)) - (1 : Int))) (2 : Int))) h0)
set_option maxRecDepth 100000 in
theorem F85_eq (data_0 : Option Addr) (data_0l data_0c : Nat) (a_1 : Int) (b_2 : Int) (cmp_3 : Value) (K : Value → Heap → Prop) (h0 : Heap) : funWE Try.prog 85 (.seq (.leaf) (.seq (.leaf) (.seq (.leaf) (.seq (.seq (.leaf) (.block (.loop [(11, .sc (.int .i64))] (.seq (.seq (.leaf) (.cond (.leaf) (.leaf))) (.seq (.block (.leaf)) (.leaf)))))) (.seq (.leaf) (.block (.loop [(12, .sc (.int .i64))] (.seq (.seq (.leaf) (.cond (.leaf) (.leaf))) (.seq (.block (.seq (.draw (odp [0, 1, 2, 3, 4, 5, 6, 7, 8, 9, 10, 11, 12, 13, 14, 15, 16, 17, 18, 19] .nil) []) (.leaf))) (.leaf)))))))))) [.slice data_0 data_0l data_0c, .int .i64 a_1, .int .i64 b_2, cmp_3] K h0 = F85 data_0 data_0l data_0c a_1 b_2 cmp_3 K h0 := by kernel_rfl

-- function 86
set_option maxRecDepth 100000 in
def F86 (data_0 : Option Addr) (data_0l _data_0c : Nat) (a_1 : Int) (b_2 : Int) (_cmp_3 : Value) (K : Value → Heap → Prop) (h0 : Heap) : Prop := (
  br (decide ((IntKind.wrap .i64 (b_2 - a_1)) ≥ (8 : Int)))
  (newW (.cells (zeroC Try.prog 138) 138) (fun a1 h2 =>
  stW a1 (.int .u64 (IntKind.wrap .u64 (IntKind.wrap .i64 (b_2 - a_1)))) (fun h3 =>
  callT Try.prog 95 [.int .i64 (IntKind.wrap .i64 (b_2 - a_1))] [.sc (.int .u64)] (fun (r4 : Int) h5 =>
  loopT [.sc (.int .i64)] (fun (s7 : Int) _ (K6 : Int → Heap → Prop) h8 =>
  br (decide (s7 ≤ (IntKind.wrap .i64 ((IntKind.wrap .i64 (a_1 + (IntKind.wrap .i64 ((IntKind.wrap .i64 (Int.tdiv (IntKind.wrap .i64 (b_2 - a_1)) (4 : Int))) * (2 : Int))))) + (1 : Int)))))
  (cutT [] (fun (K9 : Unit → Heap → Prop) h10 =>
  callT Try.prog 96 [.pointer (some a1)] [.sc (.int .u64)] (fun (r11 : Int) h12 =>
  cutT [.sc (.int .i64)] (fun (K13 : Int → Heap → Prop) h14 =>
  br (decide ((IntKind.wrap .i64 (IntKind.wrap .u64 (((BitVec.ofInt 64 r11 &&& BitVec.ofInt 64 (IntKind.wrap .u64 (r4 - (1 : Int)))).toNat : Int)))) ≥ (IntKind.wrap .i64 (b_2 - a_1))))
  (K13 (IntKind.wrap .i64 ((IntKind.wrap .i64 (IntKind.wrap .u64 (((BitVec.ofInt 64 r11 &&& BitVec.ofInt 64 (IntKind.wrap .u64 (r4 - (1 : Int)))).toNat : Int)))) - (IntKind.wrap .i64 (b_2 - a_1)))) h14)
  (K13 (IntKind.wrap .i64 (IntKind.wrap .u64 (((BitVec.ofInt 64 r11 &&& BitVec.ofInt 64 (IntKind.wrap .u64 (r4 - (1 : Int)))).toNat : Int)))) h14)) (fun (s15 : Int) _ h16 =>
  ptrW data_0 (fun a17 =>
  idxW (IntKind.wrap .i64 (a_1 + s15)) data_0l true (ldAggW [.int .i64, .int .i64, .int .u32] (Addr.add a17 (Int.toNat (IntKind.wrap .i64 (a_1 + s15)) * 3)) (fun (x18 : Int × Int × Int) =>
  ptrW data_0 (fun a19 =>
  idxW s7 data_0l true (ldAggW [.int .i64, .int .i64, .int .u32] (Addr.add a19 (Int.toNat s7 * 3)) (fun (x20 : Int × Int × Int) =>
  ptrW data_0 (fun a21 =>
  idxW s7 data_0l true (stLW (Addr.add a21 (Int.toNat s7 * 3)) [.int .i64 x18.1, .int .i64 x18.2.1, .int .u32 x18.2.2] (fun h22 =>
  ptrW data_0 (fun a23 =>
  idxW (IntKind.wrap .i64 (a_1 + s15)) data_0l true (stLW (Addr.add a23 (Int.toNat (IntKind.wrap .i64 (a_1 + s15)) * 3)) [.int .i64 x20.1, .int .i64 x20.2.1, .int .u32 x20.2.2] (fun h24 =>
  K9 () h24) h22))) h16))) h16))) h16))) h12) h10) (fun (_s25 : Unit) _ h26 =>
  K6 (IntKind.wrap .i64 (s7 + (1 : Int))) h26) h8)
  (K (.tuple #[]) h8)) (IntKind.wrap .i64 ((IntKind.wrap .i64 (a_1 + (IntKind.wrap .i64 ((IntKind.wrap .i64 (Int.tdiv (IntKind.wrap .i64 (b_2 - a_1)) (4 : Int))) * (2 : Int))))) - (1 : Int))) h5) h3) h2) h0)
  (K (.tuple #[]) h0))
set_option maxRecDepth 100000 in
theorem F86_eq (data_0 : Option Addr) (data_0l data_0c : Nat) (a_1 : Int) (b_2 : Int) (cmp_3 : Value) (K : Value → Heap → Prop) (h0 : Heap) : funWE Try.prog 86 (.seq (.leaf) (.seq (.leaf) (.cond (.seq (.leaf) (.seq (.leaf) (.seq (.leaf) (.block (.loop [(11, .sc (.int .i64))] (.seq (.seq (.leaf) (.cond (.leaf) (.leaf))) (.seq (.bcut [] (.seq (.leaf) (.cut [(12, .sc (.int .i64))] (.seq (.leaf) (.cond (.leaf) (.leaf))) (.draw (odp [0, 1, 2, 3, 4, 5, 6, 7, 8, 9, 10, 11, 12, 13, 14, 15, 16, 17, 18, 19] .nil) [])))) (.leaf)))))))) (.leaf)))) [.slice data_0 data_0l data_0c, .int .i64 a_1, .int .i64 b_2, cmp_3] K h0 = F86 data_0 data_0l data_0c a_1 b_2 cmp_3 K h0 := by kernel_rfl

-- function 87
set_option maxRecDepth 100000 in
def F87 (data_0 : Option Addr) (data_0l data_0c : Nat) (a_1 : Int) (b_2 : Int) (cmp_3 : Value) (K : Value → Heap → Prop) (h0 : Heap) : Prop := (
  newW (.cells (zeroC Try.prog 3) 3) (fun a1 h2 =>
  cutT [.sc (.int .i64)] (fun (K3 : Int → Heap → Prop) h16 =>
  br (decide ((IntKind.wrap .i64 (b_2 - a_1)) ≥ (8 : Int)))
  (cutT [.sc (.int .i64), .sc (.int .i64), .sc (.int .i64)] (fun (K4 : (Int × Int × Int) → Heap → Prop) h11 =>
  br (decide ((IntKind.wrap .i64 (b_2 - a_1)) ≥ (50 : Int)))
  (callT Try.prog 97 [.slice data_0 data_0l data_0c, .int .i64 (IntKind.wrap .i64 (a_1 + (IntKind.wrap .i64 ((IntKind.wrap .i64 (Int.tdiv (IntKind.wrap .i64 (b_2 - a_1)) (4 : Int))) * (1 : Int))))), .pointer (some a1), cmp_3] [.sc (.int .i64)] (fun (r5 : Int) h6 =>
  callT Try.prog 97 [.slice data_0 data_0l data_0c, .int .i64 (IntKind.wrap .i64 (a_1 + (IntKind.wrap .i64 ((IntKind.wrap .i64 (Int.tdiv (IntKind.wrap .i64 (b_2 - a_1)) (4 : Int))) * (2 : Int))))), .pointer (some a1), cmp_3] [.sc (.int .i64)] (fun (r7 : Int) h8 =>
  callT Try.prog 97 [.slice data_0 data_0l data_0c, .int .i64 (IntKind.wrap .i64 (a_1 + (IntKind.wrap .i64 ((IntKind.wrap .i64 (Int.tdiv (IntKind.wrap .i64 (b_2 - a_1)) (4 : Int))) * (3 : Int))))), .pointer (some a1), cmp_3] [.sc (.int .i64)] (fun (r9 : Int) h10 =>
  K4 (r5, r7, r9) h10) h8) h6) h11)
  (K4 ((IntKind.wrap .i64 (a_1 + (IntKind.wrap .i64 ((IntKind.wrap .i64 (Int.tdiv (IntKind.wrap .i64 (b_2 - a_1)) (4 : Int))) * (1 : Int))))), (IntKind.wrap .i64 (a_1 + (IntKind.wrap .i64 ((IntKind.wrap .i64 (Int.tdiv (IntKind.wrap .i64 (b_2 - a_1)) (4 : Int))) * (2 : Int))))), (IntKind.wrap .i64 (a_1 + (IntKind.wrap .i64 ((IntKind.wrap .i64 (Int.tdiv (IntKind.wrap .i64 (b_2 - a_1)) (4 : Int))) * (3 : Int)))))) h11)) (fun (s12 : Int × Int × Int) _ h13 =>
  callT Try.prog 98 [.slice data_0 data_0l data_0c, .int .i64 s12.1, .int .i64 s12.2.1, .int .i64 s12.2.2, .pointer (some a1), cmp_3] [.sc (.int .i64)] (fun (r14 : Int) h15 =>
  K3 r14 h15) h13) h16)
  (K3 (IntKind.wrap .i64 (a_1 + (IntKind.wrap .i64 ((IntKind.wrap .i64 (Int.tdiv (IntKind.wrap .i64 (b_2 - a_1)) (4 : Int))) * (2 : Int))))) h16)) (fun (s17 : Int) _ h18 =>
  ldW (.int .i64) a1 (fun (x19 : Int) =>
  br (x19 == (0 : Int))
  (K (.tuple #[.int .i64 s17, .int .i64 1]) h18)
  (br (x19 == (12 : Int))
  (K (.tuple #[.int .i64 s17, .int .i64 2]) h18)
  (K (.tuple #[.int .i64 s17, .int .i64 0]) h18))) h18) h2) h0)
set_option maxRecDepth 100000 in
theorem F87_eq (data_0 : Option Addr) (data_0l data_0c : Nat) (a_1 : Int) (b_2 : Int) (cmp_3 : Value) (K : Value → Heap → Prop) (h0 : Heap) : funWE Try.prog 87 (.seq (.leaf) (.seq (.leaf) (.seq (.leaf) (.seq (.leaf) (.seq (.leaf) (.seq (.leaf) (.cut [(13, .sc (.int .i64))] (.seq (.leaf) (.cond (.cut [(12, .sc (.int .i64)), (13, .sc (.int .i64)), (14, .sc (.int .i64))] (.seq (.leaf) (.cond (.seq (.leaf) (.seq (.leaf) (.leaf))) (.leaf))) (.leaf)) (.leaf))) (.seq (.leaf) (.block (.seq (.leaf) (.cond (.seq (.leaf) (.leaf)) (.seq (.leaf) (.cond (.seq (.leaf) (.leaf)) (.seq (.leaf) (.leaf))))))))))))))) [.slice data_0 data_0l data_0c, .int .i64 a_1, .int .i64 b_2, cmp_3] K h0 = F87 data_0 data_0l data_0c a_1 b_2 cmp_3 K h0 := by kernel_rfl

-- function 88
set_option maxRecDepth 100000 in
def F88 (data_0 : Option Addr) (data_0l _data_0c : Nat) (a_1 : Int) (b_2 : Int) (_cmp_3 : Value) (K : Value → Heap → Prop) (h0 : Heap) : Prop := (
  loopT [.sc (.int .i64), .sc (.int .i64)] (fun (s2 : Int × Int) _ (K1 : (Int × Int) → Heap → Prop) h3 =>
  br (decide (s2.1 < s2.2))
  (ptrW data_0 (fun a4 =>
  idxW s2.2 data_0l true (ldAggW [.int .i64, .int .i64, .int .u32] (Addr.add a4 (Int.toNat s2.2 * 3)) (fun (x5 : Int × Int × Int) =>
  ptrW data_0 (fun a6 =>
  idxW s2.1 data_0l true (ldAggW [.int .i64, .int .i64, .int .u32] (Addr.add a6 (Int.toNat s2.1 * 3)) (fun (x7 : Int × Int × Int) =>
  ptrW data_0 (fun a8 =>
  idxW s2.1 data_0l true (stLW (Addr.add a8 (Int.toNat s2.1 * 3)) [.int .i64 x5.1, .int .i64 x5.2.1, .int .u32 x5.2.2] (fun h9 =>
  ptrW data_0 (fun a10 =>
  idxW s2.2 data_0l true (stLW (Addr.add a10 (Int.toNat s2.2 * 3)) [.int .i64 x7.1, .int .i64 x7.2.1, .int .u32 x7.2.2] (fun h11 =>
  K1 ((IntKind.wrap .i64 (s2.1 + (1 : Int))), (IntKind.wrap .i64 (s2.2 - (1 : Int)))) h11) h9))) h3))) h3))) h3)))
  (K (.tuple #[]) h3)) (a_1, (IntKind.wrap .i64 (b_2 - (1 : Int)))) h0)
set_option maxRecDepth 100000 in
theorem F88_eq (data_0 : Option Addr) (data_0l data_0c : Nat) (a_1 : Int) (b_2 : Int) (cmp_3 : Value) (K : Value → Heap → Prop) (h0 : Heap) : funWE Try.prog 88 (.seq (.leaf) (.seq (.leaf) (.block (.loop [(8, .sc (.int .i64)), (9, .sc (.int .i64))] (.seq (.seq (.leaf) (.cond (.leaf) (.leaf))) (.block (.seq (.draw (odp [0, 1, 2, 3, 4, 5, 6, 7, 8, 9, 10, 11, 12, 13, 14, 15] .nil) []) (.seq (.leaf) (.leaf))))))))) [.slice data_0 data_0l data_0c, .int .i64 a_1, .int .i64 b_2, cmp_3] K h0 = F88 data_0 data_0l data_0c a_1 b_2 cmp_3 K h0 := by kernel_rfl

-- function 89
set_option maxRecDepth 100000 in
def F89 (data_0 : Option Addr) (data_0l _data_0c : Nat) (a_1 : Int) (b_2 : Int) (cmp_3 : Value) (K : Value → Heap → Prop) (h0 : Heap) : Prop := (
  loopT [.sc (.int .i64), .sc (.int .i64)] (fun (s2 : Int × Int) _ (K1 : (Int × Int) → Heap → Prop) h3 =>
  br (decide (s2.2 < (5 : Int)))
  (cutT [.sc (.int .i64)] (fun (K4 : Int → Heap → Prop) h5 =>
  cutT [.sc (.int .i64)] (fun (K6 : Int → Heap → Prop) h7 =>
  loopT [.sc (.int .i64)] (fun (s9 : Int) _ (K8 : Int → Heap → Prop) h10 =>
  cutT [] (fun (K11 : Unit → Heap → Prop) h18 =>
  br (decide (s9 < b_2))
  (ptrW data_0 (fun a12 =>
  idxW s9 data_0l true (ldAggW [.int .i64, .int .i64, .int .u32] (Addr.add a12 (Int.toNat s9 * 3)) (fun (x13 : Int × Int × Int) =>
  ptrW data_0 (fun a14 =>
  idxW (IntKind.wrap .i64 (s9 - (1 : Int))) data_0l true (ldAggW [.int .i64, .int .i64, .int .u32] (Addr.add a14 (Int.toNat (IntKind.wrap .i64 (s9 - (1 : Int))) * 3)) (fun (x15 : Int × Int × Int) =>
  callW Try.prog (.sc (.int .i64)) cmp_3 [.agg #[.int .i64 x13.1, .int .i64 x13.2.1, .int .u32 x13.2.2], .agg #[.int .i64 x15.1, .int .i64 x15.2.1, .int .u32 x15.2.2]] (fun (x16 : Int) h17 =>
  br (!(decide (x16 < (0 : Int))))
  (K11 () h17)
  (K6 s9 h17)) h18) h18))) h18)))
  (K6 s9 h18)) (fun (_s19 : Unit) _ h20 =>
  K8 (IntKind.wrap .i64 (s9 + (1 : Int))) h20) h10) s2.1 h7) (fun (s21 : Int) _ h22 =>
  br (s21 == b_2)
  (K (.bool true) h22)
  (br (decide ((IntKind.wrap .i64 (b_2 - a_1)) < (50 : Int)))
  (K (.bool false) h22)
  (ptrW data_0 (fun a23 =>
  idxW (IntKind.wrap .i64 (s21 - (1 : Int))) data_0l true (ldAggW [.int .i64, .int .i64, .int .u32] (Addr.add a23 (Int.toNat (IntKind.wrap .i64 (s21 - (1 : Int))) * 3)) (fun (x24 : Int × Int × Int) =>
  ptrW data_0 (fun a25 =>
  idxW s21 data_0l true (ldAggW [.int .i64, .int .i64, .int .u32] (Addr.add a25 (Int.toNat s21 * 3)) (fun (x26 : Int × Int × Int) =>
  ptrW data_0 (fun a27 =>
  idxW s21 data_0l true (stLW (Addr.add a27 (Int.toNat s21 * 3)) [.int .i64 x24.1, .int .i64 x24.2.1, .int .u32 x24.2.2] (fun h28 =>
  ptrW data_0 (fun a29 =>
  idxW (IntKind.wrap .i64 (s21 - (1 : Int))) data_0l true (stLW (Addr.add a29 (Int.toNat (IntKind.wrap .i64 (s21 - (1 : Int))) * 3)) [.int .i64 x26.1, .int .i64 x26.2.1, .int .u32 x26.2.2] (fun h30 =>
  cutT [] (fun (K31 : Unit → Heap → Prop) h49 =>
  br (decide ((IntKind.wrap .i64 (s21 - a_1)) ≥ (2 : Int)))
  (loopT [.sc (.int .i64)] (fun (s33 : Int) _ (K32 : Int → Heap → Prop) h34 =>
  br (decide (s33 ≥ (1 : Int)))
  (ptrW data_0 (fun a35 =>
  idxW s33 data_0l true (ldAggW [.int .i64, .int .i64, .int .u32] (Addr.add a35 (Int.toNat s33 * 3)) (fun (x36 : Int × Int × Int) =>
  ptrW data_0 (fun a37 =>
  idxW (IntKind.wrap .i64 (s33 - (1 : Int))) data_0l true (ldAggW [.int .i64, .int .i64, .int .u32] (Addr.add a37 (Int.toNat (IntKind.wrap .i64 (s33 - (1 : Int))) * 3)) (fun (x38 : Int × Int × Int) =>
  callW Try.prog (.sc (.int .i64)) cmp_3 [.agg #[.int .i64 x36.1, .int .i64 x36.2.1, .int .u32 x36.2.2], .agg #[.int .i64 x38.1, .int .i64 x38.2.1, .int .u32 x38.2.2]] (fun (x39 : Int) h40 =>
  br (!(decide (x39 < (0 : Int))))
  (K31 () h40)
  (ptrW data_0 (fun a41 =>
  idxW (IntKind.wrap .i64 (s33 - (1 : Int))) data_0l true (ldAggW [.int .i64, .int .i64, .int .u32] (Addr.add a41 (Int.toNat (IntKind.wrap .i64 (s33 - (1 : Int))) * 3)) (fun (x42 : Int × Int × Int) =>
  ptrW data_0 (fun a43 =>
  idxW s33 data_0l true (ldAggW [.int .i64, .int .i64, .int .u32] (Addr.add a43 (Int.toNat s33 * 3)) (fun (x44 : Int × Int × Int) =>
  ptrW data_0 (fun a45 =>
  idxW s33 data_0l true (stLW (Addr.add a45 (Int.toNat s33 * 3)) [.int .i64 x42.1, .int .i64 x42.2.1, .int .u32 x42.2.2] (fun h46 =>
  ptrW data_0 (fun a47 =>
  idxW (IntKind.wrap .i64 (s33 - (1 : Int))) data_0l true (stLW (Addr.add a47 (Int.toNat (IntKind.wrap .i64 (s33 - (1 : Int))) * 3)) [.int .i64 x44.1, .int .i64 x44.2.1, .int .u32 x44.2.2] (fun h48 =>
  K32 (IntKind.wrap .i64 (s33 - (1 : Int))) h48) h46))) h40))) h40))) h40)))) h34) h34))) h34)))
  (K31 () h34)) (IntKind.wrap .i64 (s21 - (1 : Int))) h49)
  (K31 () h49)) (fun (_s50 : Unit) _ h51 =>
  br (decide ((IntKind.wrap .i64 (b_2 - s21)) ≥ (2 : Int)))
  (loopT [.sc (.int .i64)] (fun (s53 : Int) _ (K52 : Int → Heap → Prop) h54 =>
  br (decide (s53 < b_2))
  (ptrW data_0 (fun a55 =>
  idxW s53 data_0l true (ldAggW [.int .i64, .int .i64, .int .u32] (Addr.add a55 (Int.toNat s53 * 3)) (fun (x56 : Int × Int × Int) =>
  ptrW data_0 (fun a57 =>
  idxW (IntKind.wrap .i64 (s53 - (1 : Int))) data_0l true (ldAggW [.int .i64, .int .i64, .int .u32] (Addr.add a57 (Int.toNat (IntKind.wrap .i64 (s53 - (1 : Int))) * 3)) (fun (x58 : Int × Int × Int) =>
  callW Try.prog (.sc (.int .i64)) cmp_3 [.agg #[.int .i64 x56.1, .int .i64 x56.2.1, .int .u32 x56.2.2], .agg #[.int .i64 x58.1, .int .i64 x58.2.1, .int .u32 x58.2.2]] (fun (x59 : Int) h60 =>
  br (!(decide (x59 < (0 : Int))))
  (K4 s21 h60)
  (ptrW data_0 (fun a61 =>
  idxW (IntKind.wrap .i64 (s53 - (1 : Int))) data_0l true (ldAggW [.int .i64, .int .i64, .int .u32] (Addr.add a61 (Int.toNat (IntKind.wrap .i64 (s53 - (1 : Int))) * 3)) (fun (x62 : Int × Int × Int) =>
  ptrW data_0 (fun a63 =>
  idxW s53 data_0l true (ldAggW [.int .i64, .int .i64, .int .u32] (Addr.add a63 (Int.toNat s53 * 3)) (fun (x64 : Int × Int × Int) =>
  ptrW data_0 (fun a65 =>
  idxW s53 data_0l true (stLW (Addr.add a65 (Int.toNat s53 * 3)) [.int .i64 x62.1, .int .i64 x62.2.1, .int .u32 x62.2.2] (fun h66 =>
  ptrW data_0 (fun a67 =>
  idxW (IntKind.wrap .i64 (s53 - (1 : Int))) data_0l true (stLW (Addr.add a67 (Int.toNat (IntKind.wrap .i64 (s53 - (1 : Int))) * 3)) [.int .i64 x64.1, .int .i64 x64.2.1, .int .u32 x64.2.2] (fun h68 =>
  K52 (IntKind.wrap .i64 (s53 + (1 : Int))) h68) h66))) h60))) h60))) h60)))) h54) h54))) h54)))
  (K4 s21 h54)) (IntKind.wrap .i64 (s21 + (1 : Int))) h51)
  (K4 s21 h51)) h30) h28))) h22))) h22))) h22))))) h5) (fun (s69 : Int) _ h70 =>
  K1 (s69, (IntKind.wrap .i64 (s2.2 + (1 : Int)))) h70) h3)
  (K (.bool false) h3)) ((IntKind.wrap .i64 (a_1 + (1 : Int))), (0 : Int)) h0)
set_option maxRecDepth 100000 in
theorem F89_eq (data_0 : Option Addr) (data_0l data_0c : Nat) (a_1 : Int) (b_2 : Int) (cmp_3 : Value) (K : Value → Heap → Prop) (h0 : Heap) : funWE Try.prog 89 (.seq (.leaf) (.seq (.leaf) (.seq (.seq (.leaf) (.block (.loop [(9, .sc (.int .i64)), (10, .sc (.int .i64))] (.seq (.seq (.leaf) (.cond (.leaf) (.leaf))) (.seq (.bcut [(9, .sc (.int .i64))] (.seq (.bcut [(9, .sc (.int .i64))] (.loop [(9, .sc (.int .i64))] (.cut [] (.seq (.draw (odp [0, 1, 2, 3, 4, 5, 6, 7, 8, 9, 10, 11, 12, 13, 14, 15, 16, 17] .nil) []) (.cond (.leaf) (.leaf))) (.block (.leaf))))) (.seq (.seq (.leaf) (.cond (.seq (.leaf) (.leaf)) (.leaf))) (.seq (.seq (.leaf) (.cond (.seq (.leaf) (.leaf)) (.leaf))) (.seq (.draw (odp [0, 1, 2, 3, 4, 5, 6, 7, 8, 9, 10, 11, 12, 13, 14, 15, 16, 17] .nil) []) (.cut [] (.seq (.leaf) (.cond (.seq (.leaf) (.block (.loop [(11, .sc (.int .i64))] (.seq (.seq (.leaf) (.cond (.leaf) (.leaf))) (.seq (.block (.seq (.seq (.draw (odp [0, 1, 2, 3, 4, 5, 6, 7, 8, 9, 10, 11, 12] .nil) []) (.cond (.leaf) (.leaf))) (.draw (odp [0, 1, 2, 3, 4, 5, 6, 7, 8, 9, 10, 11, 12, 13, 14, 15, 16, 17] .nil) []))) (.leaf)))))) (.leaf))) (.seq (.leaf) (.cond (.seq (.leaf) (.block (.loop [(12, .sc (.int .i64))] (.seq (.seq (.leaf) (.cond (.leaf) (.leaf))) (.seq (.block (.seq (.seq (.draw (odp [0, 1, 2, 3, 4, 5, 6, 7, 8, 9, 10, 11, 12] .nil) []) (.cond (.leaf) (.leaf))) (.draw (odp [0, 1, 2, 3, 4, 5, 6, 7, 8, 9, 10, 11, 12, 13, 14, 15, 16, 17] .nil) []))) (.leaf)))))) (.leaf))))))))) (.leaf)))))) (.seq (.leaf) (.leaf))))) [.slice data_0 data_0l data_0c, .int .i64 a_1, .int .i64 b_2, cmp_3] K h0 = F89 data_0 data_0l data_0c a_1 b_2 cmp_3 K h0 := by kernel_rfl

-- function 90
set_option maxRecDepth 100000 in
def F90 (data_0 : Option Addr) (data_0l _data_0c : Nat) (a_1 : Int) (b_2 : Int) (pivot_3 : Int) (cmp_4 : Value) (K : Value → Heap → Prop) (h0 : Heap) : Prop := (
  ptrW data_0 (fun a1 =>
  idxW pivot_3 data_0l true (ldAggW [.int .i64, .int .i64, .int .u32] (Addr.add a1 (Int.toNat pivot_3 * 3)) (fun (x2 : Int × Int × Int) =>
  ptrW data_0 (fun a3 =>
  idxW a_1 data_0l true (ldAggW [.int .i64, .int .i64, .int .u32] (Addr.add a3 (Int.toNat a_1 * 3)) (fun (x4 : Int × Int × Int) =>
  ptrW data_0 (fun a5 =>
  idxW a_1 data_0l true (stLW (Addr.add a5 (Int.toNat a_1 * 3)) [.int .i64 x2.1, .int .i64 x2.2.1, .int .u32 x2.2.2] (fun h6 =>
  ptrW data_0 (fun a7 =>
  idxW pivot_3 data_0l true (stLW (Addr.add a7 (Int.toNat pivot_3 * 3)) [.int .i64 x4.1, .int .i64 x4.2.1, .int .u32 x4.2.2] (fun h8 =>
  cutT [.sc (.int .i64)] (fun (K9 : Int → Heap → Prop) h10 =>
  loopT [.sc (.int .i64), .sc (.int .i64)] (fun (s12 : Int × Int) _ (K11 : (Int × Int) → Heap → Prop) h13 =>
  cutT [.sc (.int .i64)] (fun (K14 : Int → Heap → Prop) h15 =>
  loopT [.sc (.int .i64)] (fun (s17 : Int) _ (K16 : Int → Heap → Prop) h18 =>
  cutT [] (fun (K19 : Unit → Heap → Prop) h26 =>
  br (decide (s17 ≤ s12.2))
  (ptrW data_0 (fun a20 =>
  idxW a_1 data_0l true (ldAggW [.int .i64, .int .i64, .int .u32] (Addr.add a20 (Int.toNat a_1 * 3)) (fun (x21 : Int × Int × Int) =>
  ptrW data_0 (fun a22 =>
  idxW s17 data_0l true (ldAggW [.int .i64, .int .i64, .int .u32] (Addr.add a22 (Int.toNat s17 * 3)) (fun (x23 : Int × Int × Int) =>
  callW Try.prog (.sc (.int .i64)) cmp_4 [.agg #[.int .i64 x21.1, .int .i64 x21.2.1, .int .u32 x21.2.2], .agg #[.int .i64 x23.1, .int .i64 x23.2.1, .int .u32 x23.2.2]] (fun (x24 : Int) h25 =>
  br (!(decide (x24 < (0 : Int))))
  (K19 () h25)
  (K14 s17 h25)) h26) h26))) h26)))
  (K14 s17 h26)) (fun (_s27 : Unit) _ h28 =>
  K16 (IntKind.wrap .i64 (s17 + (1 : Int))) h28) h18) s12.1 h15) (fun (s29 : Int) _ h30 =>
  cutT [.sc (.int .i64)] (fun (K31 : Int → Heap → Prop) h32 =>
  loopT [.sc (.int .i64)] (fun (s34 : Int) _ (K33 : Int → Heap → Prop) h35 =>
  cutT [] (fun (K36 : Unit → Heap → Prop) h43 =>
  br (decide (s29 ≤ s34))
  (ptrW data_0 (fun a37 =>
  idxW a_1 data_0l true (ldAggW [.int .i64, .int .i64, .int .u32] (Addr.add a37 (Int.toNat a_1 * 3)) (fun (x38 : Int × Int × Int) =>
  ptrW data_0 (fun a39 =>
  idxW s34 data_0l true (ldAggW [.int .i64, .int .i64, .int .u32] (Addr.add a39 (Int.toNat s34 * 3)) (fun (x40 : Int × Int × Int) =>
  callW Try.prog (.sc (.int .i64)) cmp_4 [.agg #[.int .i64 x38.1, .int .i64 x38.2.1, .int .u32 x38.2.2], .agg #[.int .i64 x40.1, .int .i64 x40.2.1, .int .u32 x40.2.2]] (fun (x41 : Int) h42 =>
  br (decide (x41 < (0 : Int)))
  (K36 () h42)
  (K31 s34 h42)) h43) h43))) h43)))
  (K31 s34 h43)) (fun (_s44 : Unit) _ h45 =>
  K33 (IntKind.wrap .i64 (s34 - (1 : Int))) h45) h35) s12.2 h32) (fun (s46 : Int) _ h47 =>
  br (decide (s29 > s46))
  (K9 s29 h47)
  (ptrW data_0 (fun a48 =>
  idxW s46 data_0l true (ldAggW [.int .i64, .int .i64, .int .u32] (Addr.add a48 (Int.toNat s46 * 3)) (fun (x49 : Int × Int × Int) =>
  ptrW data_0 (fun a50 =>
  idxW s29 data_0l true (ldAggW [.int .i64, .int .i64, .int .u32] (Addr.add a50 (Int.toNat s29 * 3)) (fun (x51 : Int × Int × Int) =>
  ptrW data_0 (fun a52 =>
  idxW s29 data_0l true (stLW (Addr.add a52 (Int.toNat s29 * 3)) [.int .i64 x49.1, .int .i64 x49.2.1, .int .u32 x49.2.2] (fun h53 =>
  ptrW data_0 (fun a54 =>
  idxW s46 data_0l true (stLW (Addr.add a54 (Int.toNat s46 * 3)) [.int .i64 x51.1, .int .i64 x51.2.1, .int .u32 x51.2.2] (fun h55 =>
  K11 ((IntKind.wrap .i64 (s29 + (1 : Int))), (IntKind.wrap .i64 (s46 - (1 : Int)))) h55) h53))) h47))) h47))) h47)))) h30) h13) ((IntKind.wrap .i64 (a_1 + (1 : Int))), (IntKind.wrap .i64 (b_2 - (1 : Int)))) h10) (fun (s56 : Int) _ h57 =>
  K (.int .i64 s56) h57) h8) h6))) h0))) h0))) h0)))
set_option maxRecDepth 100000 in
theorem F90_eq (data_0 : Option Addr) (data_0l data_0c : Nat) (a_1 : Int) (b_2 : Int) (pivot_3 : Int) (cmp_4 : Value) (K : Value → Heap → Prop) (h0 : Heap) : funWE Try.prog 90 (.seq (.leaf) (.seq (.draw (odp [0, 1, 2, 3, 4, 5, 6, 7, 8, 9, 10, 11, 12, 13, 14, 15] .nil) []) (.seq (.leaf) (.seq (.bcut [(11, .sc (.int .i64))] (.loop [(11, .sc (.int .i64)), (12, .sc (.int .i64))] (.block (.seq (.bcut [(11, .sc (.int .i64))] (.loop [(11, .sc (.int .i64))] (.cut [] (.seq (.draw (odp [0, 1, 2, 3, 4, 5, 6, 7, 8, 9, 10, 11, 12, 13, 14, 15, 16] .nil) []) (.cond (.leaf) (.leaf))) (.block (.leaf))))) (.seq (.bcut [(12, .sc (.int .i64))] (.loop [(12, .sc (.int .i64))] (.cut [] (.seq (.draw (odp [0, 1, 2, 3, 4, 5, 6, 7, 8, 9, 10, 11, 12, 13, 14, 15] .nil) []) (.cond (.leaf) (.leaf))) (.block (.leaf))))) (.seq (.seq (.leaf) (.cond (.leaf) (.leaf))) (.seq (.draw (odp [0, 1, 2, 3, 4, 5, 6, 7, 8, 9, 10, 11, 12, 13, 14, 15] .nil) []) (.seq (.leaf) (.leaf))))))))) (.seq (.leaf) (.leaf)))))) [.slice data_0 data_0l data_0c, .int .i64 a_1, .int .i64 b_2, .int .i64 pivot_3, cmp_4] K h0 = F90 data_0 data_0l data_0c a_1 b_2 pivot_3 cmp_4 K h0 := by kernel_rfl

-- function 91
set_option maxRecDepth 100000 in
def F91 (data_0 : Option Addr) (data_0l _data_0c : Nat) (a_1 : Int) (b_2 : Int) (pivot_3 : Int) (cmp_4 : Value) (K : Value → Heap → Prop) (h0 : Heap) : Prop := (
  ptrW data_0 (fun a1 =>
  idxW pivot_3 data_0l true (ldAggW [.int .i64, .int .i64, .int .u32] (Addr.add a1 (Int.toNat pivot_3 * 3)) (fun (x2 : Int × Int × Int) =>
  ptrW data_0 (fun a3 =>
  idxW a_1 data_0l true (ldAggW [.int .i64, .int .i64, .int .u32] (Addr.add a3 (Int.toNat a_1 * 3)) (fun (x4 : Int × Int × Int) =>
  ptrW data_0 (fun a5 =>
  idxW a_1 data_0l true (stLW (Addr.add a5 (Int.toNat a_1 * 3)) [.int .i64 x2.1, .int .i64 x2.2.1, .int .u32 x2.2.2] (fun h6 =>
  ptrW data_0 (fun a7 =>
  idxW pivot_3 data_0l true (stLW (Addr.add a7 (Int.toNat pivot_3 * 3)) [.int .i64 x4.1, .int .i64 x4.2.1, .int .u32 x4.2.2] (fun h8 =>
  cutT [.sc (.int .i64)] (fun (K9 : Int → Heap → Prop) h10 =>
  loopT [.sc (.int .i64)] (fun (s12 : Int) _ (K11 : Int → Heap → Prop) h13 =>
  cutT [] (fun (K14 : Unit → Heap → Prop) h21 =>
  br (decide (s12 ≤ (IntKind.wrap .i64 (b_2 - (1 : Int)))))
  (ptrW data_0 (fun a15 =>
  idxW s12 data_0l true (ldAggW [.int .i64, .int .i64, .int .u32] (Addr.add a15 (Int.toNat s12 * 3)) (fun (x16 : Int × Int × Int) =>
  ptrW data_0 (fun a17 =>
  idxW a_1 data_0l true (ldAggW [.int .i64, .int .i64, .int .u32] (Addr.add a17 (Int.toNat a_1 * 3)) (fun (x18 : Int × Int × Int) =>
  callW Try.prog (.sc (.int .i64)) cmp_4 [.agg #[.int .i64 x16.1, .int .i64 x16.2.1, .int .u32 x16.2.2], .agg #[.int .i64 x18.1, .int .i64 x18.2.1, .int .u32 x18.2.2]] (fun (x19 : Int) h20 =>
  br (decide (x19 < (0 : Int)))
  (K14 () h20)
  (K9 s12 h20)) h21) h21))) h21)))
  (K9 s12 h21)) (fun (_s22 : Unit) _ h23 =>
  K11 (IntKind.wrap .i64 (s12 + (1 : Int))) h23) h13) (IntKind.wrap .i64 (a_1 + (1 : Int))) h10) (fun (s24 : Int) _ h25 =>
  cutT [.sc (.int .i64)] (fun (K26 : Int → Heap → Prop) h27 =>
  loopT [.sc (.int .i64)] (fun (s29 : Int) _ (K28 : Int → Heap → Prop) h30 =>
  cutT [] (fun (K31 : Unit → Heap → Prop) h38 =>
  br (decide (s24 ≤ s29))
  (ptrW data_0 (fun a32 =>
  idxW s29 data_0l true (ldAggW [.int .i64, .int .i64, .int .u32] (Addr.add a32 (Int.toNat s29 * 3)) (fun (x33 : Int × Int × Int) =>
  ptrW data_0 (fun a34 =>
  idxW a_1 data_0l true (ldAggW [.int .i64, .int .i64, .int .u32] (Addr.add a34 (Int.toNat a_1 * 3)) (fun (x35 : Int × Int × Int) =>
  callW Try.prog (.sc (.int .i64)) cmp_4 [.agg #[.int .i64 x33.1, .int .i64 x33.2.1, .int .u32 x33.2.2], .agg #[.int .i64 x35.1, .int .i64 x35.2.1, .int .u32 x35.2.2]] (fun (x36 : Int) h37 =>
  br (!(decide (x36 < (0 : Int))))
  (K31 () h37)
  (K26 s29 h37)) h38) h38))) h38)))
  (K26 s29 h38)) (fun (_s39 : Unit) _ h40 =>
  K28 (IntKind.wrap .i64 (s29 - (1 : Int))) h40) h30) (IntKind.wrap .i64 (b_2 - (1 : Int))) h27) (fun (s41 : Int) _ h42 =>
  br (decide (s24 > s41))
  (ptrW data_0 (fun a43 =>
  idxW a_1 data_0l true (ldAggW [.int .i64, .int .i64, .int .u32] (Addr.add a43 (Int.toNat a_1 * 3)) (fun (x44 : Int × Int × Int) =>
  ptrW data_0 (fun a45 =>
  idxW s41 data_0l true (ldAggW [.int .i64, .int .i64, .int .u32] (Addr.add a45 (Int.toNat s41 * 3)) (fun (x46 : Int × Int × Int) =>
  ptrW data_0 (fun a47 =>
  idxW s41 data_0l true (stLW (Addr.add a47 (Int.toNat s41 * 3)) [.int .i64 x44.1, .int .i64 x44.2.1, .int .u32 x44.2.2] (fun h48 =>
  ptrW data_0 (fun a49 =>
  idxW a_1 data_0l true (stLW (Addr.add a49 (Int.toNat a_1 * 3)) [.int .i64 x46.1, .int .i64 x46.2.1, .int .u32 x46.2.2] (fun h50 =>
  K (.tuple #[.int .i64 s41, .bool true]) h50) h48))) h42))) h42))) h42)))
  (ptrW data_0 (fun a51 =>
  idxW s41 data_0l true (ldAggW [.int .i64, .int .i64, .int .u32] (Addr.add a51 (Int.toNat s41 * 3)) (fun (x52 : Int × Int × Int) =>
  ptrW data_0 (fun a53 =>
  idxW s24 data_0l true (ldAggW [.int .i64, .int .i64, .int .u32] (Addr.add a53 (Int.toNat s24 * 3)) (fun (x54 : Int × Int × Int) =>
  ptrW data_0 (fun a55 =>
  idxW s24 data_0l true (stLW (Addr.add a55 (Int.toNat s24 * 3)) [.int .i64 x52.1, .int .i64 x52.2.1, .int .u32 x52.2.2] (fun h56 =>
  ptrW data_0 (fun a57 =>
  idxW s41 data_0l true (stLW (Addr.add a57 (Int.toNat s41 * 3)) [.int .i64 x54.1, .int .i64 x54.2.1, .int .u32 x54.2.2] (fun h58 =>
  cutT [.sc (.int .i64)] (fun (K59 : Int → Heap → Prop) h60 =>
  loopT [.sc (.int .i64), .sc (.int .i64)] (fun (s62 : Int × Int) _ (K61 : (Int × Int) → Heap → Prop) h63 =>
  cutT [.sc (.int .i64)] (fun (K64 : Int → Heap → Prop) h65 =>
  loopT [.sc (.int .i64)] (fun (s67 : Int) _ (K66 : Int → Heap → Prop) h68 =>
  cutT [] (fun (K69 : Unit → Heap → Prop) h76 =>
  br (decide (s67 ≤ s62.2))
  (ptrW data_0 (fun a70 =>
  idxW s67 data_0l true (ldAggW [.int .i64, .int .i64, .int .u32] (Addr.add a70 (Int.toNat s67 * 3)) (fun (x71 : Int × Int × Int) =>
  ptrW data_0 (fun a72 =>
  idxW a_1 data_0l true (ldAggW [.int .i64, .int .i64, .int .u32] (Addr.add a72 (Int.toNat a_1 * 3)) (fun (x73 : Int × Int × Int) =>
  callW Try.prog (.sc (.int .i64)) cmp_4 [.agg #[.int .i64 x71.1, .int .i64 x71.2.1, .int .u32 x71.2.2], .agg #[.int .i64 x73.1, .int .i64 x73.2.1, .int .u32 x73.2.2]] (fun (x74 : Int) h75 =>
  br (decide (x74 < (0 : Int)))
  (K69 () h75)
  (K64 s67 h75)) h76) h76))) h76)))
  (K64 s67 h76)) (fun (_s77 : Unit) _ h78 =>
  K66 (IntKind.wrap .i64 (s67 + (1 : Int))) h78) h68) s62.1 h65) (fun (s79 : Int) _ h80 =>
  cutT [.sc (.int .i64)] (fun (K81 : Int → Heap → Prop) h82 =>
  loopT [.sc (.int .i64)] (fun (s84 : Int) _ (K83 : Int → Heap → Prop) h85 =>
  cutT [] (fun (K86 : Unit → Heap → Prop) h93 =>
  br (decide (s79 ≤ s84))
  (ptrW data_0 (fun a87 =>
  idxW s84 data_0l true (ldAggW [.int .i64, .int .i64, .int .u32] (Addr.add a87 (Int.toNat s84 * 3)) (fun (x88 : Int × Int × Int) =>
  ptrW data_0 (fun a89 =>
  idxW a_1 data_0l true (ldAggW [.int .i64, .int .i64, .int .u32] (Addr.add a89 (Int.toNat a_1 * 3)) (fun (x90 : Int × Int × Int) =>
  callW Try.prog (.sc (.int .i64)) cmp_4 [.agg #[.int .i64 x88.1, .int .i64 x88.2.1, .int .u32 x88.2.2], .agg #[.int .i64 x90.1, .int .i64 x90.2.1, .int .u32 x90.2.2]] (fun (x91 : Int) h92 =>
  br (!(decide (x91 < (0 : Int))))
  (K86 () h92)
  (K81 s84 h92)) h93) h93))) h93)))
  (K81 s84 h93)) (fun (_s94 : Unit) _ h95 =>
  K83 (IntKind.wrap .i64 (s84 - (1 : Int))) h95) h85) s62.2 h82) (fun (s96 : Int) _ h97 =>
  br (decide (s79 > s96))
  (K59 s96 h97)
  (ptrW data_0 (fun a98 =>
  idxW s96 data_0l true (ldAggW [.int .i64, .int .i64, .int .u32] (Addr.add a98 (Int.toNat s96 * 3)) (fun (x99 : Int × Int × Int) =>
  ptrW data_0 (fun a100 =>
  idxW s79 data_0l true (ldAggW [.int .i64, .int .i64, .int .u32] (Addr.add a100 (Int.toNat s79 * 3)) (fun (x101 : Int × Int × Int) =>
  ptrW data_0 (fun a102 =>
  idxW s79 data_0l true (stLW (Addr.add a102 (Int.toNat s79 * 3)) [.int .i64 x99.1, .int .i64 x99.2.1, .int .u32 x99.2.2] (fun h103 =>
  ptrW data_0 (fun a104 =>
  idxW s96 data_0l true (stLW (Addr.add a104 (Int.toNat s96 * 3)) [.int .i64 x101.1, .int .i64 x101.2.1, .int .u32 x101.2.2] (fun h105 =>
  K61 ((IntKind.wrap .i64 (s79 + (1 : Int))), (IntKind.wrap .i64 (s96 - (1 : Int)))) h105) h103))) h97))) h97))) h97)))) h80) h63) ((IntKind.wrap .i64 (s24 + (1 : Int))), (IntKind.wrap .i64 (s41 - (1 : Int)))) h60) (fun (s106 : Int) _ h107 =>
  ptrW data_0 (fun a108 =>
  idxW a_1 data_0l true (ldAggW [.int .i64, .int .i64, .int .u32] (Addr.add a108 (Int.toNat a_1 * 3)) (fun (x109 : Int × Int × Int) =>
  ptrW data_0 (fun a110 =>
  idxW s106 data_0l true (ldAggW [.int .i64, .int .i64, .int .u32] (Addr.add a110 (Int.toNat s106 * 3)) (fun (x111 : Int × Int × Int) =>
  ptrW data_0 (fun a112 =>
  idxW s106 data_0l true (stLW (Addr.add a112 (Int.toNat s106 * 3)) [.int .i64 x109.1, .int .i64 x109.2.1, .int .u32 x109.2.2] (fun h113 =>
  ptrW data_0 (fun a114 =>
  idxW a_1 data_0l true (stLW (Addr.add a114 (Int.toNat a_1 * 3)) [.int .i64 x111.1, .int .i64 x111.2.1, .int .u32 x111.2.2] (fun h115 =>
  K (.tuple #[.int .i64 s106, .bool false]) h115) h113))) h107))) h107))) h107))) h58) h56))) h42))) h42))) h42)))) h25) h8) h6))) h0))) h0))) h0)))
set_option maxRecDepth 100000 in
theorem F91_eq (data_0 : Option Addr) (data_0l data_0c : Nat) (a_1 : Int) (b_2 : Int) (pivot_3 : Int) (cmp_4 : Value) (K : Value → Heap → Prop) (h0 : Heap) : funWE Try.prog 91 (.seq (.leaf) (.seq (.draw (odp [0, 1, 2, 3, 4, 5, 6, 7, 8, 9, 10, 11, 12, 13, 14, 15] .nil) []) (.seq (.leaf) (.seq (.bcut [(12, .sc (.int .i64))] (.loop [(12, .sc (.int .i64))] (.cut [] (.seq (.draw (odp [0, 1, 2, 3, 4, 5, 6, 7, 8, 9, 10, 11, 12, 13, 14, 15] .nil) []) (.cond (.leaf) (.leaf))) (.block (.leaf))))) (.seq (.bcut [(13, .sc (.int .i64))] (.loop [(13, .sc (.int .i64))] (.cut [] (.seq (.draw (odp [0, 1, 2, 3, 4, 5, 6, 7, 8, 9, 10, 11, 12, 13, 14, 15, 16] .nil) []) (.cond (.leaf) (.leaf))) (.block (.leaf))))) (.seq (.seq (.leaf) (.cond (.seq (.draw (odp [0, 1, 2, 3, 4, 5, 6, 7, 8, 9, 10, 11, 12, 13, 14, 15] .nil) []) (.seq (.leaf) (.leaf))) (.leaf))) (.seq (.draw (odp [0, 1, 2, 3, 4, 5, 6, 7, 8, 9, 10, 11, 12, 13, 14, 15] .nil) []) (.seq (.leaf) (.seq (.leaf) (.seq (.bcut [(13, .sc (.int .i64))] (.loop [(12, .sc (.int .i64)), (13, .sc (.int .i64))] (.block (.seq (.bcut [(12, .sc (.int .i64))] (.loop [(12, .sc (.int .i64))] (.cut [] (.seq (.draw (odp [0, 1, 2, 3, 4, 5, 6, 7, 8, 9, 10, 11, 12, 13, 14, 15] .nil) []) (.cond (.leaf) (.leaf))) (.block (.leaf))))) (.seq (.bcut [(13, .sc (.int .i64))] (.loop [(13, .sc (.int .i64))] (.cut [] (.seq (.draw (odp [0, 1, 2, 3, 4, 5, 6, 7, 8, 9, 10, 11, 12, 13, 14, 15, 16] .nil) []) (.cond (.leaf) (.leaf))) (.block (.leaf))))) (.seq (.seq (.leaf) (.cond (.leaf) (.leaf))) (.seq (.draw (odp [0, 1, 2, 3, 4, 5, 6, 7, 8, 9, 10, 11, 12, 13, 14, 15] .nil) []) (.seq (.leaf) (.leaf))))))))) (.seq (.draw (odp [0, 1, 2, 3, 4, 5, 6, 7, 8, 9, 10, 11, 12, 13, 14, 15] .nil) []) (.seq (.leaf) (.leaf))))))))))))) [.slice data_0 data_0l data_0c, .int .i64 a_1, .int .i64 b_2, .int .i64 pivot_3, cmp_4] K h0 = F91 data_0 data_0l data_0c a_1 b_2 pivot_3 cmp_4 K h0 := by kernel_rfl

-- function 94
set_option maxRecDepth 100000 in
def F94 (data_0 : Option Addr) (data_0l _data_0c : Nat) (lo_1 : Int) (hi_2 : Int) (first_3 : Int) (cmp_4 : Value) (K : Value → Heap → Prop) (h0 : Heap) : Prop := (
  loopT [.sc (.int .i64)] (fun (s2 : Int) _ (K1 : Int → Heap → Prop) h3 =>
  br (decide ((IntKind.wrap .i64 ((IntKind.wrap .i64 ((2 : Int) * s2)) + (1 : Int))) ≥ hi_2))
  (K (.tuple #[]) h3)
  (cutT [.sc (.int .i64)] (fun (K4 : Int → Heap → Prop) h15 =>
  cutT [.sc .bool] (fun (K5 : Bool → Heap → Prop) h12 =>
  br (decide ((IntKind.wrap .i64 ((IntKind.wrap .i64 ((IntKind.wrap .i64 ((2 : Int) * s2)) + (1 : Int))) + (1 : Int))) < hi_2))
  (ptrW data_0 (fun a6 =>
  idxW (IntKind.wrap .i64 (first_3 + (IntKind.wrap .i64 ((IntKind.wrap .i64 ((2 : Int) * s2)) + (1 : Int))))) data_0l true (ldAggW [.int .i64, .int .i64, .int .u32] (Addr.add a6 (Int.toNat (IntKind.wrap .i64 (first_3 + (IntKind.wrap .i64 ((IntKind.wrap .i64 ((2 : Int) * s2)) + (1 : Int))))) * 3)) (fun (x7 : Int × Int × Int) =>
  ptrW data_0 (fun a8 =>
  idxW (IntKind.wrap .i64 ((IntKind.wrap .i64 (first_3 + (IntKind.wrap .i64 ((IntKind.wrap .i64 ((2 : Int) * s2)) + (1 : Int))))) + (1 : Int))) data_0l true (ldAggW [.int .i64, .int .i64, .int .u32] (Addr.add a8 (Int.toNat (IntKind.wrap .i64 ((IntKind.wrap .i64 (first_3 + (IntKind.wrap .i64 ((IntKind.wrap .i64 ((2 : Int) * s2)) + (1 : Int))))) + (1 : Int))) * 3)) (fun (x9 : Int × Int × Int) =>
  callW Try.prog (.sc (.int .i64)) cmp_4 [.agg #[.int .i64 x7.1, .int .i64 x7.2.1, .int .u32 x7.2.2], .agg #[.int .i64 x9.1, .int .i64 x9.2.1, .int .u32 x9.2.2]] (fun (x10 : Int) h11 =>
  K5 (decide (x10 < (0 : Int))) h11) h12) h12))) h12)))
  (K5 false h12)) (fun (s13 : Bool) _ h14 =>
  br s13
  (K4 (IntKind.wrap .i64 ((IntKind.wrap .i64 ((IntKind.wrap .i64 ((2 : Int) * s2)) + (1 : Int))) + (1 : Int))) h14)
  (K4 (IntKind.wrap .i64 ((IntKind.wrap .i64 ((2 : Int) * s2)) + (1 : Int))) h14)) h15) (fun (s16 : Int) _ h17 =>
  ptrW data_0 (fun a18 =>
  idxW (IntKind.wrap .i64 (first_3 + s2)) data_0l true (ldAggW [.int .i64, .int .i64, .int .u32] (Addr.add a18 (Int.toNat (IntKind.wrap .i64 (first_3 + s2)) * 3)) (fun (x19 : Int × Int × Int) =>
  ptrW data_0 (fun a20 =>
  idxW (IntKind.wrap .i64 (first_3 + s16)) data_0l true (ldAggW [.int .i64, .int .i64, .int .u32] (Addr.add a20 (Int.toNat (IntKind.wrap .i64 (first_3 + s16)) * 3)) (fun (x21 : Int × Int × Int) =>
  callW Try.prog (.sc (.int .i64)) cmp_4 [.agg #[.int .i64 x19.1, .int .i64 x19.2.1, .int .u32 x19.2.2], .agg #[.int .i64 x21.1, .int .i64 x21.2.1, .int .u32 x21.2.2]] (fun (x22 : Int) h23 =>
  br (!(decide (x22 < (0 : Int))))
  (K (.tuple #[]) h23)
  (ptrW data_0 (fun a24 =>
  idxW (IntKind.wrap .i64 (first_3 + s16)) data_0l true (ldAggW [.int .i64, .int .i64, .int .u32] (Addr.add a24 (Int.toNat (IntKind.wrap .i64 (first_3 + s16)) * 3)) (fun (x25 : Int × Int × Int) =>
  ptrW data_0 (fun a26 =>
  idxW (IntKind.wrap .i64 (first_3 + s2)) data_0l true (ldAggW [.int .i64, .int .i64, .int .u32] (Addr.add a26 (Int.toNat (IntKind.wrap .i64 (first_3 + s2)) * 3)) (fun (x27 : Int × Int × Int) =>
  ptrW data_0 (fun a28 =>
  idxW (IntKind.wrap .i64 (first_3 + s2)) data_0l true (stLW (Addr.add a28 (Int.toNat (IntKind.wrap .i64 (first_3 + s2)) * 3)) [.int .i64 x25.1, .int .i64 x25.2.1, .int .u32 x25.2.2] (fun h29 =>
  ptrW data_0 (fun a30 =>
  idxW (IntKind.wrap .i64 (first_3 + s16)) data_0l true (stLW (Addr.add a30 (Int.toNat (IntKind.wrap .i64 (first_3 + s16)) * 3)) [.int .i64 x27.1, .int .i64 x27.2.1, .int .u32 x27.2.2] (fun h31 =>
  K1 s16 h31) h29))) h23))) h23))) h23)))) h17) h17))) h17))) h3)) lo_1 h0)
set_option maxRecDepth 100000 in
theorem F94_eq (data_0 : Option Addr) (data_0l data_0c : Nat) (lo_1 : Int) (hi_2 : Int) (first_3 : Int) (cmp_4 : Value) (K : Value → Heap → Prop) (h0 : Heap) : funWE Try.prog 94 (.seq (.leaf) (.block (.loop [(10, .sc (.int .i64))] (.block (.seq (.leaf) (.seq (.seq (.leaf) (.cond (.leaf) (.leaf))) (.cut [(11, .sc (.int .i64))] (.cut [(40, .sc .bool)] (.draw (odp [0, 1, 2, 3, 4, 5, 6, 7, 8, 9, 10, 11, 12, 13, 14, 15, 16, 17, 18, 19, 20, 21] .nil) []) (.cond (.leaf) (.leaf))) (.seq (.seq (.draw (odp [0, 1, 2, 3, 4, 5, 6, 7, 8, 9, 10, 11, 12, 13, 14, 15] .nil) []) (.cond (.leaf) (.leaf))) (.seq (.draw (odp [0, 1, 2, 3, 4, 5, 6, 7, 8, 9, 10, 11, 12, 13, 14, 15, 16, 17, 18, 19, 20, 21, 22, 23] .nil) []) (.leaf)))))))))) [.slice data_0 data_0l data_0c, .int .i64 lo_1, .int .i64 hi_2, .int .i64 first_3, cmp_4] K h0 = F94 data_0 data_0l data_0c lo_1 hi_2 first_3 cmp_4 K h0 := by kernel_rfl

-- function 97
set_option maxRecDepth 100000 in
def F97 (data_0 : Option Addr) (data_0l data_0c : Nat) (a_1 : Int) (swaps_2 : Addr) (cmp_3 : Value) (K : Value → Heap → Prop) (h0 : Heap) : Prop := (
  callT Try.prog 98 [.slice data_0 data_0l data_0c, .int .i64 (IntKind.wrap .i64 (a_1 - (1 : Int))), .int .i64 a_1, .int .i64 (IntKind.wrap .i64 (a_1 + (1 : Int))), .pointer (some swaps_2), cmp_3] [.sc (.int .i64)] (fun (r1 : Int) h2 =>
  K (.int .i64 r1) h2) h0)
set_option maxRecDepth 100000 in
theorem F97_eq (data_0 : Option Addr) (data_0l data_0c : Nat) (a_1 : Int) (swaps_2 : Addr) (cmp_3 : Value) (K : Value → Heap → Prop) (h0 : Heap) : funWE Try.prog 97 (.seq (.leaf) (.seq (.leaf) (.leaf))) [.slice data_0 data_0l data_0c, .int .i64 a_1, .pointer (some swaps_2), cmp_3] K h0 = F97 data_0 data_0l data_0c a_1 swaps_2 cmp_3 K h0 := by kernel_rfl

-- function 98
set_option maxRecDepth 100000 in
def F98 (data_0 : Option Addr) (data_0l data_0c : Nat) (a_1 : Int) (b_2 : Int) (c_3 : Int) (swaps_4 : Addr) (cmp_5 : Value) (K : Value → Heap → Prop) (h0 : Heap) : Prop := (
  callT Try.prog 99 [.slice data_0 data_0l data_0c, .int .i64 a_1, .int .i64 b_2, .pointer (some swaps_4), cmp_5] [.sc (.int .i64), .sc (.int .i64)] (fun (r1 : Int × Int) h2 =>
  callT Try.prog 99 [.slice data_0 data_0l data_0c, .int .i64 r1.2, .int .i64 c_3, .pointer (some swaps_4), cmp_5] [.sc (.int .i64), .sc (.int .i64)] (fun (r3 : Int × Int) h4 =>
  callT Try.prog 99 [.slice data_0 data_0l data_0c, .int .i64 r1.1, .int .i64 r3.1, .pointer (some swaps_4), cmp_5] [.sc (.int .i64), .sc (.int .i64)] (fun (r5 : Int × Int) h6 =>
  K (.int .i64 r5.2) h6) h4) h2) h0)
set_option maxRecDepth 100000 in
theorem F98_eq (data_0 : Option Addr) (data_0l data_0c : Nat) (a_1 : Int) (b_2 : Int) (c_3 : Int) (swaps_4 : Addr) (cmp_5 : Value) (K : Value → Heap → Prop) (h0 : Heap) : funWE Try.prog 98 (.seq (.leaf) (.seq (.leaf) (.seq (.leaf) (.seq (.leaf) (.seq (.leaf) (.leaf)))))) [.slice data_0 data_0l data_0c, .int .i64 a_1, .int .i64 b_2, .int .i64 c_3, .pointer (some swaps_4), cmp_5] K h0 = F98 data_0 data_0l data_0c a_1 b_2 c_3 swaps_4 cmp_5 K h0 := by kernel_rfl

-- function 99
set_option maxRecDepth 100000 in
def F99 (data_0 : Option Addr) (data_0l _data_0c : Nat) (a_1 : Int) (b_2 : Int) (swaps_3 : Addr) (cmp_4 : Value) (K : Value → Heap → Prop) (h0 : Heap) : Prop := (
  ptrW data_0 (fun a1 =>
  idxW b_2 data_0l true (ldAggW [.int .i64, .int .i64, .int .u32] (Addr.add a1 (Int.toNat b_2 * 3)) (fun (x2 : Int × Int × Int) =>
  ptrW data_0 (fun a3 =>
  idxW a_1 data_0l true (ldAggW [.int .i64, .int .i64, .int .u32] (Addr.add a3 (Int.toNat a_1 * 3)) (fun (x4 : Int × Int × Int) =>
  callW Try.prog (.sc (.int .i64)) cmp_4 [.agg #[.int .i64 x2.1, .int .i64 x2.2.1, .int .u32 x2.2.2], .agg #[.int .i64 x4.1, .int .i64 x4.2.1, .int .u32 x4.2.2]] (fun (x5 : Int) h6 =>
  br (decide (x5 < (0 : Int)))
  (ldW (.int .i64) swaps_3 (fun (x7 : Int) =>
  stW swaps_3 (.int .i64 (IntKind.wrap .i64 (x7 + (1 : Int)))) (fun h8 =>
  K (.tuple #[.int .i64 b_2, .int .i64 a_1]) h8) h6) h6)
  (K (.tuple #[.int .i64 a_1, .int .i64 b_2]) h6)) h0) h0))) h0)))
set_option maxRecDepth 100000 in
theorem F99_eq (data_0 : Option Addr) (data_0l data_0c : Nat) (a_1 : Int) (b_2 : Int) (swaps_3 : Addr) (cmp_4 : Value) (K : Value → Heap → Prop) (h0 : Heap) : funWE Try.prog 99 (.seq (.leaf) (.seq (.seq (.draw (odp [0, 1, 2, 3, 4, 5, 6, 7, 8, 9, 10] .nil) []) (.cond (.seq (.leaf) (.seq (.leaf) (.leaf))) (.leaf))) (.seq (.leaf) (.leaf)))) [.slice data_0 data_0l data_0c, .int .i64 a_1, .int .i64 b_2, .pointer (some swaps_3), cmp_4] K h0 = F99 data_0 data_0l data_0c a_1 b_2 swaps_3 cmp_4 K h0 := by kernel_rfl

-- function 95
set_option maxRecDepth 100000 in
def F95 (length_0 : Int) (K : Value → Heap → Prop) (h0 : Heap) : Prop := (
  callT Try.prog 83 [.int .u64 (IntKind.wrap .u64 length_0)] [.sc (.int .i64)] (fun (r1 : Int) h2 =>
  ckB (decide (0 ≤ r1)) (K (.int .u64 (IntKind.wrap .u64 ((1 : Int) * 2 ^ (min (r1).toNat 64)))) h2)) h0)
set_option maxRecDepth 100000 in
theorem F95_eq (length_0 : Int) (K : Value → Heap → Prop) (h0 : Heap) : funWE Try.prog 95 (.seq (.leaf) (.seq (.leaf) (.leaf))) [.int .i64 length_0] K h0 = F95 length_0 K h0 := by kernel_rfl

-- function 96
set_option maxRecDepth 100000 in
def F96 (r_0 : Addr) (K : Value → Heap → Prop) (h0 : Heap) : Prop := (
  ldW (.int .u64) r_0 (fun (x1 : Int) =>
  ldW (.int .u64) r_0 (fun (x2 : Int) =>
  stW r_0 (.int .u64 (IntKind.wrap .u64 (((BitVec.ofInt 64 x1 ^^^ BitVec.ofInt 64 (IntKind.wrap .u64 (x2 * 8192))).toNat : Int)))) (fun h3 =>
  ldW (.int .u64) r_0 (fun (x4 : Int) =>
  ldW (.int .u64) r_0 (fun (x5 : Int) =>
  stW r_0 (.int .u64 (IntKind.wrap .u64 (((BitVec.ofInt 64 x4 ^^^ BitVec.ofInt 64 (Int.fdiv x5 128)).toNat : Int)))) (fun h6 =>
  ldW (.int .u64) r_0 (fun (x7 : Int) =>
  ldW (.int .u64) r_0 (fun (x8 : Int) =>
  stW r_0 (.int .u64 (IntKind.wrap .u64 (((BitVec.ofInt 64 x7 ^^^ BitVec.ofInt 64 (IntKind.wrap .u64 (x8 * 131072))).toNat : Int)))) (fun h9 =>
  ldW (.int .u64) r_0 (fun (x10 : Int) =>
  K (.int .u64 x10) h9) h9) h6) h6) h6) h3) h3) h3) h0) h0) h0)
set_option maxRecDepth 100000 in
theorem F96_eq (r_0 : Addr) (K : Value → Heap → Prop) (h0 : Heap) : funWE Try.prog 96 (.seq (.leaf) (.seq (.draw (odp [0, 1, 2, 3, 4, 5, 6, 7, 8, 9] .nil) []) (.seq (.draw (odp [0, 1, 2, 3, 4, 5, 6, 7, 8, 9] .nil) []) (.seq (.draw (odp [0, 1, 2, 3, 4, 5, 6, 7, 8, 9] .nil) []) (.seq (.leaf) (.leaf)))))) [.pointer (some r_0)] K h0 = F96 r_0 K h0 := by kernel_rfl

end Go.Proofs.Yticppjmldlhbiaa.W
