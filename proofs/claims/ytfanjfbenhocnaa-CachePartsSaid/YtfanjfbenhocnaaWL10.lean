/-
  The formulas of the laws of cache. Each formula checked by the kernel. Printed by a program of this repo.
-/
import Derived.Test.YtfanjfbenhocnaaProg
import Derived.Test.YtfanjfbenhocnaaPl
namespace Go.Proofs.Ytfanjfbenhocnaa.W
open Go.Pl

-- function 28
set_option maxRecDepth 100000 in
def F28  (K : Value → Heap → Prop) (h0 : Heap) : Prop := (
  callT Try.prog 29 [.int .i64 2] [.sc .ptr, .sc .any] (fun (r1 : (Option Addr) × Value) h2 =>
  cutT [] (fun (K3 : Unit → Heap → Prop) h4 =>
  br (Option.isNone r1.1)
  (K (.bool false) h4)
  (ifW r1.2 (br (!(isNilV r1.2))
  (K (.bool false) h4)
  (K3 () h4)))) (fun (_s5 : Unit) _ h6 =>
  cutT [.sc .bool] (fun (K7 : Bool → Heap → Prop) h14 =>
  callT Try.prog 46 [.pointer r1.1, .int .i64 5, .int .u32 9, .bool true] [.sc .bool] (fun (r8 : Bool) h9 =>
  br r8
  (callT Try.prog 46 [.pointer r1.1, .int .i64 0, .int .u32 7, .bool false] [.sc .bool] (fun (r10 : Bool) h11 =>
  br r10
  (callT Try.prog 46 [.pointer r1.1, .int .i64 1, .int .u32 1, .bool false] [.sc .bool] (fun (r12 : Bool) h13 =>
  K7 (!r12) h13) h11)
  (K7 false h11)) h9)
  (K7 false h9)) h14) (fun (s15 : Bool) _ h16 =>
  callT Try.prog 30 [.pointer r1.1] [.agg [.int .i64, .int .u32, .bool], .sc .bool] (fun (r17 : (Int × Int × Bool) × Bool) h18 =>
  newW (.cells (zeroC Try.prog 65) 65) (fun a19 h20 =>
  stLW a19 [.int .i64 r17.1.1, .int .u32 r17.1.2.1, .bool r17.1.2.2] (fun h21 =>
  callT Try.prog 32 [.pointer r1.1, .int .i64 5] [.sc (.int .u32), .sc .bool] (fun (r22 : Int × Bool) h23 =>
  callT Try.prog 35 [.pointer r1.1] [.sc .slice] (fun (r24 : (Option Addr × Nat × Nat)) h25 =>
  callT Try.prog 33 [.pointer r1.1, .int .i64 1] [.sc .slice] (fun (r26 : (Option Addr × Nat × Nat)) h27 =>
  br s15
  (ldAggW [.int .i64, .int .u32, .bool] a19 (fun (x28 : Int × Int × Bool) =>
  eqGen Try.prog 65 (.agg #[.int .i64 x28.1, .int .u32 x28.2.1, .bool x28.2.2]) (.agg #[.int .i64 5, .int .u32 9, .bool true]) (fun b29 =>
  br b29
  (br r17.2
  (br (r22.1 == (9 : Int))
  (br r22.2
  (newW (.cells #[.int .i64 1] 3) (fun a30 h31 =>
  callT Try.prog 25 [.slice r24.1 r24.2.1 r24.2.2, .slice (some a30) 1 1] [.sc .bool] (fun (r32 : Bool) h33 =>
  br r32
  (br ((((r26.2.1 : Nat) : Int)) == (1 : Int))
  (callT Try.prog 38 [.pointer r1.1, .int .i64 1] [.sc (.int .i64)] (fun (r34 : Int) h35 =>
  br (r34 == (1 : Int))
  (ptrW r1.1 (fun a36 =>
  ldW .ptr (Addr.add a36 1) (fun (x37 : Option Addr) =>
  callT Try.prog 12 [.pointer x37] [.sc (.int .i64)] (fun (r38 : Int) h39 =>
  br (r38 == (2 : Int))
  (callT Try.prog 34 [.pointer r1.1] [.sc .slice] (fun (r40 : (Option Addr × Nat × Nat)) h41 =>
  br ((((r40.2.1 : Nat) : Int)) == (2 : Int))
  (callT Try.prog 47 [.pointer r1.1, .int .i64 0, .int .u32 3] [.sc .bool] (fun (r42 : Bool) h43 =>
  br r42
  (callT Try.prog 48 [.pointer r1.1, .int .i64 5] [.sc .bool] (fun (r44 : Bool) h45 =>
  br r44
  (callT Try.prog 48 [.pointer r1.1, .int .i64 5] [.sc .bool] (fun (r46 : Bool) h47 =>
  K (.bool (!r46)) h47) h45)
  (K (.bool false) h45)) h43)
  (K (.bool false) h43)) h41)
  (K (.bool false) h41)) h39)
  (K (.bool false) h39)) h35) h35))
  (K (.bool false) h35)) h33)
  (K (.bool false) h33))
  (K (.bool false) h33)) h31) h27)
  (K (.bool false) h27))
  (K (.bool false) h27))
  (K (.bool false) h27))
  (K (.bool false) h27))) h27)
  (K (.bool false) h27)) h25) h23) h21) h20) h18) h16) h6) h2) h0)
set_option maxRecDepth 100000 in
theorem F28_eq  (K : Value → Heap → Prop) (h0 : Heap) : funWE Try.prog 28 (.seq (.leaf) (.seq (.leaf) (.cut [] (.seq (.leaf) (.cond (.seq (.leaf) (.leaf)) (.leaf))) (.cut [(3, .sc .bool)] (.leaf) (.seq (.leaf) (.seq (.leaf) (.seq (.leaf) (.seq (.leaf) (.seq (.leaf) (.leaf)))))))))) [] K h0 = F28  K h0 := by kernel_rfl

-- function 31
set_option maxRecDepth 100000 in
def F31 (c_0 : Addr) (x_1_0 : Int) (x_1_1 : Int) (x_1_2 : Int) (x_1_3 : Bool) (K : Value → Heap → Prop) (h0 : Heap) : Prop := (
  newW (.cells #[.int .i64 x_1_0, .int .i64 x_1_1, .int .u32 x_1_2, .bool x_1_3] 63) (fun a1 h2 =>
  newW (.cells (zeroC Try.prog 69) 69) (fun a3 h4 =>
  newW (.cells (zeroC Try.prog 69) 69) (fun a5 h6 =>
  ldW (.int .i64) (Addr.add a1 0) (fun (x7 : Int) =>
  br (x7 == (0 : Int))
  (ldW (.int .i64) (Addr.add a1 1) (fun (x8 : Int) =>
  callT Try.prog 49 [.pointer (some c_0), .int .i64 x8] [.sc (.int .u32), .sc .bool] (fun (r9 : Int × Bool) h10 =>
  stW (Addr.add a5 0) (.int .u32 r9.1) (fun h11 =>
  stW (Addr.add a5 1) (.bool r9.2) (fun h12 =>
  ldAggW [.int .u32, .bool, .int .i64] a5 (fun (x13 : Int × Bool × Int) =>
  stLW a3 [.int .u32 x13.1, .bool x13.2.1, .int .i64 x13.2.2] (fun h14 =>
  ldAggW [.int .u32, .bool, .int .i64] a3 (fun (x15 : Int × Bool × Int) =>
  K (.agg #[.int .u32 x15.1, .bool x15.2.1, .int .i64 x15.2.2]) h14) h14) h12) h12) h11) h10) h6) h6)
  (br (x7 == (1 : Int))
  (ldW (.int .i64) (Addr.add a1 1) (fun (x16 : Int) =>
  ldW (.int .u32) (Addr.add a1 2) (fun (x17 : Int) =>
  ldW .bool (Addr.add a1 3) (fun (x18 : Bool) =>
  callT Try.prog 46 [.pointer (some c_0), .int .i64 x16, .int .u32 x17, .bool x18] [.sc .bool] (fun (r19 : Bool) h20 =>
  stW (Addr.add a5 1) (.bool r19) (fun h21 =>
  ldAggW [.int .u32, .bool, .int .i64] a5 (fun (x22 : Int × Bool × Int) =>
  stLW a3 [.int .u32 x22.1, .bool x22.2.1, .int .i64 x22.2.2] (fun h23 =>
  ldAggW [.int .u32, .bool, .int .i64] a3 (fun (x24 : Int × Bool × Int) =>
  K (.agg #[.int .u32 x24.1, .bool x24.2.1, .int .i64 x24.2.2]) h23) h23) h21) h21) h20) h6) h6) h6) h6)
  (br (x7 == (2 : Int))
  (ldW (.int .i64) (Addr.add a1 1) (fun (x25 : Int) =>
  ldW (.int .u32) (Addr.add a1 2) (fun (x26 : Int) =>
  callT Try.prog 47 [.pointer (some c_0), .int .i64 x25, .int .u32 x26] [.sc .bool] (fun (r27 : Bool) h28 =>
  stW (Addr.add a5 1) (.bool r27) (fun h29 =>
  ldAggW [.int .u32, .bool, .int .i64] a5 (fun (x30 : Int × Bool × Int) =>
  stLW a3 [.int .u32 x30.1, .bool x30.2.1, .int .i64 x30.2.2] (fun h31 =>
  ldAggW [.int .u32, .bool, .int .i64] a3 (fun (x32 : Int × Bool × Int) =>
  K (.agg #[.int .u32 x32.1, .bool x32.2.1, .int .i64 x32.2.2]) h31) h31) h29) h29) h28) h6) h6) h6)
  (br (x7 == (3 : Int))
  (ldW (.int .i64) (Addr.add a1 1) (fun (x33 : Int) =>
  callT Try.prog 48 [.pointer (some c_0), .int .i64 x33] [.sc .bool] (fun (r34 : Bool) h35 =>
  stW (Addr.add a5 1) (.bool r34) (fun h36 =>
  ldAggW [.int .u32, .bool, .int .i64] a5 (fun (x37 : Int × Bool × Int) =>
  stLW a3 [.int .u32 x37.1, .bool x37.2.1, .int .i64 x37.2.2] (fun h38 =>
  ldAggW [.int .u32, .bool, .int .i64] a3 (fun (x39 : Int × Bool × Int) =>
  K (.agg #[.int .u32 x39.1, .bool x39.2.1, .int .i64 x39.2.2]) h38) h38) h36) h36) h35) h6) h6)
  (br (x7 == (4 : Int))
  (ldW (.int .i64) (Addr.add a1 1) (fun (x40 : Int) =>
  callT Try.prog 38 [.pointer (some c_0), .int .i64 x40] [.sc (.int .i64)] (fun (r41 : Int) h42 =>
  stW (Addr.add a5 2) (.int .i64 r41) (fun h43 =>
  ldAggW [.int .u32, .bool, .int .i64] a5 (fun (x44 : Int × Bool × Int) =>
  stLW a3 [.int .u32 x44.1, .bool x44.2.1, .int .i64 x44.2.2] (fun h45 =>
  ldAggW [.int .u32, .bool, .int .i64] a3 (fun (x46 : Int × Bool × Int) =>
  K (.agg #[.int .u32 x46.1, .bool x46.2.1, .int .i64 x46.2.2]) h45) h45) h43) h43) h42) h6) h6)
  (br (x7 == (5 : Int))
  (callT Try.prog 30 [.pointer (some c_0)] [.agg [.int .i64, .int .u32, .bool], .sc .bool] (fun (r47 : (Int × Int × Bool) × Bool) h48 =>
  newW (.cells (zeroC Try.prog 65) 65) (fun a49 h50 =>
  stLW a49 [.int .i64 r47.1.1, .int .u32 r47.1.2.1, .bool r47.1.2.2] (fun h51 =>
  br r47.2
  (ldW (.int .i64) (Addr.add a49 0) (fun (x52 : Int) =>
  callT Try.prog 48 [.pointer (some c_0), .int .i64 x52] [.sc .bool] (fun (r53 : Bool) h54 =>
  stW (Addr.add a5 1) (.bool r53) (fun h55 =>
  ldAggW [.int .u32, .bool, .int .i64] a5 (fun (x56 : Int × Bool × Int) =>
  stLW a3 [.int .u32 x56.1, .bool x56.2.1, .int .i64 x56.2.2] (fun h57 =>
  ldAggW [.int .u32, .bool, .int .i64] a3 (fun (x58 : Int × Bool × Int) =>
  K (.agg #[.int .u32 x58.1, .bool x58.2.1, .int .i64 x58.2.2]) h57) h57) h55) h55) h54) h51) h51)
  (ldAggW [.int .u32, .bool, .int .i64] a5 (fun (x59 : Int × Bool × Int) =>
  stLW a3 [.int .u32 x59.1, .bool x59.2.1, .int .i64 x59.2.2] (fun h60 =>
  ldAggW [.int .u32, .bool, .int .i64] a3 (fun (x61 : Int × Bool × Int) =>
  K (.agg #[.int .u32 x61.1, .bool x61.2.1, .int .i64 x61.2.2]) h60) h60) h51) h51)) h50) h48) h6)
  (ldW (.int .i64) (Addr.add a1 1) (fun (x62 : Int) =>
  callT Try.prog 32 [.pointer (some c_0), .int .i64 x62] [.sc (.int .u32), .sc .bool] (fun (r63 : Int × Bool) h64 =>
  stW (Addr.add a5 0) (.int .u32 r63.1) (fun h65 =>
  stW (Addr.add a5 1) (.bool r63.2) (fun h66 =>
  ldAggW [.int .u32, .bool, .int .i64] a5 (fun (x67 : Int × Bool × Int) =>
  stLW a3 [.int .u32 x67.1, .bool x67.2.1, .int .i64 x67.2.2] (fun h68 =>
  ldAggW [.int .u32, .bool, .int .i64] a3 (fun (x69 : Int × Bool × Int) =>
  K (.agg #[.int .u32 x69.1, .bool x69.2.1, .int .i64 x69.2.2]) h68) h68) h66) h66) h65) h64) h6) h6))))))) h6) h4) h2) h0)
set_option maxRecDepth 100000 in
theorem F31_eq (c_0 : Addr) (x_1_0 : Int) (x_1_1 : Int) (x_1_2 : Int) (x_1_3 : Bool) (K : Value → Heap → Prop) (h0 : Heap) : funWE Try.prog 31 (.seq (.leaf) (.seq (.leaf) (.seq (.seq (.leaf) (.block (.seq (.leaf) (.cond (.leaf) (.seq (.leaf) (.cond (.leaf) (.seq (.leaf) (.cond (.leaf) (.seq (.leaf) (.cond (.leaf) (.seq (.leaf) (.cond (.leaf) (.seq (.leaf) (.cond (.seq (.leaf) (.seq (.leaf) (.cond (.leaf) (.leaf)))) (.leaf))))))))))))))) (.seq (.leaf) (.leaf))))) [.pointer (some c_0), .agg #[.int .i64 x_1_0, .int .i64 x_1_1, .int .u32 x_1_2, .bool x_1_3]] K h0 = F31 c_0 x_1_0 x_1_1 x_1_2 x_1_3 K h0 := by kernel_rfl

-- function 36
set_option maxRecDepth 100000 in
def F36 (l_0 : Option Addr) (l_0l _l_0c : Nat) (K : Value → Heap → Prop) (h0 : Heap) : Prop := (
  newW (.cells #[] 78) (fun a1 h2 =>
  loopT [.sc .slice, .sc (.int .i64)] (fun (s4 : (Option Addr × Nat × Nat) × Int) _ (K3 : ((Option Addr × Nat × Nat) × Int) → Heap → Prop) h5 =>
  br (decide (s4.2 < (((l_0l : Nat) : Int))))
  (ptrW l_0 (fun a6 =>
  idxW s4.2 l_0l true (ldAggW [.int .i64, .int .u32, .bool] (Addr.add a6 (Int.toNat s4.2 * 3)) (fun (x7 : Int × Int × Bool) =>
  newW (.cells (zeroC Try.prog 65) 65) (fun a8 h9 =>
  stLW a8 [.int .i64 x7.1, .int .u32 x7.2.1, .bool x7.2.2] (fun h10 =>
  ldAggW [.int .i64, .int .u32, .bool] a8 (fun (x11 : Int × Int × Bool) =>
  newW (.cells #[.int .i64 x11.1, .int .u32 x11.2.1, .bool x11.2.2] 78) (fun a12 h13 =>
  apW Try.prog #[76, 76] #[.slice s4.1.1 s4.1.2.1 s4.1.2.2, .slice (some a12) 1 1] (fun b14 n15 c16 h17 =>
  K3 ((b14, n15, c16), (IntKind.wrap .i64 (s4.2 + (1 : Int)))) h17) h13) h10) h10) h9) h5) h5)))
  (K (.slice s4.1.1 s4.1.2.1 s4.1.2.2) h5)) (((some a1), 0, 0), (0 : Int)) h2) h0)
set_option maxRecDepth 100000 in
theorem F36_eq (l_0 : Option Addr) (l_0l l_0c : Nat) (K : Value → Heap → Prop) (h0 : Heap) : funWE Try.prog 36 (.seq (.leaf) (.seq (.leaf) (.seq (.seq (.leaf) (.block (.loop [(3, .sc .slice), (9, .sc (.int .i64))] (.seq (.leaf) (.seq (.cond (.leaf) (.leaf)) (.seq (.block (.seq (.leaf) (.leaf))) (.leaf))))))) (.seq (.leaf) (.leaf))))) [.slice l_0 l_0l l_0c] K h0 = F36 l_0 l_0l l_0c K h0 := by kernel_rfl

-- function 8
set_option maxRecDepth 100000 in
def F8 (room_0 : Int) (l_1 : Option Addr) (l_1l _l_1c : Nat) (block_2 : Int) (K : Value → Heap → Prop) (h0 : Heap) : Prop := (
  callT Try.prog 28 [] [.sc .bool] (fun (r1 : Bool) h2 =>
  br (!r1)
  (K (.bool false) h2)
  (callT Try.prog 29 [.int .i64 room_0] [.sc .ptr, .sc .any] (fun (r3 : (Option Addr) × Value) h4 =>
  cutT [] (fun (K5 : Unit → Heap → Prop) h6 =>
  br (Option.isNone r3.1)
  (K (.bool true) h6)
  (br (decide ((((l_1l : Nat) : Int)) > (200 : Int)))
  (K (.bool true) h6)
  (br (decide (block_2 < (0 : Int)))
  (K (.bool true) h6)
  (K5 () h6)))) (fun (_s7 : Unit) _ h8 =>
  loopT [.sc (.int .u32), .sc .bool, .sc .bool, .sc (.int .i64)] (fun (s10 : Int × Bool × Bool × Int) _ (K9 : (Int × Bool × Bool × Int) → Heap → Prop) h11 =>
  br (decide (s10.2.2.2 < (((l_1l : Nat) : Int))))
  (ptrW l_1 (fun a12 =>
  idxW s10.2.2.2 l_1l true (ldAggW [.int .i64, .int .i64, .int .u32, .bool] (Addr.add a12 (Int.toNat s10.2.2.2 * 4)) (fun (x13 : Int × Int × Int × Bool) =>
  newW (.cells (zeroC Try.prog 63) 63) (fun a14 h15 =>
  stLW a14 [.int .i64 x13.1, .int .i64 x13.2.1, .int .u32 x13.2.2.1, .bool x13.2.2.2] (fun h16 =>
  callT Try.prog 30 [.pointer r3.1] [.agg [.int .i64, .int .u32, .bool], .sc .bool] (fun (r17 : (Int × Int × Bool) × Bool) h18 =>
  newW (.cells (zeroC Try.prog 65) 65) (fun a19 h20 =>
  stLW a19 [.int .i64 r17.1.1, .int .u32 r17.1.2.1, .bool r17.1.2.2] (fun h21 =>
  ldAggW [.int .i64, .int .i64, .int .u32, .bool] a14 (fun (x22 : Int × Int × Int × Bool) =>
  callT Try.prog 31 [.pointer r3.1, .agg #[.int .i64 x22.1, .int .i64 x22.2.1, .int .u32 x22.2.2.1, .bool x22.2.2.2]] [.agg [.int .u32, .bool, .int .i64]] (fun (r23 : (Int × Bool × Int)) h24 =>
  newW (.cells (zeroC Try.prog 69) 69) (fun a25 h26 =>
  stLW a25 [.int .u32 r23.1, .bool r23.2.1, .int .i64 r23.2.2] (fun h27 =>
  cutT [.sc .bool] (fun (K28 : Bool → Heap → Prop) h31 =>
  ldW (.int .i64) (Addr.add a14 0) (fun (x29 : Int) =>
  br (x29 == (4 : Int))
  (ldW (.int .i64) (Addr.add a14 1) (fun (x30 : Int) =>
  br (x30 == (IntKind.wrap .i64 (Int.tdiv block_2 (4 : Int))))
  (K28 false h31)
  (K28 s10.2.2.1 h31)) h31)
  (K28 s10.2.2.1 h31)) h31) (fun (s32 : Bool) _ h33 =>
  cutT [.sc (.int .u32), .sc .bool, .sc .bool] (fun (K34 : (Int × Bool × Bool) → Heap → Prop) h45 =>
  cutT [.sc .bool] (fun (K35 : Bool → Heap → Prop) h38 =>
  ldW (.int .i64) (Addr.add a14 1) (fun (x36 : Int) =>
  br (x36 == block_2)
  (ldW .bool (Addr.add a25 1) (fun (x37 : Bool) =>
  K35 x37 h38) h38)
  (K35 false h38)) h38) (fun (s39 : Bool) _ h40 =>
  br s39
  (ldW (.int .i64) (Addr.add a14 0) (fun (x41 : Int) =>
  br (x41 == (1 : Int))
  (ldW (.int .u32) (Addr.add a14 2) (fun (x42 : Int) =>
  br s32
  (K34 (x42, true, true) h40)
  (ldW .bool (Addr.add a14 3) (fun (x43 : Bool) =>
  K34 (x42, true, x43) h40) h40)) h40)
  (br (x41 == (2 : Int))
  (ldW (.int .u32) (Addr.add a14 2) (fun (x44 : Int) =>
  K34 (x44, s10.2.1, s32) h40) h40)
  (br (x41 == (3 : Int))
  (K34 ((0 : Int), false, false) h40)
  (K34 (s10.1, s10.2.1, s32) h40)))) h40)
  (K34 (s10.1, s10.2.1, s32) h40)) h45) (fun (s46 : Int × Bool × Bool) _ h47 =>
  cutT [.sc (.int .u32), .sc .bool, .sc .bool] (fun (K48 : (Int × Bool × Bool) → Heap → Prop) h51 =>
  ldW (.int .i64) (Addr.add a14 0) (fun (x49 : Int) =>
  br (x49 == (5 : Int))
  (br r17.2
  (ldW (.int .i64) (Addr.add a19 0) (fun (x50 : Int) =>
  br (x50 == block_2)
  (K48 ((0 : Int), false, false) h51)
  (K48 (s46.1, s46.2.1, s46.2.2) h51)) h51)
  (K48 (s46.1, s46.2.1, s46.2.2) h51))
  (K48 (s46.1, s46.2.1, s46.2.2) h51)) h51) (fun (s52 : Int × Bool × Bool) _ h53 =>
  callT Try.prog 32 [.pointer r3.1, .int .i64 block_2] [.sc (.int .u32), .sc .bool] (fun (r54 : Int × Bool) h55 =>
  callT Try.prog 33 [.pointer r3.1, .int .i64 (IntKind.wrap .i64 (Int.tdiv block_2 (4 : Int)))] [.sc .slice] (fun (r56 : (Option Addr × Nat × Nat)) h57 =>
  loopT [.sc .bool, .sc (.int .i64)] (fun (s59 : Bool × Int) _ (K58 : (Bool × Int) → Heap → Prop) h60 =>
  br (decide (s59.2 < (((r56.2.1 : Nat) : Int))))
  (ptrW r56.1 (fun a61 =>
  idxW s59.2 r56.2.1 true (ldAggW [.int .i64, .int .u32, .bool] (Addr.add a61 (Int.toNat s59.2 * 3)) (fun (x62 : Int × Int × Bool) =>
  newW (.cells (zeroC Try.prog 65) 65) (fun a63 h64 =>
  stLW a63 [.int .i64 x62.1, .int .u32 x62.2.1, .bool x62.2.2] (fun h65 =>
  br s59.1
  (K58 (true, (IntKind.wrap .i64 (s59.2 + (1 : Int)))) h65)
  (ldW (.int .i64) (Addr.add a63 0) (fun (x66 : Int) =>
  K58 ((x66 == block_2), (IntKind.wrap .i64 (s59.2 + (1 : Int)))) h65) h65)) h64) h60) h60)))
  (br (r54.1 != s52.1)
  (K (.bool false) h60)
  (br (!(r54.2 == s52.2.1))
  (K (.bool false) h60)
  (br (!(s59.1 == s52.2.2))
  (K (.bool false) h60)
  (K9 (s52.1, s52.2.1, s52.2.2, (IntKind.wrap .i64 (s10.2.2.2 + (1 : Int)))) h60))))) (false, (0 : Int)) h57) h55) h53) h47) h33) h27) h26) h24) h21) h21) h20) h18) h16) h15) h11) h11)))
  (K (.bool true) h11)) ((0 : Int), false, false, (0 : Int)) h8) h4) h2)) h0)
set_option maxRecDepth 100000 in
theorem F8_eq (room_0 : Int) (l_1 : Option Addr) (l_1l l_1c : Nat) (block_2 : Int) (K : Value → Heap → Prop) (h0 : Heap) : funWE Try.prog 8 (.seq (.leaf) (.seq (.seq (.leaf) (.cond (.seq (.leaf) (.leaf)) (.leaf))) (.seq (.leaf) (.cut [] (.seq (.leaf) (.cond (.seq (.leaf) (.leaf)) (.leaf))) (.seq (.leaf) (.seq (.seq (.leaf) (.block (.loop [(9, .sc (.int .u32)), (10, .sc .bool), (11, .sc .bool), (42, .sc (.int .i64))] (.seq (.leaf) (.seq (.cond (.leaf) (.leaf)) (.seq (.block (.seq (.leaf) (.seq (.leaf) (.seq (.leaf) (.cut [(11, .sc .bool)] (.seq (.leaf) (.cond (.leaf) (.leaf))) (.cut [(9, .sc (.int .u32)), (10, .sc .bool), (11, .sc .bool)] (.cut [(71, .sc .bool)] (.leaf) (.cond (.seq (.leaf) (.block (.seq (.leaf) (.cond (.draw (odp [0, 1, 2, 3, 4, 5, 6, 7, 8, 9] .nil) []) (.seq (.leaf) (.cond (.leaf) (.seq (.leaf) (.cond (.leaf) (.leaf))))))))) (.leaf))) (.cut [(9, .sc (.int .u32)), (10, .sc .bool), (11, .sc .bool)] (.seq (.leaf) (.cond (.leaf) (.leaf))) (.seq (.leaf) (.seq (.leaf) (.seq (.seq (.leaf) (.block (.loop [(19, .sc .bool), (112, .sc (.int .i64))] (.seq (.leaf) (.seq (.cond (.leaf) (.leaf)) (.seq (.block (.seq (.leaf) (.leaf))) (.leaf))))))) (.seq (.leaf) (.cond (.seq (.leaf) (.leaf)) (.leaf))))))))))))) (.leaf))))))) (.seq (.leaf) (.leaf)))))))) [.int .i64 room_0, .slice l_1 l_1l l_1c, .int .i64 block_2] K h0 = F8 room_0 l_1 l_1l l_1c block_2 K h0 := by kernel_rfl

-- function 9
set_option maxRecDepth 100000 in
def F9 (room_0 : Int) (l_1 : Option Addr) (l_1l _l_1c : Nat) (table_2 : Int) (K : Value → Heap → Prop) (h0 : Heap) : Prop := (
  callT Try.prog 28 [] [.sc .bool] (fun (r1 : Bool) h2 =>
  br (!r1)
  (K (.bool false) h2)
  (callT Try.prog 29 [.int .i64 room_0] [.sc .ptr, .sc .any] (fun (r3 : (Option Addr) × Value) h4 =>
  cutT [] (fun (K5 : Unit → Heap → Prop) h6 =>
  br (Option.isNone r3.1)
  (K (.bool true) h6)
  (br (decide ((((l_1l : Nat) : Int)) > (200 : Int)))
  (K (.bool true) h6)
  (K5 () h6))) (fun (_s7 : Unit) _ h8 =>
  loopT [.sc (.int .i64)] (fun (s10 : Int) _ (K9 : Int → Heap → Prop) h11 =>
  br (decide (s10 < (((l_1l : Nat) : Int))))
  (ptrW l_1 (fun a12 =>
  idxW s10 l_1l true (ldAggW [.int .i64, .int .i64, .int .u32, .bool] (Addr.add a12 (Int.toNat s10 * 4)) (fun (x13 : Int × Int × Int × Bool) =>
  newW (.cells (zeroC Try.prog 63) 63) (fun a14 h15 =>
  stLW a14 [.int .i64 x13.1, .int .i64 x13.2.1, .int .u32 x13.2.2.1, .bool x13.2.2.2] (fun h16 =>
  ldAggW [.int .i64, .int .i64, .int .u32, .bool] a14 (fun (x17 : Int × Int × Int × Bool) =>
  callT Try.prog 31 [.pointer r3.1, .agg #[.int .i64 x17.1, .int .i64 x17.2.1, .int .u32 x17.2.2.1, .bool x17.2.2.2]] [.agg [.int .u32, .bool, .int .i64]] (fun (_r18 : (Int × Bool × Int)) h19 =>
  K9 (IntKind.wrap .i64 (s10 + (1 : Int))) h19) h16) h16) h15) h11) h11)))
  (newW (.cells #[] 78) (fun a20 h21 =>
  callT Try.prog 34 [.pointer r3.1] [.sc .slice] (fun (r22 : (Option Addr × Nat × Nat)) h23 =>
  loopT [.sc .slice, .sc (.int .i64)] (fun (s25 : (Option Addr × Nat × Nat) × Int) _ (K24 : ((Option Addr × Nat × Nat) × Int) → Heap → Prop) h26 =>
  br (decide (s25.2 < (((r22.2.1 : Nat) : Int))))
  (ptrW r22.1 (fun a27 =>
  idxW s25.2 r22.2.1 true (ldAggW [.int .i64, .int .u32, .bool] (Addr.add a27 (Int.toNat s25.2 * 3)) (fun (x28 : Int × Int × Bool) =>
  newW (.cells (zeroC Try.prog 65) 65) (fun a29 h30 =>
  stLW a29 [.int .i64 x28.1, .int .u32 x28.2.1, .bool x28.2.2] (fun h31 =>
  ldW .bool (Addr.add a29 2) (fun (x32 : Bool) =>
  br x32
  (ldAggW [.int .i64, .int .u32, .bool] a29 (fun (x33 : Int × Int × Bool) =>
  newW (.cells #[.int .i64 x33.1, .int .u32 x33.2.1, .bool x33.2.2] 78) (fun a34 h35 =>
  apW Try.prog #[76, 76] #[.slice s25.1.1 s25.1.2.1 s25.1.2.2, .slice (some a34) 1 1] (fun b36 n37 c38 h39 =>
  K24 ((b36, n37, c38), (IntKind.wrap .i64 (s25.2 + (1 : Int)))) h39) h35) h31) h31)
  (K24 ((s25.1.1, s25.1.2.1, s25.1.2.2), (IntKind.wrap .i64 (s25.2 + (1 : Int)))) h31)) h31) h30) h26) h26)))
  (newW (.cells #[] 78) (fun a40 h41 =>
  callT Try.prog 35 [.pointer r3.1] [.sc .slice] (fun (r42 : (Option Addr × Nat × Nat)) h43 =>
  loopT [.sc .slice, .sc (.int .i64)] (fun (s45 : (Option Addr × Nat × Nat) × Int) _ (K44 : ((Option Addr × Nat × Nat) × Int) → Heap → Prop) h46 =>
  br (decide (s45.2 < (((r42.2.1 : Nat) : Int))))
  (ptrW r42.1 (fun a47 =>
  idxW s45.2 r42.2.1 true (ldW (.int .i64) (Addr.add a47 (Int.toNat s45.2 * 1)) (fun (x48 : Int) =>
  callT Try.prog 33 [.pointer r3.1, .int .i64 x48] [.sc .slice] (fun (r49 : (Option Addr × Nat × Nat)) h50 =>
  callT Try.prog 36 [.slice r49.1 r49.2.1 r49.2.2] [.sc .slice] (fun (r51 : (Option Addr × Nat × Nat)) h52 =>
  br ((((r51.2.1 : Nat) : Int)) == (0 : Int))
  (K (.bool false) h52)
  (apW Try.prog #[76, 76] #[.slice s45.1.1 s45.1.2.1 s45.1.2.2, .slice r51.1 r51.2.1 r51.2.2] (fun b53 n54 c55 h56 =>
  K44 ((b53, n54, c55), (IntKind.wrap .i64 (s45.2 + (1 : Int)))) h56) h52)) h50) h46) h46)))
  (callT Try.prog 33 [.pointer r3.1, .int .i64 table_2] [.sc .slice] (fun (r57 : (Option Addr × Nat × Nat)) h58 =>
  cutT [] (fun (K59 : Unit → Heap → Prop) h66 =>
  callT Try.prog 37 [.slice s25.1.1 s25.1.2.1 s25.1.2.2, .slice s45.1.1 s45.1.2.1 s45.1.2.2] [.sc .bool] (fun (r60 : Bool) h61 =>
  br (!r60)
  (K (.bool false) h61)
  (callT Try.prog 38 [.pointer r3.1, .int .i64 table_2] [.sc (.int .i64)] (fun (r62 : Int) h63 =>
  br (r62 != (((r57.2.1 : Nat) : Int)))
  (K (.bool false) h63)
  (callT Try.prog 33 [.pointer r3.1, .int .i64 table_2] [.sc .slice] (fun (r64 : (Option Addr × Nat × Nat)) h65 =>
  br ((((r64.2.1 : Nat) : Int)) != (0 : Int))
  (K (.bool false) h65)
  (K59 () h65)) h63)) h61)) h66) (fun (_s67 : Unit) _ h68 =>
  callT Try.prog 34 [.pointer r3.1] [.sc .slice] (fun (r69 : (Option Addr × Nat × Nat)) h70 =>
  loopT [.sc (.int .i64), .sc (.int .i64)] (fun (s72 : Int × Int) _ (K71 : (Int × Int) → Heap → Prop) h73 =>
  br (decide (s72.2 < (((r69.2.1 : Nat) : Int))))
  (ptrW r69.1 (fun a74 =>
  idxW s72.2 r69.2.1 true (ldAggW [.int .i64, .int .u32, .bool] (Addr.add a74 (Int.toNat s72.2 * 3)) (fun (x75 : Int × Int × Bool) =>
  newW (.cells (zeroC Try.prog 65) 65) (fun a76 h77 =>
  stLW a76 [.int .i64 x75.1, .int .u32 x75.2.1, .bool x75.2.2] (fun h78 =>
  ldW .bool (Addr.add a76 2) (fun (x79 : Bool) =>
  br x79
  (K71 ((IntKind.wrap .i64 (s72.1 + (1 : Int))), (IntKind.wrap .i64 (s72.2 + (1 : Int)))) h78)
  (K71 (s72.1, (IntKind.wrap .i64 (s72.2 + (1 : Int)))) h78)) h78) h77) h73) h73)))
  (K (.bool (s72.1 == (IntKind.wrap .i64 ((((s25.1.2.1 : Nat) : Int)) - (((r57.2.1 : Nat) : Int)))))) h73)) ((0 : Int), (0 : Int)) h70) h68) h58) h46)) (((some a40), 0, 0), (0 : Int)) h43) h41) h26)) (((some a20), 0, 0), (0 : Int)) h23) h21) h11)) (0 : Int) h8) h4) h2)) h0)
set_option maxRecDepth 100000 in
theorem F9_eq (room_0 : Int) (l_1 : Option Addr) (l_1l l_1c : Nat) (table_2 : Int) (K : Value → Heap → Prop) (h0 : Heap) : funWE Try.prog 9 (.seq (.leaf) (.seq (.seq (.leaf) (.cond (.seq (.leaf) (.leaf)) (.leaf))) (.seq (.leaf) (.cut [] (.seq (.leaf) (.cond (.seq (.leaf) (.leaf)) (.leaf))) (.seq (.seq (.leaf) (.block (.loop [(39, .sc (.int .i64))] (.seq (.leaf) (.seq (.cond (.leaf) (.leaf)) (.seq (.block (.seq (.leaf) (.leaf))) (.leaf))))))) (.seq (.leaf) (.seq (.seq (.leaf) (.block (.loop [(11, .sc .slice), (51, .sc (.int .i64))] (.seq (.leaf) (.seq (.cond (.leaf) (.leaf)) (.seq (.block (.seq (.leaf) (.seq (.leaf) (.cond (.leaf) (.leaf))))) (.leaf))))))) (.seq (.leaf) (.seq (.seq (.leaf) (.block (.loop [(14, .sc .slice), (66, .sc (.int .i64))] (.seq (.leaf) (.seq (.cond (.leaf) (.leaf)) (.seq (.block (.seq (.leaf) (.seq (.leaf) (.seq (.seq (.leaf) (.cond (.seq (.leaf) (.leaf)) (.leaf))) (.leaf))))) (.leaf))))))) (.seq (.leaf) (.cut [] (.seq (.leaf) (.cond (.seq (.leaf) (.leaf)) (.leaf))) (.seq (.leaf) (.seq (.seq (.leaf) (.block (.loop [(20, .sc (.int .i64)), (108, .sc (.int .i64))] (.seq (.leaf) (.seq (.cond (.leaf) (.leaf)) (.seq (.block (.seq (.leaf) (.seq (.leaf) (.cond (.leaf) (.leaf))))) (.leaf))))))) (.seq (.leaf) (.leaf))))))))))))))) [.int .i64 room_0, .slice l_1 l_1l l_1c, .int .i64 table_2] K h0 = F9 room_0 l_1 l_1l l_1c table_2 K h0 := by kernel_rfl

-- function 37
set_option maxRecDepth 100000 in
def F37 (a_0 : Option Addr) (a_0l _a_0c : Nat) (b_1 : Option Addr) (b_1l _b_1c : Nat) (K : Value → Heap → Prop) (h0 : Heap) : Prop := (
  br ((((a_0l : Nat) : Int)) != (((b_1l : Nat) : Int)))
  (K (.bool false) h0)
  (loopT [.sc (.int .i64)] (fun (s2 : Int) _ (K1 : Int → Heap → Prop) h3 =>
  br (decide (s2 < (((a_0l : Nat) : Int))))
  (ptrW a_0 (fun a4 =>
  idxW s2 a_0l true (ldAggW [.int .i64, .int .u32, .bool] (Addr.add a4 (Int.toNat s2 * 3)) (fun (x5 : Int × Int × Bool) =>
  ptrW b_1 (fun a6 =>
  idxW s2 b_1l true (ldAggW [.int .i64, .int .u32, .bool] (Addr.add a6 (Int.toNat s2 * 3)) (fun (x7 : Int × Int × Bool) =>
  eqGen Try.prog 78 (.agg #[.int .i64 x5.1, .int .u32 x5.2.1, .bool x5.2.2]) (.agg #[.int .i64 x7.1, .int .u32 x7.2.1, .bool x7.2.2]) (fun b8 =>
  br (!b8)
  (K (.bool false) h3)
  (K1 (IntKind.wrap .i64 (s2 + (1 : Int))) h3))) h3))) h3)))
  (K (.bool true) h3)) (0 : Int) h0))
set_option maxRecDepth 100000 in
theorem F37_eq (a_0 : Option Addr) (a_0l a_0c : Nat) (b_1 : Option Addr) (b_1l b_1c : Nat) (K : Value → Heap → Prop) (h0 : Heap) : funWE Try.prog 37 (.seq (.leaf) (.seq (.seq (.leaf) (.cond (.seq (.leaf) (.leaf)) (.leaf))) (.seq (.seq (.leaf) (.block (.loop [(5, .sc (.int .i64))] (.seq (.seq (.leaf) (.cond (.leaf) (.leaf))) (.seq (.block (.seq (.draw (odp [0, 1, 2, 3, 4, 5, 6, 7, 8] .nil) []) (.cond (.seq (.leaf) (.leaf)) (.leaf)))) (.leaf)))))) (.seq (.leaf) (.leaf))))) [.slice a_0 a_0l a_0c, .slice b_1 b_1l b_1c] K h0 = F37 a_0 a_0l a_0c b_1 b_1l b_1c K h0 := by kernel_rfl

-- function 25
set_option maxRecDepth 100000 in
def F25 (a_0 : Option Addr) (a_0l _a_0c : Nat) (b_1 : Option Addr) (b_1l _b_1c : Nat) (K : Value → Heap → Prop) (h0 : Heap) : Prop := (
  br ((((a_0l : Nat) : Int)) != (((b_1l : Nat) : Int)))
  (K (.bool false) h0)
  (loopT [.sc (.int .i64)] (fun (s2 : Int) _ (K1 : Int → Heap → Prop) h3 =>
  br (decide (s2 < (((a_0l : Nat) : Int))))
  (ptrW a_0 (fun a4 =>
  idxW s2 a_0l true (ldW (.int .i64) (Addr.add a4 (Int.toNat s2 * 1)) (fun (x5 : Int) =>
  ptrW b_1 (fun a6 =>
  idxW s2 b_1l true (ldW (.int .i64) (Addr.add a6 (Int.toNat s2 * 1)) (fun (x7 : Int) =>
  br (x5 != x7)
  (K (.bool false) h3)
  (K1 (IntKind.wrap .i64 (s2 + (1 : Int))) h3)) h3))) h3)))
  (K (.bool true) h3)) (0 : Int) h0))
set_option maxRecDepth 100000 in
theorem F25_eq (a_0 : Option Addr) (a_0l a_0c : Nat) (b_1 : Option Addr) (b_1l b_1c : Nat) (K : Value → Heap → Prop) (h0 : Heap) : funWE Try.prog 25 (.seq (.leaf) (.seq (.seq (.leaf) (.cond (.seq (.leaf) (.leaf)) (.leaf))) (.seq (.seq (.leaf) (.block (.loop [(5, .sc (.int .i64))] (.seq (.seq (.leaf) (.cond (.leaf) (.leaf))) (.seq (.block (.seq (.draw (odp [0, 1, 2, 3, 4, 5, 6, 7, 8] .nil) []) (.cond (.seq (.leaf) (.leaf)) (.leaf)))) (.leaf)))))) (.seq (.leaf) (.leaf))))) [.slice a_0 a_0l a_0c, .slice b_1 b_1l b_1c] K h0 = F25 a_0 a_0l a_0c b_1 b_1l b_1c K h0 := by kernel_rfl

end Go.Proofs.Ytfanjfbenhocnaa.W
