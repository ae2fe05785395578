/-
  The formulas of the laws of cache. Each formula checked by the kernel. Printed by a program of this repo.
-/
import Derived.Test.YtfanjfbenhocnaaGreatDoorProg
import Derived.Test.YtfanjfbenhocnaaGreatDoorPl
namespace Go.Proofs.YtfanjfbenhocnaaGreatDoor.W
open Go.Pl

-- function 4
set_option maxRecDepth 100000 in
def F4  (K : Value → Heap → Prop) (h0 : Heap) : Prop := (
  callT Tryz.prog 5 [.int .i64 2] [.sc .ptr, .sc .any] (fun (r1 : (Option Addr) × Value) h2 =>
  cutT [] (fun (K3 : Unit → Heap → Prop) h4 =>
  br (Option.isNone r1.1)
  (K (.bool false) h4)
  (ifW r1.2 (br (!(isNilV r1.2))
  (K (.bool false) h4)
  (K3 () h4)))) (fun (_s5 : Unit) _ h6 =>
  cutT [.sc .bool] (fun (K7 : Bool → Heap → Prop) h14 =>
  callT Tryz.prog 21 [.pointer r1.1, .int .i64 5, .int .u32 9, .bool true] [.sc .bool] (fun (r8 : Bool) h9 =>
  br r8
  (callT Tryz.prog 21 [.pointer r1.1, .int .i64 0, .int .u32 7, .bool false] [.sc .bool] (fun (r10 : Bool) h11 =>
  br r10
  (callT Tryz.prog 21 [.pointer r1.1, .int .i64 1, .int .u32 1, .bool false] [.sc .bool] (fun (r12 : Bool) h13 =>
  K7 (!r12) h13) h11)
  (K7 false h11)) h9)
  (K7 false h9)) h14) (fun (s15 : Bool) _ h16 =>
  callT Tryz.prog 19 [.pointer r1.1] [.agg [.int .i64, .int .u32, .bool], .sc .bool] (fun (r17 : (Int × Int × Bool) × Bool) h18 =>
  newW (.cells (zeroC Tryz.prog 60) 60) (fun a19 h20 =>
  stLW a19 [.int .i64 r17.1.1, .int .u32 r17.1.2.1, .bool r17.1.2.2] (fun h21 =>
  callT Tryz.prog 22 [.pointer r1.1, .int .i64 5] [.sc (.int .u32), .sc .bool] (fun (r22 : Int × Bool) h23 =>
  callT Tryz.prog 17 [.pointer r1.1] [.sc .slice] (fun (r24 : (Option Addr × Nat × Nat)) h25 =>
  callT Tryz.prog 14 [.pointer r1.1, .int .i64 1] [.sc .slice] (fun (r26 : (Option Addr × Nat × Nat)) h27 =>
  br s15
  (ldAggW [.int .i64, .int .u32, .bool] a19 (fun (x28 : Int × Int × Bool) =>
  eqGen Tryz.prog 60 (.agg #[.int .i64 x28.1, .int .u32 x28.2.1, .bool x28.2.2]) (.agg #[.int .i64 5, .int .u32 9, .bool true]) (fun b29 =>
  br b29
  (br r17.2
  (br (r22.1 == (9 : Int))
  (br r22.2
  (newW (.cells #[.int .i64 1] 3) (fun a30 h31 =>
  callT Tryz.prog 16 [.slice r24.1 r24.2.1 r24.2.2, .slice (some a30) 1 1] [.sc .bool] (fun (r32 : Bool) h33 =>
  br r32
  (br ((((r26.2.1 : Nat) : Int)) == (1 : Int))
  (callT Tryz.prog 23 [.pointer r1.1, .int .i64 1] [.sc (.int .i64)] (fun (r34 : Int) h35 =>
  br (r34 == (1 : Int))
  (ptrW r1.1 (fun a36 =>
  ldW .ptr (Addr.add a36 1) (fun (x37 : Option Addr) =>
  callT Tryz.prog 10 [.pointer x37] [.sc (.int .i64)] (fun (r38 : Int) h39 =>
  br (r38 == (2 : Int))
  (callT Tryz.prog 13 [.pointer r1.1] [.sc .slice] (fun (r40 : (Option Addr × Nat × Nat)) h41 =>
  br ((((r40.2.1 : Nat) : Int)) == (2 : Int))
  (callT Tryz.prog 24 [.pointer r1.1, .int .i64 0, .int .u32 3] [.sc .bool] (fun (r42 : Bool) h43 =>
  br r42
  (callT Tryz.prog 25 [.pointer r1.1, .int .i64 5] [.sc .bool] (fun (r44 : Bool) h45 =>
  br r44
  (callT Tryz.prog 25 [.pointer r1.1, .int .i64 5] [.sc .bool] (fun (r46 : Bool) h47 =>
  K (.bool (!r46)) h47) h45)
  (K (.bool false) h45)) h43)
  (K (.bool false) h43)) h41)
  (K (.bool false) h41)) h39)
  (K (.bool false) h39)) h35) h35))
  (K (.bool false) h35)) h33)
  (K (.bool false) h33))
  (K (.bool false) h33)) h31) h27)
  (K (.bool false) h27))
  (K (.bool false) h27))
  (K (.bool false) h27))
  (K (.bool false) h27))) h27)
  (K (.bool false) h27)) h25) h23) h21) h20) h18) h16) h6) h2) h0)
set_option maxRecDepth 100000 in
theorem F4_eq  (K : Value → Heap → Prop) (h0 : Heap) : funWE Tryz.prog 4 (.seq (.leaf) (.seq (.leaf) (.cut [] (.seq (.leaf) (.cond (.seq (.leaf) (.leaf)) (.leaf))) (.cut [(3, .sc .bool)] (.leaf) (.seq (.leaf) (.seq (.leaf) (.seq (.leaf) (.seq (.leaf) (.seq (.leaf) (.leaf)))))))))) [] K h0 = F4  K h0 := by kernel_rfl

-- function 8
set_option maxRecDepth 100000 in
def F8 (c_0 : Addr) (x_1_0 : Int) (x_1_1 : Int) (x_1_2 : Int) (x_1_3 : Bool) (K : Value → Heap → Prop) (h0 : Heap) : Prop := (
  newW (.cells #[.int .i64 x_1_0, .int .i64 x_1_1, .int .u32 x_1_2, .bool x_1_3] 36) (fun a1 h2 =>
  newW (.cells (zeroC Tryz.prog 38) 38) (fun a3 h4 =>
  newW (.cells (zeroC Tryz.prog 38) 38) (fun a5 h6 =>
  ldW (.int .i64) (Addr.add a1 0) (fun (x7 : Int) =>
  br (x7 == (0 : Int))
  (ldW (.int .i64) (Addr.add a1 1) (fun (x8 : Int) =>
  callT Tryz.prog 30 [.pointer (some c_0), .int .i64 x8] [.sc (.int .u32), .sc .bool] (fun (r9 : Int × Bool) h10 =>
  stW (Addr.add a5 0) (.int .u32 r9.1) (fun h11 =>
  stW (Addr.add a5 1) (.bool r9.2) (fun h12 =>
  ldAggW [.int .u32, .bool, .int .i64] a5 (fun (x13 : Int × Bool × Int) =>
  stLW a3 [.int .u32 x13.1, .bool x13.2.1, .int .i64 x13.2.2] (fun h14 =>
  ldAggW [.int .u32, .bool, .int .i64] a3 (fun (x15 : Int × Bool × Int) =>
  K (.agg #[.int .u32 x15.1, .bool x15.2.1, .int .i64 x15.2.2]) h14) h14) h12) h12) h11) h10) h6) h6)
  (br (x7 == (1 : Int))
  (ldW (.int .i64) (Addr.add a1 1) (fun (x16 : Int) =>
  ldW (.int .u32) (Addr.add a1 2) (fun (x17 : Int) =>
  ldW .bool (Addr.add a1 3) (fun (x18 : Bool) =>
  callT Tryz.prog 21 [.pointer (some c_0), .int .i64 x16, .int .u32 x17, .bool x18] [.sc .bool] (fun (r19 : Bool) h20 =>
  stW (Addr.add a5 1) (.bool r19) (fun h21 =>
  ldAggW [.int .u32, .bool, .int .i64] a5 (fun (x22 : Int × Bool × Int) =>
  stLW a3 [.int .u32 x22.1, .bool x22.2.1, .int .i64 x22.2.2] (fun h23 =>
  ldAggW [.int .u32, .bool, .int .i64] a3 (fun (x24 : Int × Bool × Int) =>
  K (.agg #[.int .u32 x24.1, .bool x24.2.1, .int .i64 x24.2.2]) h23) h23) h21) h21) h20) h6) h6) h6) h6)
  (br (x7 == (2 : Int))
  (ldW (.int .i64) (Addr.add a1 1) (fun (x25 : Int) =>
  ldW (.int .u32) (Addr.add a1 2) (fun (x26 : Int) =>
  callT Tryz.prog 24 [.pointer (some c_0), .int .i64 x25, .int .u32 x26] [.sc .bool] (fun (r27 : Bool) h28 =>
  stW (Addr.add a5 1) (.bool r27) (fun h29 =>
  ldAggW [.int .u32, .bool, .int .i64] a5 (fun (x30 : Int × Bool × Int) =>
  stLW a3 [.int .u32 x30.1, .bool x30.2.1, .int .i64 x30.2.2] (fun h31 =>
  ldAggW [.int .u32, .bool, .int .i64] a3 (fun (x32 : Int × Bool × Int) =>
  K (.agg #[.int .u32 x32.1, .bool x32.2.1, .int .i64 x32.2.2]) h31) h31) h29) h29) h28) h6) h6) h6)
  (br (x7 == (3 : Int))
  (ldW (.int .i64) (Addr.add a1 1) (fun (x33 : Int) =>
  callT Tryz.prog 25 [.pointer (some c_0), .int .i64 x33] [.sc .bool] (fun (r34 : Bool) h35 =>
  stW (Addr.add a5 1) (.bool r34) (fun h36 =>
  ldAggW [.int .u32, .bool, .int .i64] a5 (fun (x37 : Int × Bool × Int) =>
  stLW a3 [.int .u32 x37.1, .bool x37.2.1, .int .i64 x37.2.2] (fun h38 =>
  ldAggW [.int .u32, .bool, .int .i64] a3 (fun (x39 : Int × Bool × Int) =>
  K (.agg #[.int .u32 x39.1, .bool x39.2.1, .int .i64 x39.2.2]) h38) h38) h36) h36) h35) h6) h6)
  (br (x7 == (4 : Int))
  (ldW (.int .i64) (Addr.add a1 1) (fun (x40 : Int) =>
  callT Tryz.prog 23 [.pointer (some c_0), .int .i64 x40] [.sc (.int .i64)] (fun (r41 : Int) h42 =>
  stW (Addr.add a5 2) (.int .i64 r41) (fun h43 =>
  ldAggW [.int .u32, .bool, .int .i64] a5 (fun (x44 : Int × Bool × Int) =>
  stLW a3 [.int .u32 x44.1, .bool x44.2.1, .int .i64 x44.2.2] (fun h45 =>
  ldAggW [.int .u32, .bool, .int .i64] a3 (fun (x46 : Int × Bool × Int) =>
  K (.agg #[.int .u32 x46.1, .bool x46.2.1, .int .i64 x46.2.2]) h45) h45) h43) h43) h42) h6) h6)
  (br (x7 == (5 : Int))
  (callT Tryz.prog 19 [.pointer (some c_0)] [.agg [.int .i64, .int .u32, .bool], .sc .bool] (fun (r47 : (Int × Int × Bool) × Bool) h48 =>
  newW (.cells (zeroC Tryz.prog 60) 60) (fun a49 h50 =>
  stLW a49 [.int .i64 r47.1.1, .int .u32 r47.1.2.1, .bool r47.1.2.2] (fun h51 =>
  br r47.2
  (ldW (.int .i64) (Addr.add a49 0) (fun (x52 : Int) =>
  callT Tryz.prog 25 [.pointer (some c_0), .int .i64 x52] [.sc .bool] (fun (r53 : Bool) h54 =>
  stW (Addr.add a5 1) (.bool r53) (fun h55 =>
  ldAggW [.int .u32, .bool, .int .i64] a5 (fun (x56 : Int × Bool × Int) =>
  stLW a3 [.int .u32 x56.1, .bool x56.2.1, .int .i64 x56.2.2] (fun h57 =>
  ldAggW [.int .u32, .bool, .int .i64] a3 (fun (x58 : Int × Bool × Int) =>
  K (.agg #[.int .u32 x58.1, .bool x58.2.1, .int .i64 x58.2.2]) h57) h57) h55) h55) h54) h51) h51)
  (ldAggW [.int .u32, .bool, .int .i64] a5 (fun (x59 : Int × Bool × Int) =>
  stLW a3 [.int .u32 x59.1, .bool x59.2.1, .int .i64 x59.2.2] (fun h60 =>
  ldAggW [.int .u32, .bool, .int .i64] a3 (fun (x61 : Int × Bool × Int) =>
  K (.agg #[.int .u32 x61.1, .bool x61.2.1, .int .i64 x61.2.2]) h60) h60) h51) h51)) h50) h48) h6)
  (ldW (.int .i64) (Addr.add a1 1) (fun (x62 : Int) =>
  callT Tryz.prog 22 [.pointer (some c_0), .int .i64 x62] [.sc (.int .u32), .sc .bool] (fun (r63 : Int × Bool) h64 =>
  stW (Addr.add a5 0) (.int .u32 r63.1) (fun h65 =>
  stW (Addr.add a5 1) (.bool r63.2) (fun h66 =>
  ldAggW [.int .u32, .bool, .int .i64] a5 (fun (x67 : Int × Bool × Int) =>
  stLW a3 [.int .u32 x67.1, .bool x67.2.1, .int .i64 x67.2.2] (fun h68 =>
  ldAggW [.int .u32, .bool, .int .i64] a3 (fun (x69 : Int × Bool × Int) =>
  K (.agg #[.int .u32 x69.1, .bool x69.2.1, .int .i64 x69.2.2]) h68) h68) h66) h66) h65) h64) h6) h6))))))) h6) h4) h2) h0)
set_option maxRecDepth 100000 in
theorem F8_eq (c_0 : Addr) (x_1_0 : Int) (x_1_1 : Int) (x_1_2 : Int) (x_1_3 : Bool) (K : Value → Heap → Prop) (h0 : Heap) : funWE Tryz.prog 8 (.seq (.leaf) (.seq (.leaf) (.seq (.seq (.leaf) (.block (.seq (.leaf) (.cond (.leaf) (.seq (.leaf) (.cond (.leaf) (.seq (.leaf) (.cond (.leaf) (.seq (.leaf) (.cond (.leaf) (.seq (.leaf) (.cond (.leaf) (.seq (.leaf) (.cond (.seq (.leaf) (.seq (.leaf) (.cond (.leaf) (.leaf)))) (.leaf))))))))))))))) (.seq (.leaf) (.leaf))))) [.pointer (some c_0), .agg #[.int .i64 x_1_0, .int .i64 x_1_1, .int .u32 x_1_2, .bool x_1_3]] K h0 = F8 c_0 x_1_0 x_1_1 x_1_2 x_1_3 K h0 := by kernel_rfl

-- function 12
set_option maxRecDepth 100000 in
def F12 (l_0 : Option Addr) (l_0l _l_0c : Nat) (K : Value → Heap → Prop) (h0 : Heap) : Prop := (
  newW (.cells #[] 63) (fun a1 h2 =>
  loopT [.sc .slice, .sc (.int .i64)] (fun (s4 : (Option Addr × Nat × Nat) × Int) _ (K3 : ((Option Addr × Nat × Nat) × Int) → Heap → Prop) h5 =>
  br (decide (s4.2 < (((l_0l : Nat) : Int))))
  (ptrW l_0 (fun a6 =>
  idxW s4.2 l_0l true (ldAggW [.int .i64, .int .u32, .bool] (Addr.add a6 (Int.toNat s4.2 * 3)) (fun (x7 : Int × Int × Bool) =>
  newW (.cells (zeroC Tryz.prog 60) 60) (fun a8 h9 =>
  stLW a8 [.int .i64 x7.1, .int .u32 x7.2.1, .bool x7.2.2] (fun h10 =>
  ldAggW [.int .i64, .int .u32, .bool] a8 (fun (x11 : Int × Int × Bool) =>
  newW (.cells #[.int .i64 x11.1, .int .u32 x11.2.1, .bool x11.2.2] 63) (fun a12 h13 =>
  apW Tryz.prog #[48, 48] #[.slice s4.1.1 s4.1.2.1 s4.1.2.2, .slice (some a12) 1 1] (fun b14 n15 c16 h17 =>
  K3 ((b14, n15, c16), (IntKind.wrap .i64 (s4.2 + (1 : Int)))) h17) h13) h10) h10) h9) h5) h5)))
  (K (.slice s4.1.1 s4.1.2.1 s4.1.2.2) h5)) (((some a1), 0, 0), (0 : Int)) h2) h0)
set_option maxRecDepth 100000 in
theorem F12_eq (l_0 : Option Addr) (l_0l l_0c : Nat) (K : Value → Heap → Prop) (h0 : Heap) : funWE Tryz.prog 12 (.seq (.leaf) (.seq (.leaf) (.seq (.seq (.leaf) (.block (.loop [(3, .sc .slice), (9, .sc (.int .i64))] (.seq (.leaf) (.seq (.cond (.leaf) (.leaf)) (.seq (.block (.seq (.leaf) (.leaf))) (.leaf))))))) (.seq (.leaf) (.leaf))))) [.slice l_0 l_0l l_0c] K h0 = F12 l_0 l_0l l_0c K h0 := by kernel_rfl

-- function 11
set_option maxRecDepth 100000 in
def F11 (a_0 : Option Addr) (a_0l _a_0c : Nat) (b_1 : Option Addr) (b_1l _b_1c : Nat) (K : Value → Heap → Prop) (h0 : Heap) : Prop := (
  br ((((a_0l : Nat) : Int)) != (((b_1l : Nat) : Int)))
  (K (.bool false) h0)
  (loopT [.sc (.int .i64)] (fun (s2 : Int) _ (K1 : Int → Heap → Prop) h3 =>
  br (decide (s2 < (((a_0l : Nat) : Int))))
  (ptrW a_0 (fun a4 =>
  idxW s2 a_0l true (ldAggW [.int .i64, .int .u32, .bool] (Addr.add a4 (Int.toNat s2 * 3)) (fun (x5 : Int × Int × Bool) =>
  ptrW b_1 (fun a6 =>
  idxW s2 b_1l true (ldAggW [.int .i64, .int .u32, .bool] (Addr.add a6 (Int.toNat s2 * 3)) (fun (x7 : Int × Int × Bool) =>
  eqGen Tryz.prog 63 (.agg #[.int .i64 x5.1, .int .u32 x5.2.1, .bool x5.2.2]) (.agg #[.int .i64 x7.1, .int .u32 x7.2.1, .bool x7.2.2]) (fun b8 =>
  br (!b8)
  (K (.bool false) h3)
  (K1 (IntKind.wrap .i64 (s2 + (1 : Int))) h3))) h3))) h3)))
  (K (.bool true) h3)) (0 : Int) h0))
set_option maxRecDepth 100000 in
theorem F11_eq (a_0 : Option Addr) (a_0l a_0c : Nat) (b_1 : Option Addr) (b_1l b_1c : Nat) (K : Value → Heap → Prop) (h0 : Heap) : funWE Tryz.prog 11 (.seq (.leaf) (.seq (.seq (.leaf) (.cond (.seq (.leaf) (.leaf)) (.leaf))) (.seq (.seq (.leaf) (.block (.loop [(5, .sc (.int .i64))] (.seq (.seq (.leaf) (.cond (.leaf) (.leaf))) (.seq (.block (.seq (.draw (odp [0, 1, 2, 3, 4, 5, 6, 7, 8] .nil) []) (.cond (.seq (.leaf) (.leaf)) (.leaf)))) (.leaf)))))) (.seq (.leaf) (.leaf))))) [.slice a_0 a_0l a_0c, .slice b_1 b_1l b_1c] K h0 = F11 a_0 a_0l a_0c b_1 b_1l b_1c K h0 := by kernel_rfl

end Go.Proofs.YtfanjfbenhocnaaGreatDoor.W
