/-
  The formulas of the laws' own functions of layer 16. Each formula checked by the kernel. Printed by a program of this repo.
-/
import Derived.Test.YtgohecjnjadnpaaDoorProg
import Derived.Test.YtgohecjnjadnpaaDoorPl
namespace Go.Proofs.YtgohecjnjadnpaaDoor.W
open Go.Pl

-- function 42
set_option maxRecDepth 100000 in
def F42  (K : Value → Heap → Prop) (h0 : Heap) : Prop := (
  newW (.cells (zeroC Tryd.prog 85) 85) (fun a1 h2 =>
  stLW a1 [.int .i64 11, .int .i64 4, .int .i64 6] (fun h3 =>
  callT Tryd.prog 25 [.int .i64 11, .int .i64 4] [.sc .ptr, .sc .any] (fun (r4 : (Option Addr) × Value) h5 =>
  br (Option.isNone r4.1)
  (K (.bool false) h5)
  (newW (.cells (zeroC Tryd.prog 24) 24) (fun a6 h7 =>
  stLW a6 [.int .u8 1, .int .u32 1, .int .u32 2, .int .u32 3] (fun h8 =>
  mkW Tryd.prog 5 (16 : Int) (16 : Int) (fun b9 n10 c11 h12 =>
  ptrW b9 (fun a13 =>
  idxW (3 : Int) n10 true (stW (Addr.add a13 (Int.toNat (3 : Int) * 1)) (.int .u8 9) (fun h14 =>
  ldAggW [.int .i64, .int .i64, .int .i64] a1 (fun (x15 : Int × Int × Int) =>
  ldAggW [.int .u8, .int .u32, .int .u32, .int .u32] a6 (fun (x16 : Int × Int × Int × Int) =>
  callT Tryd.prog 47 [.pointer r4.1, .agg #[.int .i64 x15.1, .int .i64 x15.2.1, .int .i64 x15.2.2], .int .i64 1, .agg #[.int .u8 x16.1, .int .u32 x16.2.1, .int .u32 x16.2.2.1, .int .u32 x16.2.2.2], .slice b9 n10 c11] [.sc (.int .u32), .sc .any] (fun (r17 : Int × Value) h18 =>
  ldAggW [.int .i64, .int .i64, .int .i64] a1 (fun (x19 : Int × Int × Int) =>
  ldAggW [.int .u8, .int .u32, .int .u32, .int .u32] a6 (fun (x20 : Int × Int × Int × Int) =>
  callT Tryd.prog 47 [.pointer r4.1, .agg #[.int .i64 x19.1, .int .i64 x19.2.1, .int .i64 x19.2.2], .int .i64 1, .agg #[.int .u8 x20.1, .int .u32 x20.2.1, .int .u32 x20.2.2.1, .int .u32 x20.2.2.2], .slice b9 n10 c11] [.sc (.int .u32), .sc .any] (fun (r21 : Int × Value) h22 =>
  ldAggW [.int .i64, .int .i64, .int .i64] a1 (fun (x23 : Int × Int × Int) =>
  ldAggW [.int .u8, .int .u32, .int .u32, .int .u32] a6 (fun (x24 : Int × Int × Int × Int) =>
  callT Tryd.prog 47 [.pointer r4.1, .agg #[.int .i64 x23.1, .int .i64 x23.2.1, .int .i64 x23.2.2], .int .i64 9, .agg #[.int .u8 x24.1, .int .u32 x24.2.1, .int .u32 x24.2.2.1, .int .u32 x24.2.2.2], .slice b9 n10 c11] [.sc (.int .u32), .sc .any] (fun (r25 : Int × Value) h26 =>
  ldAggW [.int .i64, .int .i64, .int .i64] a1 (fun (x27 : Int × Int × Int) =>
  callT Tryd.prog 52 [.pointer r4.1, .agg #[.int .i64 x27.1, .int .i64 x27.2.1, .int .i64 x27.2.2], .int .u32 6] [.agg [.int .u8, .int .u32, .int .u32, .int .u32], .sc .slice, .sc .any] (fun (r28 : (Int × Int × Int × Int) × (Option Addr × Nat × Nat) × Value) h29 =>
  newW (.cells (zeroC Tryd.prog 24) 24) (fun a30 h31 =>
  stLW a30 [.int .u8 r28.1.1, .int .u32 r28.1.2.1, .int .u32 r28.1.2.2.1, .int .u32 r28.1.2.2.2] (fun h32 =>
  ldAggW [.int .i64, .int .i64, .int .i64] a1 (fun (x33 : Int × Int × Int) =>
  callT Tryd.prog 46 [.pointer r4.1, .agg #[.int .i64 x33.1, .int .i64 x33.2.1, .int .i64 x33.2.2]] [.sc .slice] (fun (r34 : (Option Addr × Nat × Nat)) h35 =>
  br (r17.1 == (5 : Int))
  (ifW r17.2 (br (isNilV r17.2)
  (br (r21.1 == (6 : Int))
  (ifW r21.2 (br (isNilV r21.2)
  (callT Tryd.prog 20 [r25.2] [.sc (.int .i64)] (fun (r36 : Int) h37 =>
  br (r36 == (1 : Int))
  (ldAggW [.int .u8, .int .u32, .int .u32, .int .u32] a30 (fun (x38 : Int × Int × Int × Int) =>
  ldAggW [.int .u8, .int .u32, .int .u32, .int .u32] a6 (fun (x39 : Int × Int × Int × Int) =>
  eqGen Tryd.prog 24 (.agg #[.int .u8 x38.1, .int .u32 x38.2.1, .int .u32 x38.2.2.1, .int .u32 x38.2.2.2]) (.agg #[.int .u8 x39.1, .int .u32 x39.2.1, .int .u32 x39.2.2.1, .int .u32 x39.2.2.2]) (fun b40 =>
  br b40
  (callT Tryd.prog 19 [.slice b9 n10 c11, .slice r28.2.1.1 r28.2.1.2.1 r28.2.1.2.2] [.sc .bool] (fun (r41 : Bool) h42 =>
  br r41
  (ifW r28.2.2 (br (isNilV r28.2.2)
  (br ((((r34.2.1 : Nat) : Int)) == (2 : Int))
  (ptrW r34.1 (fun a43 =>
  idxW (1 : Int) r34.2.1 true (ldAggW [.int .u32, .int .u8, .int .u32, .int .u32, .int .u32] (Addr.add a43 (Int.toNat (1 : Int) * 5)) (fun (x44 : Int × Int × Int × Int × Int) =>
  ldAggW [.int .u8, .int .u32, .int .u32, .int .u32] a6 (fun (x45 : Int × Int × Int × Int) =>
  eqGen Tryd.prog 109 (.agg #[.int .u32 x44.1, .int .u8 x44.2.1, .int .u32 x44.2.2.1, .int .u32 x44.2.2.2.1, .int .u32 x44.2.2.2.2]) (.agg #[.int .u32 6, .int .u8 x45.1, .int .u32 x45.2.1, .int .u32 x45.2.2.1, .int .u32 x45.2.2.2]) (fun b46 =>
  br b46
  (ldAggW [.int .i64, .int .i64, .int .i64] a1 (fun (x47 : Int × Int × Int) =>
  callT Tryd.prog 83 [.pointer r4.1, .agg #[.int .i64 x47.1, .int .i64 x47.2.1, .int .i64 x47.2.2]] [.sc .bool] (fun (r48 : Bool) h49 =>
  br r48
  (callT Tryd.prog 83 [.pointer r4.1, .agg #[.int .i64 12, .int .i64 4, .int .i64 6]] [.sc .bool] (fun (r50 : Bool) h51 =>
  K (.bool (!r50)) h51) h49)
  (K (.bool false) h49)) h42) h42)
  (K (.bool false) h42))) h42) h42)))
  (K (.bool false) h42))
  (K (.bool false) h42)))
  (K (.bool false) h42)) h37)
  (K (.bool false) h37))) h37) h37)
  (K (.bool false) h37)) h35)
  (K (.bool false) h35)))
  (K (.bool false) h35))
  (K (.bool false) h35)))
  (K (.bool false) h35)) h32) h32) h31) h29) h26) h26) h22) h22) h22) h18) h18) h18) h14) h14) h14) h12))) h8) h7) h5)) h3) h2) h0)
set_option maxRecDepth 100000 in
theorem F42_eq  (K : Value → Heap → Prop) (h0 : Heap) : funWE Tryd.prog 42 (.seq (.leaf) (.seq (.leaf) (.seq (.leaf) (.seq (.seq (.leaf) (.cond (.seq (.leaf) (.leaf)) (.leaf))) (.seq (.leaf) (.seq (.leaf) (.seq (.leaf) (.seq (.leaf) (.seq (.leaf) (.seq (.leaf) (.seq (.leaf) (.seq (.leaf) (.seq (.draw (odp [0, 1, 2, 3, 4, 5, 6, 7, 8, 9, 10, 11, 12, 13, 14, 15, 16, 17, 18, 19, 20, 21, 22, 23, 24, 25, 26, 27, 28, 29, 30, 31, 32, 33, 34, 35, 36, 37, 38, 39, 40, 41, 42, 43, 44, 45, 46, 47, 48, 49, 50, 51, 52, 53, 54, 55, 56, 57] .nil) []) (.leaf)))))))))))))) [] K h0 = F42  K h0 := by kernel_rfl

-- function 44
set_option maxRecDepth 100000 in
def F44 (l_0 : Option Addr) (l_0l _l_0c : Nat) (K : Value → Heap → Prop) (h0 : Heap) : Prop := (
  br (decide ((((l_0l : Nat) : Int)) > (100 : Int)))
  (K (.bool true) h0)
  (loopT [.sc (.int .i64)] (fun (s2 : Int) _ (K1 : Int → Heap → Prop) h3 =>
  br (decide (s2 < (((l_0l : Nat) : Int))))
  (ptrW l_0 (fun a4 =>
  idxW s2 l_0l true (ldAggW [.int .i64, .int .i64, .int .u32, .int .u8, .int .u32, .int .u32, .int .u32, .slice, .slice, .slice] (Addr.add a4 (Int.toNat s2 * 10)) (fun (x5 : Int × Int × Int × Int × Int × Int × Int × (Option Addr × Nat × Nat) × (Option Addr × Nat × Nat) × (Option Addr × Nat × Nat)) =>
  newW (.cells (zeroC Tryd.prog 88) 88) (fun a6 h7 =>
  stLW a6 [.int .i64 x5.1, .int .i64 x5.2.1, .int .u32 x5.2.2.1, .int .u8 x5.2.2.2.1, .int .u32 x5.2.2.2.2.1, .int .u32 x5.2.2.2.2.2.1, .int .u32 x5.2.2.2.2.2.2.1, .slice x5.2.2.2.2.2.2.2.1.1 x5.2.2.2.2.2.2.2.1.2.1 x5.2.2.2.2.2.2.2.1.2.2, .slice x5.2.2.2.2.2.2.2.2.1.1 x5.2.2.2.2.2.2.2.2.1.2.1 x5.2.2.2.2.2.2.2.2.1.2.2, .slice x5.2.2.2.2.2.2.2.2.2.1 x5.2.2.2.2.2.2.2.2.2.2.1 x5.2.2.2.2.2.2.2.2.2.2.2] (fun h8 =>
  ldW .slice (Addr.add a6 7) (fun (x9 : Option Addr × Nat × Nat) =>
  br (decide ((((x9.2.1 : Nat) : Int)) > (100 : Int)))
  (K (.bool true) h8)
  (ldW .slice (Addr.add a6 8) (fun (x10 : Option Addr × Nat × Nat) =>
  br (decide ((((x10.2.1 : Nat) : Int)) > (100 : Int)))
  (K (.bool true) h8)
  (ldW .slice (Addr.add a6 9) (fun (x11 : Option Addr × Nat × Nat) =>
  br (decide ((((x11.2.1 : Nat) : Int)) > (100 : Int)))
  (K (.bool true) h8)
  (K1 (IntKind.wrap .i64 (s2 + (1 : Int))) h8)) h8)) h8)) h8) h7) h3) h3)))
  (K (.bool false) h3)) (0 : Int) h0))
set_option maxRecDepth 100000 in
theorem F44_eq (l_0 : Option Addr) (l_0l l_0c : Nat) (K : Value → Heap → Prop) (h0 : Heap) : funWE Tryd.prog 44 (.seq (.leaf) (.seq (.seq (.leaf) (.cond (.seq (.leaf) (.leaf)) (.leaf))) (.seq (.seq (.leaf) (.block (.loop [(10, .sc (.int .i64))] (.seq (.leaf) (.seq (.cond (.leaf) (.leaf)) (.seq (.block (.seq (.leaf) (.seq (.leaf) (.cond (.seq (.leaf) (.leaf)) (.leaf))))) (.leaf))))))) (.seq (.leaf) (.leaf))))) [.slice l_0 l_0l l_0c] K h0 = F44 l_0 l_0l l_0c K h0 := by kernel_rfl

-- function 48
set_option maxRecDepth 100000 in
def F48 (l_0 : Option Addr) (l_0l _l_0c : Nat) (K : Value → Heap → Prop) (h0 : Heap) : Prop := (
  newW (.cells #[] 102) (fun a1 h2 =>
  loopT [.sc .slice, .sc (.int .i64)] (fun (s4 : (Option Addr × Nat × Nat) × Int) _ (K3 : ((Option Addr × Nat × Nat) × Int) → Heap → Prop) h5 =>
  br (decide (s4.2 < (((l_0l : Nat) : Int))))
  (ptrW l_0 (fun a6 =>
  idxW s4.2 l_0l true (ldAggW [.int .u32, .int .u8, .int .u32, .int .u32, .int .u32] (Addr.add a6 (Int.toNat s4.2 * 5)) (fun (x7 : Int × Int × Int × Int × Int) =>
  newW (.cells (zeroC Tryd.prog 109) 109) (fun a8 h9 =>
  stLW a8 [.int .u32 x7.1, .int .u8 x7.2.1, .int .u32 x7.2.2.1, .int .u32 x7.2.2.2.1, .int .u32 x7.2.2.2.2] (fun h10 =>
  ldW (.int .u32) (Addr.add a8 0) (fun (x11 : Int) =>
  ldAggW [.int .u8, .int .u32, .int .u32, .int .u32] (Addr.add a8 1) (fun (x12 : Int × Int × Int × Int) =>
  newW (.cells #[.int .u32 x11, .int .u8 x12.1, .int .u32 x12.2.1, .int .u32 x12.2.2.1, .int .u32 x12.2.2.2] 102) (fun a13 h14 =>
  apW Tryd.prog #[99, 99] #[.slice s4.1.1 s4.1.2.1 s4.1.2.2, .slice (some a13) 1 1] (fun b15 n16 c17 h18 =>
  K3 ((b15, n16, c17), (IntKind.wrap .i64 (s4.2 + (1 : Int)))) h18) h14) h10) h10) h10) h9) h5) h5)))
  (K (.slice s4.1.1 s4.1.2.1 s4.1.2.2) h5)) (((some a1), 0, 0), (0 : Int)) h2) h0)
set_option maxRecDepth 100000 in
theorem F48_eq (l_0 : Option Addr) (l_0l l_0c : Nat) (K : Value → Heap → Prop) (h0 : Heap) : funWE Tryd.prog 48 (.seq (.leaf) (.seq (.leaf) (.seq (.seq (.leaf) (.block (.loop [(3, .sc .slice), (9, .sc (.int .i64))] (.seq (.leaf) (.seq (.cond (.leaf) (.leaf)) (.seq (.block (.seq (.leaf) (.leaf))) (.leaf))))))) (.seq (.leaf) (.leaf))))) [.slice l_0 l_0l l_0c] K h0 = F48 l_0 l_0l l_0c K h0 := by kernel_rfl

-- function 45
set_option maxRecDepth 100000 in
def F45 (d_0 : Addr) (g_1_0 : Int) (g_1_1 : Int) (g_1_2 : Int) (x_2_0 : Int) (x_2_1 : Int) (x_2_2 : Int) (x_2_3 : Int) (x_2_4 : Int) (x_2_5 : Int) (x_2_6 : Int) (x_2_7 : Option Addr) (x_2_7l x_2_7c : Nat) (x_2_8 : Option Addr) (x_2_8l x_2_8c : Nat) (x_2_9 : Option Addr) (x_2_9l x_2_9c : Nat) (K : Value → Heap → Prop) (h0 : Heap) : Prop := (
  newW (.cells #[.int .i64 g_1_0, .int .i64 g_1_1, .int .i64 g_1_2] 85) (fun a1 h2 =>
  newW (.cells #[.int .i64 x_2_0, .int .i64 x_2_1, .int .u32 x_2_2, .int .u8 x_2_3, .int .u32 x_2_4, .int .u32 x_2_5, .int .u32 x_2_6, .slice x_2_7 x_2_7l x_2_7c, .slice x_2_8 x_2_8l x_2_8c, .slice x_2_9 x_2_9l x_2_9c] 88) (fun a3 h4 =>
  newW (.cells (zeroC Tryd.prog 93) 93) (fun a5 h6 =>
  newW (.cells (zeroC Tryd.prog 93) 93) (fun a7 h8 =>
  cutT [.sc .any] (fun (K9 : Value → Heap → Prop) h40 =>
  ldW (.int .i64) (Addr.add a3 0) (fun (x10 : Int) =>
  br (x10 == (0 : Int))
  (ldAggW [.int .i64, .int .i64, .int .i64] a1 (fun (x11 : Int × Int × Int) =>
  ldW (.int .i64) (Addr.add a3 1) (fun (x12 : Int) =>
  ldAggW [.int .u8, .int .u32, .int .u32, .int .u32] (Addr.add a3 3) (fun (x13 : Int × Int × Int × Int) =>
  ldW .slice (Addr.add a3 7) (fun (x14 : Option Addr × Nat × Nat) =>
  callT Tryd.prog 47 [.pointer (some d_0), .agg #[.int .i64 x11.1, .int .i64 x11.2.1, .int .i64 x11.2.2], .int .i64 x12, .agg #[.int .u8 x13.1, .int .u32 x13.2.1, .int .u32 x13.2.2.1, .int .u32 x13.2.2.2], .slice x14.1 x14.2.1 x14.2.2] [.sc (.int .u32), .sc .any] (fun (r15 : Int × Value) h16 =>
  stW (Addr.add a7 0) (.int .u32 r15.1) (fun h17 =>
  K9 r15.2 h17) h16) h40) h40) h40) h40) h40)
  (br (x10 == (1 : Int))
  (newW (.cells (zeroC Tryd.prog 24) 24) (fun a18 h19 =>
  ldAggW [.int .i64, .int .i64, .int .i64] a1 (fun (x20 : Int × Int × Int) =>
  ldW (.int .u32) (Addr.add a3 2) (fun (x21 : Int) =>
  callT Tryd.prog 52 [.pointer (some d_0), .agg #[.int .i64 x20.1, .int .i64 x20.2.1, .int .i64 x20.2.2], .int .u32 x21] [.agg [.int .u8, .int .u32, .int .u32, .int .u32], .sc .slice, .sc .any] (fun (r22 : (Int × Int × Int × Int) × (Option Addr × Nat × Nat) × Value) h23 =>
  stLW a18 [.int .u8 r22.1.1, .int .u32 r22.1.2.1, .int .u32 r22.1.2.2.1, .int .u32 r22.1.2.2.2] (fun h24 =>
  stW (Addr.add a7 5) (.slice r22.2.1.1 r22.2.1.2.1 r22.2.1.2.2) (fun h25 =>
  ldAggW [.int .u8, .int .u32, .int .u32, .int .u32] a18 (fun (x26 : Int × Int × Int × Int) =>
  stLW (Addr.add a7 1) [.int .u8 x26.1, .int .u32 x26.2.1, .int .u32 x26.2.2.1, .int .u32 x26.2.2.2] (fun h27 =>
  K9 r22.2.2 h27) h25) h25) h24) h23) h19) h19) h19) h40)
  (br (x10 == (2 : Int))
  (ldW (.int .i64) (Addr.add a3 1) (fun (x28 : Int) =>
  callT Tryd.prog 67 [.pointer (some d_0), .int .i64 x28] [.sc .any] (fun (r29 : Value) h30 =>
  K9 r29 h30) h40) h40)
  (br (x10 == (3 : Int))
  (callT Tryd.prog 38 [.pointer (some d_0)] [.sc .any] (fun (r31 : Value) h32 =>
  K9 r31 h32) h40)
  (br (x10 == (4 : Int))
  (ldW (.int .i64) (Addr.add a3 1) (fun (x33 : Int) =>
  callT Tryd.prog 35 [.pointer (some d_0), .int .i64 x33] [] (fun (_r34 : Unit) h35 =>
  K9 (.nilIface : Value) h35) h40) h40)
  (br (x10 == (5 : Int))
  (ldW .slice (Addr.add a3 8) (fun (x36 : Option Addr × Nat × Nat) =>
  ldW .slice (Addr.add a3 9) (fun (x37 : Option Addr × Nat × Nat) =>
  callT Tryd.prog 37 [.pointer (some d_0), .slice x36.1 x36.2.1 x36.2.2, .slice x37.1 x37.2.1 x37.2.2] [] (fun (_r38 : Unit) h39 =>
  K9 (.nilIface : Value) h39) h40) h40) h40)
  (K9 (.nilIface : Value) h40))))))) h40) (fun (s41 : Value) _ h42 =>
  callT Tryd.prog 20 [s41] [.sc (.int .i64)] (fun (r43 : Int) h44 =>
  stW (Addr.add a7 6) (.int .i64 r43) (fun h45 =>
  ldAggW [.int .u32, .int .u8, .int .u32, .int .u32, .int .u32, .slice, .int .i64] a7 (fun (x46 : Int × Int × Int × Int × Int × (Option Addr × Nat × Nat) × Int) =>
  stLW a5 [.int .u32 x46.1, .int .u8 x46.2.1, .int .u32 x46.2.2.1, .int .u32 x46.2.2.2.1, .int .u32 x46.2.2.2.2.1, .slice x46.2.2.2.2.2.1.1 x46.2.2.2.2.2.1.2.1 x46.2.2.2.2.2.1.2.2, .int .i64 x46.2.2.2.2.2.2] (fun h47 =>
  ldAggW [.int .u32, .int .u8, .int .u32, .int .u32, .int .u32, .slice, .int .i64] a5 (fun (x48 : Int × Int × Int × Int × Int × (Option Addr × Nat × Nat) × Int) =>
  K (.agg #[.int .u32 x48.1, .int .u8 x48.2.1, .int .u32 x48.2.2.1, .int .u32 x48.2.2.2.1, .int .u32 x48.2.2.2.2.1, .slice x48.2.2.2.2.2.1.1 x48.2.2.2.2.2.1.2.1 x48.2.2.2.2.2.1.2.2, .int .i64 x48.2.2.2.2.2.2]) h47) h47) h45) h45) h44) h42) h8) h6) h4) h2) h0)
set_option maxRecDepth 100000 in
theorem F45_eq (d_0 : Addr) (g_1_0 : Int) (g_1_1 : Int) (g_1_2 : Int) (x_2_0 : Int) (x_2_1 : Int) (x_2_2 : Int) (x_2_3 : Int) (x_2_4 : Int) (x_2_5 : Int) (x_2_6 : Int) (x_2_7 : Option Addr) (x_2_7l x_2_7c : Nat) (x_2_8 : Option Addr) (x_2_8l x_2_8c : Nat) (x_2_9 : Option Addr) (x_2_9l x_2_9c : Nat) (K : Value → Heap → Prop) (h0 : Heap) : funWE Tryd.prog 45 (.seq (.leaf) (.seq (.leaf) (.seq (.leaf) (.cut [(8, .sc .any)] (.seq (.leaf) (.block (.seq (.leaf) (.cond (.leaf) (.seq (.leaf) (.cond (.seq (.leaf) (.seq (.leaf) (.leaf))) (.seq (.leaf) (.cond (.leaf) (.seq (.leaf) (.cond (.leaf) (.seq (.leaf) (.cond (.leaf) (.seq (.leaf) (.cond (.leaf) (.leaf))))))))))))))) (.seq (.leaf) (.seq (.leaf) (.leaf))))))) [.pointer (some d_0), .agg #[.int .i64 g_1_0, .int .i64 g_1_1, .int .i64 g_1_2], .agg #[.int .i64 x_2_0, .int .i64 x_2_1, .int .u32 x_2_2, .int .u8 x_2_3, .int .u32 x_2_4, .int .u32 x_2_5, .int .u32 x_2_6, .slice x_2_7 x_2_7l x_2_7c, .slice x_2_8 x_2_8l x_2_8c, .slice x_2_9 x_2_9l x_2_9c]] K h0 = F45 d_0 g_1_0 g_1_1 g_1_2 x_2_0 x_2_1 x_2_2 x_2_3 x_2_4 x_2_5 x_2_6 x_2_7 x_2_7l x_2_7c x_2_8 x_2_8l x_2_8c x_2_9 x_2_9l x_2_9c K h0 := by kernel_rfl

-- function 49
set_option maxRecDepth 100000 in
def F49 (a_0 : Option Addr) (a_0l _a_0c : Nat) (b_1 : Option Addr) (b_1l _b_1c : Nat) (K : Value → Heap → Prop) (h0 : Heap) : Prop := (
  br ((((a_0l : Nat) : Int)) != (((b_1l : Nat) : Int)))
  (K (.bool false) h0)
  (loopT [.sc (.int .i64)] (fun (s2 : Int) _ (K1 : Int → Heap → Prop) h3 =>
  br (decide (s2 < (((a_0l : Nat) : Int))))
  (ptrW a_0 (fun a4 =>
  idxW s2 a_0l true (ldAggW [.int .u32, .int .u8, .int .u32, .int .u32, .int .u32] (Addr.add a4 (Int.toNat s2 * 5)) (fun (x5 : Int × Int × Int × Int × Int) =>
  ptrW b_1 (fun a6 =>
  idxW s2 b_1l true (ldAggW [.int .u32, .int .u8, .int .u32, .int .u32, .int .u32] (Addr.add a6 (Int.toNat s2 * 5)) (fun (x7 : Int × Int × Int × Int × Int) =>
  eqGen Tryd.prog 102 (.agg #[.int .u32 x5.1, .int .u8 x5.2.1, .int .u32 x5.2.2.1, .int .u32 x5.2.2.2.1, .int .u32 x5.2.2.2.2]) (.agg #[.int .u32 x7.1, .int .u8 x7.2.1, .int .u32 x7.2.2.1, .int .u32 x7.2.2.2.1, .int .u32 x7.2.2.2.2]) (fun b8 =>
  br (!b8)
  (K (.bool false) h3)
  (K1 (IntKind.wrap .i64 (s2 + (1 : Int))) h3))) h3))) h3)))
  (K (.bool true) h3)) (0 : Int) h0))
set_option maxRecDepth 100000 in
theorem F49_eq (a_0 : Option Addr) (a_0l a_0c : Nat) (b_1 : Option Addr) (b_1l b_1c : Nat) (K : Value → Heap → Prop) (h0 : Heap) : funWE Tryd.prog 49 (.seq (.leaf) (.seq (.seq (.leaf) (.cond (.seq (.leaf) (.leaf)) (.leaf))) (.seq (.seq (.leaf) (.block (.loop [(5, .sc (.int .i64))] (.seq (.seq (.leaf) (.cond (.leaf) (.leaf))) (.seq (.block (.seq (.draw (odp [0, 1, 2, 3, 4, 5, 6, 7, 8] .nil) []) (.cond (.seq (.leaf) (.leaf)) (.leaf)))) (.leaf)))))) (.seq (.leaf) (.leaf))))) [.slice a_0 a_0l a_0c, .slice b_1 b_1l b_1c] K h0 = F49 a_0 a_0l a_0c b_1 b_1l b_1c K h0 := by kernel_rfl

end Go.Proofs.YtgohecjnjadnpaaDoor.W
