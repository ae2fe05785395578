/-
  The formulas of the reference of ckpt. Each formula checked by the kernel. Printed by a program of this repo.
-/
import Derived.Test.YthimfpkkdhpceaaDoorProg
import Derived.Test.YthimfpkkdhpceaaDoorPl
namespace Go.Proofs.YthimfpkkdhpceaaDoor.W
open Go.Pl

-- function 49
set_option maxRecDepth 100000 in
def F49 (b_0 : Option Addr) (b_0l _b_0c : Nat) (K : Value → Heap → Prop) (h0 : Heap) : Prop := (
  loopT [.sc (.int .i64), .sc (.int .i64), .sc (.int .i64)] (fun (s2 : Int × Int × Int) _ (K1 : (Int × Int × Int) → Heap → Prop) h3 =>
  br (decide (s2.2.2 < (((b_0l : Nat) : Int))))
  (ptrW b_0 (fun a4 =>
  idxW s2.2.2 b_0l true (ldW (.int .u8) (Addr.add a4 (Int.toNat s2.2.2 * 1)) (fun (x5 : Int) =>
  K1 ((Int.tmod (IntKind.wrap .i64 (s2.1 + (IntKind.wrap .i64 x5))) (65521 : Int)), (Int.tmod (IntKind.wrap .i64 (s2.2.1 + (Int.tmod (IntKind.wrap .i64 (s2.1 + (IntKind.wrap .i64 x5))) (65521 : Int)))) (65521 : Int)), (IntKind.wrap .i64 (s2.2.2 + (1 : Int)))) h3) h3)))
  (K (.int .u32 (IntKind.wrap .u32 (IntKind.wrap .i64 ((IntKind.wrap .i64 (s2.2.1 * (65536 : Int))) + s2.1)))) h3)) ((1 : Int), (0 : Int), (0 : Int)) h0)
set_option maxRecDepth 100000 in
theorem F49_eq (b_0 : Option Addr) (b_0l b_0c : Nat) (K : Value → Heap → Prop) (h0 : Heap) : funWE Tryd.prog 49 (.seq (.leaf) (.seq (.leaf) (.seq (.leaf) (.seq (.seq (.leaf) (.block (.loop [(3, .sc (.int .i64)), (4, .sc (.int .i64)), (5, .sc (.int .i64))] (.seq (.seq (.leaf) (.cond (.leaf) (.leaf))) (.seq (.block (.seq (.leaf) (.leaf))) (.leaf)))))) (.seq (.leaf) (.leaf)))))) [.slice b_0 b_0l b_0c] K h0 = F49 b_0 b_0l b_0c K h0 := by kernel_rfl

-- function 22
set_option maxRecDepth 100000 in
def F22 (c_0_0 : Int) (c_0_1 : Int) (c_0_2 : Int) (c_0_3 : Int) (c_0_4 : Int) (c_0_5 : Int) (c_0_6 : Option Addr) (c_0_6l c_0_6c : Nat) (K : Value → Heap → Prop) (h0 : Heap) : Prop := (
  newW (.cells #[.int .u32 c_0_0, .int .u32 c_0_1, .int .u32 c_0_2, .int .i64 c_0_3, .int .i64 c_0_4, .int .i64 c_0_5, .slice c_0_6 c_0_6l c_0_6c] 40) (fun a1 h2 =>
  ldAggW [.int .i64, .int .i64, .int .i64] (Addr.add a1 3) (fun (x3 : Int × Int × Int) =>
  callT Tryd.prog 25 [.agg #[.int .i64 x3.1, .int .i64 x3.2.1, .int .i64 x3.2.2]] [.sc .bool] (fun (r4 : Bool) h5 =>
  br r4
  (ldW .slice (Addr.add a1 6) (fun (x6 : Option Addr × Nat × Nat) =>
  ldW (.int .i64) (Addr.add (Addr.add a1 3) 2) (fun (x7 : Int) =>
  callQ Tryd.prog 59 [.int .i64 x7] [.sc (.int .i64)] (fun (r8 : Int) =>
  K (.bool ((((x6.2.1 : Nat) : Int)) == r8)) h5) h5) h5) h5)
  (K (.bool false) h5)) h2) h2) h0)
set_option maxRecDepth 100000 in
theorem F22_eq (c_0_0 : Int) (c_0_1 : Int) (c_0_2 : Int) (c_0_3 : Int) (c_0_4 : Int) (c_0_5 : Int) (c_0_6 : Option Addr) (c_0_6l c_0_6c : Nat) (K : Value → Heap → Prop) (h0 : Heap) : funWE Tryd.prog 22 (.seq (.leaf) (.seq (.draw (odp [0, 1, 2, 3, 4, 5, 6, 7, 8, 9, 10, 11, 12, 13] .nil) [10]) (.leaf))) [.agg #[.int .u32 c_0_0, .int .u32 c_0_1, .int .u32 c_0_2, .int .i64 c_0_3, .int .i64 c_0_4, .int .i64 c_0_5, .slice c_0_6 c_0_6l c_0_6c]] K h0 = F22 c_0_0 c_0_1 c_0_2 c_0_3 c_0_4 c_0_5 c_0_6 c_0_6l c_0_6c K h0 := by kernel_rfl

-- function 17
set_option maxRecDepth 100000 in
def F17 (blocks_0 : Int) (K : Value → Heap → Prop) (h0 : Heap) : Prop := (
  callT Tryd.prog 59 [.int .i64 blocks_0] [.sc (.int .i64)] (fun (r1 : Int) h2 =>
  K (.int .i64 (IntKind.wrap .i64 (Int.tdiv (IntKind.wrap .i64 ((IntKind.wrap .i64 ((4 : Int) * (IntKind.wrap .i64 ((7 : Int) + r1)))) + (15 : Int))) (16 : Int)))) h2) h0)
set_option maxRecDepth 100000 in
theorem F17_eq (blocks_0 : Int) (K : Value → Heap → Prop) (h0 : Heap) : funWE Tryd.prog 17 (.seq (.leaf) (.seq (.leaf) (.seq (.leaf) (.leaf)))) [.int .i64 blocks_0] K h0 = F17 blocks_0 K h0 := by kernel_rfl

-- function 48
set_option maxRecDepth 100000 in
def F48 (n_0 : Int) (K : Value → Heap → Prop) (h0 : Heap) : Prop := (
  newW (.cells #[.int .u8 (IntKind.wrap .u8 (Int.tmod n_0 (256 : Int))), .int .u8 (IntKind.wrap .u8 (Int.tmod (IntKind.wrap .u32 (Int.tdiv n_0 (256 : Int))) (256 : Int))), .int .u8 (IntKind.wrap .u8 (Int.tmod (IntKind.wrap .u32 (Int.tdiv n_0 (65536 : Int))) (256 : Int))), .int .u8 (IntKind.wrap .u8 (IntKind.wrap .u32 (Int.tdiv n_0 (16777216 : Int))))] 5) (fun a1 h2 =>
  K (.slice (some a1) 4 4) h2) h0)
set_option maxRecDepth 100000 in
theorem F48_eq (n_0 : Int) (K : Value → Heap → Prop) (h0 : Heap) : funWE Tryd.prog 48 (.seq (.leaf) (.seq (.leaf) (.leaf))) [.int .u32 n_0] K h0 = F48 n_0 K h0 := by kernel_rfl

-- function 58
set_option maxRecDepth 100000 in
def F58 (b_0 : Option Addr) (b_0l _b_0c : Nat) (at_1 : Int) (K : Value → Heap → Prop) (h0 : Heap) : Prop := (
  ptrW b_0 (fun a1 =>
  idxW (IntKind.wrap .i64 ((4 : Int) * at_1)) b_0l true (ldW (.int .u8) (Addr.add a1 (Int.toNat (IntKind.wrap .i64 ((4 : Int) * at_1)) * 1)) (fun (x2 : Int) =>
  ptrW b_0 (fun a3 =>
  idxW (IntKind.wrap .i64 ((IntKind.wrap .i64 ((4 : Int) * at_1)) + (1 : Int))) b_0l true (ldW (.int .u8) (Addr.add a3 (Int.toNat (IntKind.wrap .i64 ((IntKind.wrap .i64 ((4 : Int) * at_1)) + (1 : Int))) * 1)) (fun (x4 : Int) =>
  ptrW b_0 (fun a5 =>
  idxW (IntKind.wrap .i64 ((IntKind.wrap .i64 ((4 : Int) * at_1)) + (2 : Int))) b_0l true (ldW (.int .u8) (Addr.add a5 (Int.toNat (IntKind.wrap .i64 ((IntKind.wrap .i64 ((4 : Int) * at_1)) + (2 : Int))) * 1)) (fun (x6 : Int) =>
  ptrW b_0 (fun a7 =>
  idxW (IntKind.wrap .i64 ((IntKind.wrap .i64 ((4 : Int) * at_1)) + (3 : Int))) b_0l true (ldW (.int .u8) (Addr.add a7 (Int.toNat (IntKind.wrap .i64 ((IntKind.wrap .i64 ((4 : Int) * at_1)) + (3 : Int))) * 1)) (fun (x8 : Int) =>
  K (.int .u32 (IntKind.wrap .u32 ((IntKind.wrap .u32 ((IntKind.wrap .u32 ((IntKind.wrap .u32 x2) + (IntKind.wrap .u32 ((256 : Int) * (IntKind.wrap .u32 x4))))) + (IntKind.wrap .u32 ((65536 : Int) * (IntKind.wrap .u32 x6))))) + (IntKind.wrap .u32 ((16777216 : Int) * (IntKind.wrap .u32 x8)))))) h0) h0))) h0))) h0))) h0)))
set_option maxRecDepth 100000 in
theorem F58_eq (b_0 : Option Addr) (b_0l b_0c : Nat) (at_1 : Int) (K : Value → Heap → Prop) (h0 : Heap) : funWE Tryd.prog 58 (.seq (.leaf) (.seq (.draw (odp [0, 1, 2, 3, 4, 5, 6, 7, 8, 9, 10, 11, 12, 13, 14, 15, 16, 17, 18, 19, 20, 21, 22, 23, 24, 25, 26, 27, 28, 29, 30, 31, 32, 33] .nil) []) (.leaf))) [.slice b_0 b_0l b_0c, .int .i64 at_1] K h0 = F58 b_0 b_0l b_0c at_1 K h0 := by kernel_rfl

-- function 12
set_option maxRecDepth 100000 in
def F12 (c_0_0 : Int) (c_0_1 : Int) (c_0_2 : Int) (c_0_3 : Int) (c_0_4 : Int) (c_0_5 : Int) (c_0_6 : Option Addr) (c_0_6l c_0_6c : Nat) (K : Value → Heap → Prop) (h0 : Heap) : Prop := (
  newW (.cells #[.int .u32 c_0_0, .int .u32 c_0_1, .int .u32 c_0_2, .int .i64 c_0_3, .int .i64 c_0_4, .int .i64 c_0_5, .slice c_0_6 c_0_6l c_0_6c] 40) (fun a1 h2 =>
  ldAggW [.int .u32, .int .u32, .int .u32, .int .i64, .int .i64, .int .i64, .slice] a1 (fun (x3 : Int × Int × Int × Int × Int × Int × (Option Addr × Nat × Nat)) =>
  callT Tryd.prog 22 [.agg #[.int .u32 x3.1, .int .u32 x3.2.1, .int .u32 x3.2.2.1, .int .i64 x3.2.2.2.1, .int .i64 x3.2.2.2.2.1, .int .i64 x3.2.2.2.2.2.1, .slice x3.2.2.2.2.2.2.1 x3.2.2.2.2.2.2.2.1 x3.2.2.2.2.2.2.2.2]] [.sc .bool] (fun (r4 : Bool) h5 =>
  br (!r4)
  (K (.tuple #[.slice none 0 0, .int .i64 1]) h5)
  (ldW (.int .u32) (Addr.add a1 0) (fun (x6 : Int) =>
  ldW (.int .u32) (Addr.add a1 1) (fun (x7 : Int) =>
  ldW (.int .u32) (Addr.add a1 2) (fun (x8 : Int) =>
  ldW (.int .i64) (Addr.add (Addr.add a1 3) 0) (fun (x9 : Int) =>
  ldW (.int .i64) (Addr.add (Addr.add a1 3) 1) (fun (x10 : Int) =>
  ldW (.int .i64) (Addr.add (Addr.add a1 3) 2) (fun (x11 : Int) =>
  newW (.cells #[.int .u32 x6, .int .u32 x7, .int .u32 x8, .int .u32 (IntKind.wrap .u32 x9), .int .u32 (IntKind.wrap .u32 x10), .int .u32 (IntKind.wrap .u32 x11)] 22) (fun a12 h13 =>
  ldW .slice (Addr.add a1 6) (fun (x14 : Option Addr × Nat × Nat) =>
  apW Tryd.prog #[25, 25] #[.slice (some a12) 6 6, .slice x14.1 x14.2.1 x14.2.2] (fun b15 n16 _c17 h18 =>
  newW (.cells #[] 5) (fun a19 h20 =>
  loopT [.sc .slice, .sc (.int .i64)] (fun (s22 : (Option Addr × Nat × Nat) × Int) _ (K21 : ((Option Addr × Nat × Nat) × Int) → Heap → Prop) h23 =>
  br (decide (s22.2 < (((n16 : Nat) : Int))))
  (ptrW b15 (fun a24 =>
  idxW s22.2 n16 true (ldW (.int .u32) (Addr.add a24 (Int.toNat s22.2 * 1)) (fun (x25 : Int) =>
  callT Tryd.prog 48 [.int .u32 x25] [.sc .slice] (fun (r26 : (Option Addr × Nat × Nat)) h27 =>
  apW Tryd.prog #[55, 55] #[.slice s22.1.1 s22.1.2.1 s22.1.2.2, .slice r26.1 r26.2.1 r26.2.2] (fun b28 n29 c30 h31 =>
  K21 ((b28, n29, c30), (IntKind.wrap .i64 (s22.2 + (1 : Int)))) h31) h27) h23) h23)))
  (callT Tryd.prog 49 [.slice s22.1.1 s22.1.2.1 s22.1.2.2] [.sc (.int .u32)] (fun (r32 : Int) h33 =>
  callT Tryd.prog 48 [.int .u32 r32] [.sc .slice] (fun (r34 : (Option Addr × Nat × Nat)) h35 =>
  apW Tryd.prog #[55, 55] #[.slice s22.1.1 s22.1.2.1 s22.1.2.2, .slice r34.1 r34.2.1 r34.2.2] (fun b36 n37 c38 h39 =>
  loopT [.sc .slice] (fun (s41 : (Option Addr × Nat × Nat)) _ (K40 : ((Option Addr × Nat × Nat)) → Heap → Prop) h42 =>
  br ((Int.tmod (((s41.2.1 : Nat) : Int)) (16 : Int)) != (0 : Int))
  (newW (.cells #[.int .u8 0] 5) (fun a43 h44 =>
  apW Tryd.prog #[55, 55] #[.slice s41.1 s41.2.1 s41.2.2, .slice (some a43) 1 1] (fun b45 n46 c47 h48 =>
  K40 (b45, n46, c47) h48) h44) h42)
  (newW (.cells #[] 55) (fun a49 h50 =>
  loopT [.sc .slice, .sc (.int .i64)] (fun (s52 : (Option Addr × Nat × Nat) × Int) _ (K51 : ((Option Addr × Nat × Nat) × Int) → Heap → Prop) h53 =>
  br (decide (s52.2 < (((s41.2.1 : Nat) : Int))))
  (newW (.cells #[] 5) (fun a54 h55 =>
  slW s41.1 s41.2.2 1 s52.2 (IntKind.wrap .i64 (s52.2 + (16 : Int))) (((s41.2.2 : Nat) : Int)) (fun b56 n57 c58 =>
  apW Tryd.prog #[55, 55] #[.slice (some a54) 0 0, .slice b56 n57 c58] (fun b59 n60 c61 h62 =>
  newW (.cells #[.slice b59 n60 c61] 55) (fun a63 h64 =>
  apW Tryd.prog #[28, 28] #[.slice s52.1.1 s52.1.2.1 s52.1.2.2, .slice (some a63) 1 1] (fun b65 n66 c67 h68 =>
  K51 ((b65, n66, c67), (IntKind.wrap .i64 (s52.2 + (16 : Int)))) h68) h64) h62) h55)) h53)
  (K (.tuple #[.slice s52.1.1 s52.1.2.1 s52.1.2.2, .int .i64 0]) h53)) (((some a49), 0, 0), (0 : Int)) h50) h42)) (b36, n37, c38) h39) h35) h33) h23)) (((some a19), 0, 0), (0 : Int)) h20) h18) h13) h13) h5) h5) h5) h5) h5) h5) h5)) h2) h2) h0)
set_option maxRecDepth 100000 in
theorem F12_eq (c_0_0 : Int) (c_0_1 : Int) (c_0_2 : Int) (c_0_3 : Int) (c_0_4 : Int) (c_0_5 : Int) (c_0_6 : Option Addr) (c_0_6l c_0_6c : Nat) (K : Value → Heap → Prop) (h0 : Heap) : funWE Tryd.prog 12 (.seq (.leaf) (.seq (.seq (.leaf) (.cond (.seq (.leaf) (.leaf)) (.leaf))) (.seq (.leaf) (.seq (.leaf) (.seq (.seq (.leaf) (.block (.loop [(5, .sc .slice), (6, .sc (.int .i64))] (.seq (.seq (.leaf) (.cond (.leaf) (.leaf))) (.seq (.block (.leaf)) (.leaf)))))) (.seq (.leaf) (.seq (.block (.loop [(5, .sc .slice)] (.seq (.seq (.leaf) (.cond (.leaf) (.leaf))) (.block (.leaf))))) (.seq (.leaf) (.seq (.seq (.leaf) (.block (.loop [(7, .sc .slice), (8, .sc (.int .i64))] (.seq (.seq (.leaf) (.cond (.leaf) (.leaf))) (.seq (.block (.leaf)) (.leaf)))))) (.seq (.leaf) (.leaf))))))))))) [.agg #[.int .u32 c_0_0, .int .u32 c_0_1, .int .u32 c_0_2, .int .i64 c_0_3, .int .i64 c_0_4, .int .i64 c_0_5, .slice c_0_6 c_0_6l c_0_6c]] K h0 = F12 c_0_0 c_0_1 c_0_2 c_0_3 c_0_4 c_0_5 c_0_6 c_0_6l c_0_6c K h0 := by kernel_rfl

-- function 15
set_option maxRecDepth 100000 in
def F15 (l_0 : Option Addr) (l_0l _l_0c : Nat) (K : Value → Heap → Prop) (h0 : Heap) : Prop := (
  newW (.cells (zeroC Tryd.prog 40) 40) (fun a1 h2 =>
  newW (.cells #[] 5) (fun a3 h4 =>
  loopT [.sc .slice, .sc (.int .i64)] (fun (s6 : (Option Addr × Nat × Nat) × Int) _ (K5 : ((Option Addr × Nat × Nat) × Int) → Heap → Prop) h7 =>
  br (decide (s6.2 < (((l_0l : Nat) : Int))))
  (ptrW l_0 (fun a8 =>
  idxW s6.2 l_0l true (ldW .slice (Addr.add a8 (Int.toNat s6.2 * 1)) (fun (x9 : Option Addr × Nat × Nat) =>
  br ((((x9.2.1 : Nat) : Int)) != (16 : Int))
  (stLW a1 [.int .u32 0, .int .u32 0, .int .u32 0, .int .i64 0, .int .i64 0, .int .i64 0, .slice none 0 0] (fun h10 =>
  ldAggW [.int .u32, .int .u32, .int .u32, .int .i64, .int .i64, .int .i64, .slice] a1 (fun (x11 : Int × Int × Int × Int × Int × Int × (Option Addr × Nat × Nat)) =>
  K (.tuple #[.agg #[.int .u32 x11.1, .int .u32 x11.2.1, .int .u32 x11.2.2.1, .int .i64 x11.2.2.2.1, .int .i64 x11.2.2.2.2.1, .int .i64 x11.2.2.2.2.2.1, .slice x11.2.2.2.2.2.2.1 x11.2.2.2.2.2.2.2.1 x11.2.2.2.2.2.2.2.2], .int .i64 3]) h10) h10) h7)
  (ptrW l_0 (fun a12 =>
  idxW s6.2 l_0l true (ldW .slice (Addr.add a12 (Int.toNat s6.2 * 1)) (fun (x13 : Option Addr × Nat × Nat) =>
  apW Tryd.prog #[55, 55] #[.slice s6.1.1 s6.1.2.1 s6.1.2.2, .slice x13.1 x13.2.1 x13.2.2] (fun b14 n15 c16 h17 =>
  K5 ((b14, n15, c16), (IntKind.wrap .i64 (s6.2 + (1 : Int)))) h17) h7) h7)))) h7)))
  (br (decide ((((l_0l : Nat) : Int)) < (2 : Int)))
  (stLW a1 [.int .u32 0, .int .u32 0, .int .u32 0, .int .i64 0, .int .i64 0, .int .i64 0, .slice none 0 0] (fun h18 =>
  ldAggW [.int .u32, .int .u32, .int .u32, .int .i64, .int .i64, .int .i64, .slice] a1 (fun (x19 : Int × Int × Int × Int × Int × Int × (Option Addr × Nat × Nat)) =>
  K (.tuple #[.agg #[.int .u32 x19.1, .int .u32 x19.2.1, .int .u32 x19.2.2.1, .int .i64 x19.2.2.2.1, .int .i64 x19.2.2.2.2.1, .int .i64 x19.2.2.2.2.2.1, .slice x19.2.2.2.2.2.2.1 x19.2.2.2.2.2.2.2.1 x19.2.2.2.2.2.2.2.2], .int .i64 3]) h18) h18) h7)
  (callT Tryd.prog 58 [.slice s6.1.1 s6.1.2.1 s6.1.2.2, .int .i64 3] [.sc (.int .u32)] (fun (r20 : Int) h21 =>
  callT Tryd.prog 58 [.slice s6.1.1 s6.1.2.1 s6.1.2.2, .int .i64 4] [.sc (.int .u32)] (fun (r22 : Int) h23 =>
  callT Tryd.prog 58 [.slice s6.1.1 s6.1.2.1 s6.1.2.2, .int .i64 5] [.sc (.int .u32)] (fun (r24 : Int) h25 =>
  newW (.cells (zeroC Tryd.prog 38) 38) (fun a26 h27 =>
  stLW a26 [.int .i64 (IntKind.wrap .i64 r20), .int .i64 (IntKind.wrap .i64 r22), .int .i64 (IntKind.wrap .i64 r24)] (fun h28 =>
  ldAggW [.int .i64, .int .i64, .int .i64] a26 (fun (x29 : Int × Int × Int) =>
  callT Tryd.prog 25 [.agg #[.int .i64 x29.1, .int .i64 x29.2.1, .int .i64 x29.2.2]] [.sc .bool] (fun (r30 : Bool) h31 =>
  br (!r30)
  (stLW a1 [.int .u32 0, .int .u32 0, .int .u32 0, .int .i64 0, .int .i64 0, .int .i64 0, .slice none 0 0] (fun h32 =>
  ldAggW [.int .u32, .int .u32, .int .u32, .int .i64, .int .i64, .int .i64, .slice] a1 (fun (x33 : Int × Int × Int × Int × Int × Int × (Option Addr × Nat × Nat)) =>
  K (.tuple #[.agg #[.int .u32 x33.1, .int .u32 x33.2.1, .int .u32 x33.2.2.1, .int .i64 x33.2.2.2.1, .int .i64 x33.2.2.2.2.1, .int .i64 x33.2.2.2.2.2.1, .slice x33.2.2.2.2.2.2.1 x33.2.2.2.2.2.2.2.1 x33.2.2.2.2.2.2.2.2], .int .i64 2]) h32) h32) h31)
  (ldW (.int .i64) (Addr.add a26 2) (fun (x34 : Int) =>
  callT Tryd.prog 17 [.int .i64 x34] [.sc (.int .i64)] (fun (r35 : Int) h36 =>
  br ((((l_0l : Nat) : Int)) != r35)
  (stLW a1 [.int .u32 0, .int .u32 0, .int .u32 0, .int .i64 0, .int .i64 0, .int .i64 0, .slice none 0 0] (fun h37 =>
  ldAggW [.int .u32, .int .u32, .int .u32, .int .i64, .int .i64, .int .i64, .slice] a1 (fun (x38 : Int × Int × Int × Int × Int × Int × (Option Addr × Nat × Nat)) =>
  K (.tuple #[.agg #[.int .u32 x38.1, .int .u32 x38.2.1, .int .u32 x38.2.2.1, .int .i64 x38.2.2.2.1, .int .i64 x38.2.2.2.2.1, .int .i64 x38.2.2.2.2.2.1, .slice x38.2.2.2.2.2.2.1 x38.2.2.2.2.2.2.2.1 x38.2.2.2.2.2.2.2.2], .int .i64 3]) h37) h37) h36)
  (ldW (.int .i64) (Addr.add a26 2) (fun (x39 : Int) =>
  callT Tryd.prog 59 [.int .i64 x39] [.sc (.int .i64)] (fun (r40 : Int) h41 =>
  slW s6.1.1 s6.1.2.2 1 (0 : Int) (IntKind.wrap .i64 ((24 : Int) + (IntKind.wrap .i64 ((4 : Int) * r40)))) (((s6.1.2.2 : Nat) : Int)) (fun b42 n43 c44 =>
  callT Tryd.prog 49 [.slice b42 n43 c44] [.sc (.int .u32)] (fun (r45 : Int) h46 =>
  callT Tryd.prog 58 [.slice s6.1.1 s6.1.2.1 s6.1.2.2, .int .i64 (IntKind.wrap .i64 ((6 : Int) + r40))] [.sc (.int .u32)] (fun (r47 : Int) h48 =>
  br (r45 != r47)
  (stLW a1 [.int .u32 0, .int .u32 0, .int .u32 0, .int .i64 0, .int .i64 0, .int .i64 0, .slice none 0 0] (fun h49 =>
  ldAggW [.int .u32, .int .u32, .int .u32, .int .i64, .int .i64, .int .i64, .slice] a1 (fun (x50 : Int × Int × Int × Int × Int × Int × (Option Addr × Nat × Nat)) =>
  K (.tuple #[.agg #[.int .u32 x50.1, .int .u32 x50.2.1, .int .u32 x50.2.2.1, .int .i64 x50.2.2.2.1, .int .i64 x50.2.2.2.2.1, .int .i64 x50.2.2.2.2.2.1, .slice x50.2.2.2.2.2.2.1 x50.2.2.2.2.2.2.2.1 x50.2.2.2.2.2.2.2.2], .int .i64 4]) h49) h49) h48)
  (loopT [.sc (.int .i64)] (fun (s52 : Int) _ (K51 : Int → Heap → Prop) h53 =>
  br (decide (s52 < (((s6.1.2.1 : Nat) : Int))))
  (ptrW s6.1.1 (fun a54 =>
  idxW s52 s6.1.2.1 true (ldW (.int .u8) (Addr.add a54 (Int.toNat s52 * 1)) (fun (x55 : Int) =>
  br (x55 != (0 : Int))
  (stLW a1 [.int .u32 0, .int .u32 0, .int .u32 0, .int .i64 0, .int .i64 0, .int .i64 0, .slice none 0 0] (fun h56 =>
  ldAggW [.int .u32, .int .u32, .int .u32, .int .i64, .int .i64, .int .i64, .slice] a1 (fun (x57 : Int × Int × Int × Int × Int × Int × (Option Addr × Nat × Nat)) =>
  K (.tuple #[.agg #[.int .u32 x57.1, .int .u32 x57.2.1, .int .u32 x57.2.2.1, .int .i64 x57.2.2.2.1, .int .i64 x57.2.2.2.2.1, .int .i64 x57.2.2.2.2.2.1, .slice x57.2.2.2.2.2.2.1 x57.2.2.2.2.2.2.2.1 x57.2.2.2.2.2.2.2.2], .int .i64 2]) h56) h56) h53)
  (K51 (IntKind.wrap .i64 (s52 + (1 : Int))) h53)) h53)))
  (callQ Tryd.prog 58 [.slice s6.1.1 s6.1.2.1 s6.1.2.2, .int .i64 0] [.sc (.int .u32)] (fun (r58 : Int) =>
  callQ Tryd.prog 58 [.slice s6.1.1 s6.1.2.1 s6.1.2.2, .int .i64 1] [.sc (.int .u32)] (fun (r59 : Int) =>
  callQ Tryd.prog 58 [.slice s6.1.1 s6.1.2.1 s6.1.2.2, .int .i64 2] [.sc (.int .u32)] (fun (r60 : Int) =>
  ldAggW [.int .i64, .int .i64, .int .i64] a26 (fun (x61 : Int × Int × Int) =>
  newW (.cells (zeroC Tryd.prog 40) 40) (fun a62 h63 =>
  stLW a62 [.int .u32 r58, .int .u32 r59, .int .u32 r60, .int .i64 x61.1, .int .i64 x61.2.1, .int .i64 x61.2.2, .slice none 0 0] (fun h64 =>
  loopT [.sc (.int .i64)] (fun (s66 : Int) _ (K65 : Int → Heap → Prop) h67 =>
  br (decide (s66 < r40))
  (ldW .slice (Addr.add a62 6) (fun (x68 : Option Addr × Nat × Nat) =>
  callQ Tryd.prog 58 [.slice s6.1.1 s6.1.2.1 s6.1.2.2, .int .i64 (IntKind.wrap .i64 ((6 : Int) + s66))] [.sc (.int .u32)] (fun (r69 : Int) =>
  newW (.cells #[.int .u32 r69] 22) (fun a70 h71 =>
  apW Tryd.prog #[25, 25] #[.slice x68.1 x68.2.1 x68.2.2, .slice (some a70) 1 1] (fun b72 n73 c74 h75 =>
  stW (Addr.add a62 6) (.slice b72 n73 c74) (fun h76 =>
  K65 (IntKind.wrap .i64 (s66 + (1 : Int))) h76) h75) h71) h67) h67) h67)
  (ldAggW [.int .u32, .int .u32, .int .u32, .int .i64, .int .i64, .int .i64, .slice] a62 (fun (x77 : Int × Int × Int × Int × Int × Int × (Option Addr × Nat × Nat)) =>
  stLW a1 [.int .u32 x77.1, .int .u32 x77.2.1, .int .u32 x77.2.2.1, .int .i64 x77.2.2.2.1, .int .i64 x77.2.2.2.2.1, .int .i64 x77.2.2.2.2.2.1, .slice x77.2.2.2.2.2.2.1 x77.2.2.2.2.2.2.2.1 x77.2.2.2.2.2.2.2.2] (fun h78 =>
  ldAggW [.int .u32, .int .u32, .int .u32, .int .i64, .int .i64, .int .i64, .slice] a1 (fun (x79 : Int × Int × Int × Int × Int × Int × (Option Addr × Nat × Nat)) =>
  K (.tuple #[.agg #[.int .u32 x79.1, .int .u32 x79.2.1, .int .u32 x79.2.2.1, .int .i64 x79.2.2.2.1, .int .i64 x79.2.2.2.2.1, .int .i64 x79.2.2.2.2.2.1, .slice x79.2.2.2.2.2.2.1 x79.2.2.2.2.2.2.2.1 x79.2.2.2.2.2.2.2.2], .int .i64 0]) h78) h78) h67) h67)) (0 : Int) h64) h63) h53) h53) h53) h53) h53)) (IntKind.wrap .i64 ((28 : Int) + (IntKind.wrap .i64 ((4 : Int) * r40)))) h48)) h46) h41)) h36) h36)) h31) h31)) h28) h28) h27) h25) h23) h21) h7))) (((some a3), 0, 0), (0 : Int)) h4) h2) h0)
set_option maxRecDepth 100000 in
theorem F15_eq (l_0 : Option Addr) (l_0l l_0c : Nat) (K : Value → Heap → Prop) (h0 : Heap) : funWE Tryd.prog 15 (.seq (.leaf) (.seq (.leaf) (.seq (.seq (.leaf) (.block (.loop [(4, .sc .slice), (5, .sc (.int .i64))] (.seq (.seq (.leaf) (.cond (.leaf) (.leaf))) (.seq (.block (.seq (.seq (.leaf) (.cond (.seq (.leaf) (.leaf)) (.leaf))) (.leaf))) (.leaf)))))) (.seq (.seq (.leaf) (.cond (.seq (.leaf) (.leaf)) (.leaf))) (.seq (.leaf) (.seq (.seq (.leaf) (.cond (.seq (.leaf) (.leaf)) (.leaf))) (.seq (.seq (.leaf) (.cond (.seq (.leaf) (.leaf)) (.leaf))) (.seq (.leaf) (.seq (.seq (.leaf) (.cond (.seq (.leaf) (.leaf)) (.leaf))) (.seq (.seq (.leaf) (.block (.loop [(8, .sc (.int .i64))] (.seq (.seq (.leaf) (.cond (.leaf) (.leaf))) (.seq (.block (.seq (.leaf) (.cond (.seq (.leaf) (.leaf)) (.leaf)))) (.leaf)))))) (.seq (.draw (odp [0, 1, 2, 3, 4, 5, 6, 7, 8, 9] .nil) [1, 3, 5]) (.seq (.seq (.leaf) (.block (.loop [(10, .sc (.int .i64))] (.seq (.seq (.leaf) (.cond (.leaf) (.leaf))) (.seq (.block (.draw (odp [0, 1, 2, 3, 4, 5, 6, 7, 8, 9] .nil) [5])) (.leaf)))))) (.seq (.leaf) (.leaf)))))))))))))) [.slice l_0 l_0l l_0c] K h0 = F15 l_0 l_0l l_0c K h0 := by kernel_rfl

-- function 35
set_option maxRecDepth 100000 in
def F35 (a_0 : Option Addr) (a_0l _a_0c : Nat) (b_1 : Option Addr) (b_1l _b_1c : Nat) (K : Value → Heap → Prop) (h0 : Heap) : Prop := (
  br ((((a_0l : Nat) : Int)) != (((b_1l : Nat) : Int)))
  (K (.bool false) h0)
  (loopT [.sc (.int .i64)] (fun (s2 : Int) _ (K1 : Int → Heap → Prop) h3 =>
  br (decide (s2 < (((a_0l : Nat) : Int))))
  (ptrW a_0 (fun a4 =>
  idxW s2 a_0l true (ldW (.int .u32) (Addr.add a4 (Int.toNat s2 * 1)) (fun (x5 : Int) =>
  ptrW b_1 (fun a6 =>
  idxW s2 b_1l true (ldW (.int .u32) (Addr.add a6 (Int.toNat s2 * 1)) (fun (x7 : Int) =>
  br (x5 != x7)
  (K (.bool false) h3)
  (K1 (IntKind.wrap .i64 (s2 + (1 : Int))) h3)) h3))) h3)))
  (K (.bool true) h3)) (0 : Int) h0))
set_option maxRecDepth 100000 in
theorem F35_eq (a_0 : Option Addr) (a_0l a_0c : Nat) (b_1 : Option Addr) (b_1l b_1c : Nat) (K : Value → Heap → Prop) (h0 : Heap) : funWE Tryd.prog 35 (.seq (.leaf) (.seq (.seq (.leaf) (.cond (.seq (.leaf) (.leaf)) (.leaf))) (.seq (.seq (.leaf) (.block (.loop [(5, .sc (.int .i64))] (.seq (.seq (.leaf) (.cond (.leaf) (.leaf))) (.seq (.block (.seq (.draw (odp [0, 1, 2, 3, 4, 5, 6, 7, 8] .nil) []) (.cond (.seq (.leaf) (.leaf)) (.leaf)))) (.leaf)))))) (.seq (.leaf) (.leaf))))) [.slice a_0 a_0l a_0c, .slice b_1 b_1l b_1c] K h0 = F35 a_0 a_0l a_0c b_1 b_1l b_1c K h0 := by kernel_rfl

-- function 20
set_option maxRecDepth 100000 in
def F20 (a_0_0 : Int) (a_0_1 : Int) (a_0_2 : Int) (a_0_3 : Int) (a_0_4 : Int) (a_0_5 : Int) (a_0_6 : Option Addr) (a_0_6l a_0_6c : Nat) (b_1_0 : Int) (b_1_1 : Int) (b_1_2 : Int) (b_1_3 : Int) (b_1_4 : Int) (b_1_5 : Int) (b_1_6 : Option Addr) (b_1_6l b_1_6c : Nat) (K : Value → Heap → Prop) (h0 : Heap) : Prop := (
  newW (.cells #[.int .u32 a_0_0, .int .u32 a_0_1, .int .u32 a_0_2, .int .i64 a_0_3, .int .i64 a_0_4, .int .i64 a_0_5, .slice a_0_6 a_0_6l a_0_6c] 40) (fun a1 h2 =>
  newW (.cells #[.int .u32 b_1_0, .int .u32 b_1_1, .int .u32 b_1_2, .int .i64 b_1_3, .int .i64 b_1_4, .int .i64 b_1_5, .slice b_1_6 b_1_6l b_1_6c] 40) (fun a3 h4 =>
  ldW (.int .u32) (Addr.add a1 0) (fun (x5 : Int) =>
  ldW (.int .u32) (Addr.add a3 0) (fun (x6 : Int) =>
  br (x5 == x6)
  (ldW (.int .u32) (Addr.add a1 1) (fun (x7 : Int) =>
  ldW (.int .u32) (Addr.add a3 1) (fun (x8 : Int) =>
  br (x7 == x8)
  (ldW (.int .u32) (Addr.add a1 2) (fun (x9 : Int) =>
  ldW (.int .u32) (Addr.add a3 2) (fun (x10 : Int) =>
  br (x9 == x10)
  (ldAggW [.int .i64, .int .i64, .int .i64] (Addr.add a1 3) (fun (x11 : Int × Int × Int) =>
  ldAggW [.int .i64, .int .i64, .int .i64] (Addr.add a3 3) (fun (x12 : Int × Int × Int) =>
  eqGen Tryd.prog 38 (.agg #[.int .i64 x11.1, .int .i64 x11.2.1, .int .i64 x11.2.2]) (.agg #[.int .i64 x12.1, .int .i64 x12.2.1, .int .i64 x12.2.2]) (fun b13 =>
  br b13
  (ldW .slice (Addr.add a1 6) (fun (x14 : Option Addr × Nat × Nat) =>
  ldW .slice (Addr.add a3 6) (fun (x15 : Option Addr × Nat × Nat) =>
  callT Tryd.prog 35 [.slice x14.1 x14.2.1 x14.2.2, .slice x15.1 x15.2.1 x15.2.2] [.sc .bool] (fun (r16 : Bool) h17 =>
  K (.bool r16) h17) h4) h4) h4)
  (K (.bool false) h4))) h4) h4)
  (K (.bool false) h4)) h4) h4)
  (K (.bool false) h4)) h4) h4)
  (K (.bool false) h4)) h4) h4) h2) h0)
set_option maxRecDepth 100000 in
theorem F20_eq (a_0_0 : Int) (a_0_1 : Int) (a_0_2 : Int) (a_0_3 : Int) (a_0_4 : Int) (a_0_5 : Int) (a_0_6 : Option Addr) (a_0_6l a_0_6c : Nat) (b_1_0 : Int) (b_1_1 : Int) (b_1_2 : Int) (b_1_3 : Int) (b_1_4 : Int) (b_1_5 : Int) (b_1_6 : Option Addr) (b_1_6l b_1_6c : Nat) (K : Value → Heap → Prop) (h0 : Heap) : funWE Tryd.prog 20 (.seq (.leaf) (.seq (.leaf) (.leaf))) [.agg #[.int .u32 a_0_0, .int .u32 a_0_1, .int .u32 a_0_2, .int .i64 a_0_3, .int .i64 a_0_4, .int .i64 a_0_5, .slice a_0_6 a_0_6l a_0_6c], .agg #[.int .u32 b_1_0, .int .u32 b_1_1, .int .u32 b_1_2, .int .i64 b_1_3, .int .i64 b_1_4, .int .i64 b_1_5, .slice b_1_6 b_1_6l b_1_6c]] K h0 = F20 a_0_0 a_0_1 a_0_2 a_0_3 a_0_4 a_0_5 a_0_6 a_0_6l a_0_6c b_1_0 b_1_1 b_1_2 b_1_3 b_1_4 b_1_5 b_1_6 b_1_6l b_1_6c K h0 := by kernel_rfl

end Go.Proofs.YthimfpkkdhpceaaDoor.W
