/-
  The formulas of the references of sum and head. Each formula checked by the kernel. Printed by a program of this repo.
-/
import Derived.Test.YtgohecjnjadnpaaGreatDoorProg
import Derived.Test.YtgohecjnjadnpaaGreatDoorPl
namespace Go.Proofs.YtgohecjnjadnpaaGreatDoor.W
open Go.Pl

-- function 79
set_option maxRecDepth 100000 in
def F79 (b_0 : Option Addr) (b_0l _b_0c : Nat) (K : Value → Heap → Prop) (h0 : Heap) : Prop := (
  loopT [.sc (.int .i64), .sc (.int .i64), .sc (.int .i64)] (fun (s2 : Int × Int × Int) _ (K1 : (Int × Int × Int) → Heap → Prop) h3 =>
  br (decide (s2.2.2 < (((b_0l : Nat) : Int))))
  (ptrW b_0 (fun a4 =>
  idxW s2.2.2 b_0l true (ldW (.int .u8) (Addr.add a4 (Int.toNat s2.2.2 * 1)) (fun (x5 : Int) =>
  K1 ((Int.tmod (IntKind.wrap .i64 (s2.1 + (IntKind.wrap .i64 x5))) (65521 : Int)), (Int.tmod (IntKind.wrap .i64 (s2.2.1 + (Int.tmod (IntKind.wrap .i64 (s2.1 + (IntKind.wrap .i64 x5))) (65521 : Int)))) (65521 : Int)), (IntKind.wrap .i64 (s2.2.2 + (1 : Int)))) h3) h3)))
  (K (.int .u32 (IntKind.wrap .u32 (IntKind.wrap .i64 ((IntKind.wrap .i64 (s2.2.1 * (65536 : Int))) + s2.1)))) h3)) ((1 : Int), (0 : Int), (0 : Int)) h0)
set_option maxRecDepth 100000 in
theorem F79_eq (b_0 : Option Addr) (b_0l b_0c : Nat) (K : Value → Heap → Prop) (h0 : Heap) : funWE Tryz.prog 79 (.seq (.leaf) (.seq (.leaf) (.seq (.leaf) (.seq (.seq (.leaf) (.block (.loop [(3, .sc (.int .i64)), (4, .sc (.int .i64)), (5, .sc (.int .i64))] (.seq (.seq (.leaf) (.cond (.leaf) (.leaf))) (.seq (.block (.seq (.leaf) (.leaf))) (.leaf)))))) (.seq (.leaf) (.leaf)))))) [.slice b_0 b_0l b_0c] K h0 = F79 b_0 b_0l b_0c K h0 := by kernel_rfl

-- function 77
set_option maxRecDepth 100000 in
def F77 (h_0_0 : Int) (h_0_1 : Int) (h_0_2 : Int) (h_0_3 : Int) (K : Value → Heap → Prop) (h0 : Heap) : Prop := (
  newW (.cells #[.int .u8 h_0_0, .int .u32 h_0_1, .int .u32 h_0_2, .int .u32 h_0_3] 48) (fun a1 h2 =>
  ldW (.int .u8) (Addr.add a1 0) (fun (x3 : Int) =>
  br (decide (x3 ≥ (1 : Int)))
  (ldW (.int .u8) (Addr.add a1 0) (fun (x4 : Int) =>
  K (.bool (decide (x4 ≤ (5 : Int)))) h2) h2)
  (K (.bool false) h2)) h2) h0)
set_option maxRecDepth 100000 in
theorem F77_eq (h_0_0 : Int) (h_0_1 : Int) (h_0_2 : Int) (h_0_3 : Int) (K : Value → Heap → Prop) (h0 : Heap) : funWE Tryz.prog 77 (.seq (.leaf) (.seq (.leaf) (.leaf))) [.agg #[.int .u8 h_0_0, .int .u32 h_0_1, .int .u32 h_0_2, .int .u32 h_0_3]] K h0 = F77 h_0_0 h_0_1 h_0_2 h_0_3 K h0 := by kernel_rfl

-- function 78
set_option maxRecDepth 100000 in
def F78 (n_0 : Int) (K : Value → Heap → Prop) (h0 : Heap) : Prop := (
  newW (.cells #[.int .u8 (IntKind.wrap .u8 (Int.tmod n_0 (256 : Int))), .int .u8 (IntKind.wrap .u8 (Int.tmod (IntKind.wrap .u32 (Int.tdiv n_0 (256 : Int))) (256 : Int))), .int .u8 (IntKind.wrap .u8 (Int.tmod (IntKind.wrap .u32 (Int.tdiv n_0 (65536 : Int))) (256 : Int))), .int .u8 (IntKind.wrap .u8 (IntKind.wrap .u32 (Int.tdiv n_0 (16777216 : Int))))] 5) (fun a1 h2 =>
  K (.slice (some a1) 4 4) h2) h0)
set_option maxRecDepth 100000 in
theorem F78_eq (n_0 : Int) (K : Value → Heap → Prop) (h0 : Heap) : funWE Tryz.prog 78 (.seq (.leaf) (.seq (.leaf) (.leaf))) [.int .u32 n_0] K h0 = F78 n_0 K h0 := by kernel_rfl

-- function 81
set_option maxRecDepth 100000 in
def F81 (b_0 : Option Addr) (b_0l _b_0c : Nat) (K : Value → Heap → Prop) (h0 : Heap) : Prop := (
  ptrW b_0 (fun a1 =>
  idxW (0 : Int) b_0l true (ldW (.int .u8) (Addr.add a1 (Int.toNat (0 : Int) * 1)) (fun (x2 : Int) =>
  ptrW b_0 (fun a3 =>
  idxW (1 : Int) b_0l true (ldW (.int .u8) (Addr.add a3 (Int.toNat (1 : Int) * 1)) (fun (x4 : Int) =>
  ptrW b_0 (fun a5 =>
  idxW (2 : Int) b_0l true (ldW (.int .u8) (Addr.add a5 (Int.toNat (2 : Int) * 1)) (fun (x6 : Int) =>
  ptrW b_0 (fun a7 =>
  idxW (3 : Int) b_0l true (ldW (.int .u8) (Addr.add a7 (Int.toNat (3 : Int) * 1)) (fun (x8 : Int) =>
  K (.int .u32 (IntKind.wrap .u32 ((IntKind.wrap .u32 ((IntKind.wrap .u32 ((IntKind.wrap .u32 x2) + (IntKind.wrap .u32 ((256 : Int) * (IntKind.wrap .u32 x4))))) + (IntKind.wrap .u32 ((65536 : Int) * (IntKind.wrap .u32 x6))))) + (IntKind.wrap .u32 ((16777216 : Int) * (IntKind.wrap .u32 x8)))))) h0) h0))) h0))) h0))) h0)))
set_option maxRecDepth 100000 in
theorem F81_eq (b_0 : Option Addr) (b_0l b_0c : Nat) (K : Value → Heap → Prop) (h0 : Heap) : funWE Tryz.prog 81 (.seq (.leaf) (.seq (.draw (odp [0, 1, 2, 3, 4, 5, 6, 7, 8, 9, 10, 11, 12, 13, 14, 15, 16, 17, 18, 19, 20, 21, 22] .nil) []) (.leaf))) [.slice b_0 b_0l b_0c] K h0 = F81 b_0 b_0l b_0c K h0 := by kernel_rfl

-- function 51
set_option maxRecDepth 100000 in
def F51 (h_0_0 : Int) (h_0_1 : Int) (h_0_2 : Int) (h_0_3 : Int) (block_1 : Option Addr) (block_1l block_1c : Nat) (K : Value → Heap → Prop) (h0 : Heap) : Prop := (
  newW (.cells #[.int .u8 h_0_0, .int .u32 h_0_1, .int .u32 h_0_2, .int .u32 h_0_3] 48) (fun a1 h2 =>
  ldAggW [.int .u8, .int .u32, .int .u32, .int .u32] a1 (fun (x3 : Int × Int × Int × Int) =>
  callT Tryz.prog 77 [.agg #[.int .u8 x3.1, .int .u32 x3.2.1, .int .u32 x3.2.2.1, .int .u32 x3.2.2.2]] [.sc .bool] (fun (r4 : Bool) h5 =>
  br (!r4)
  (K (.tuple #[.slice none 0 0, .int .i64 1]) h5)
  (br ((((block_1l : Nat) : Int)) != (16 : Int))
  (K (.tuple #[.slice none 0 0, .int .i64 3]) h5)
  (ldW (.int .u8) (Addr.add a1 0) (fun (x6 : Int) =>
  newW (.cells #[.int .u8 x6] 5) (fun a7 h8 =>
  ldW (.int .u32) (Addr.add a1 1) (fun (x9 : Int) =>
  callT Tryz.prog 78 [.int .u32 x9] [.sc .slice] (fun (r10 : (Option Addr × Nat × Nat)) h11 =>
  apW Tryz.prog #[43, 43] #[.slice (some a7) 1 1, .slice r10.1 r10.2.1 r10.2.2] (fun b12 n13 c14 h15 =>
  ldW (.int .u32) (Addr.add a1 2) (fun (x16 : Int) =>
  callT Tryz.prog 78 [.int .u32 x16] [.sc .slice] (fun (r17 : (Option Addr × Nat × Nat)) h18 =>
  apW Tryz.prog #[43, 43] #[.slice b12 n13 c14, .slice r17.1 r17.2.1 r17.2.2] (fun b19 n20 c21 h22 =>
  ldW (.int .u32) (Addr.add a1 3) (fun (x23 : Int) =>
  callT Tryz.prog 78 [.int .u32 x23] [.sc .slice] (fun (r24 : (Option Addr × Nat × Nat)) h25 =>
  apW Tryz.prog #[43, 43] #[.slice b19 n20 c21, .slice r24.1 r24.2.1 r24.2.2] (fun b26 n27 c28 h29 =>
  newW (.cells #[] 5) (fun a30 h31 =>
  apW Tryz.prog #[43, 43] #[.slice (some a30) 0 0, .slice b26 n27 c28] (fun b32 n33 c34 h35 =>
  apW Tryz.prog #[43, 43] #[.slice b32 n33 c34, .slice block_1 block_1l block_1c] (fun b36 n37 c38 h39 =>
  callT Tryz.prog 79 [.slice b36 n37 c38] [.sc (.int .u32)] (fun (r40 : Int) h41 =>
  callT Tryz.prog 78 [.int .u32 r40] [.sc .slice] (fun (r42 : (Option Addr × Nat × Nat)) h43 =>
  apW Tryz.prog #[43, 43] #[.slice b26 n27 c28, .slice r42.1 r42.2.1 r42.2.2] (fun b44 n45 c46 h47 =>
  apW Tryz.prog #[43, 43] #[.slice b44 n45 c46, .slice block_1 block_1l block_1c] (fun b48 n49 c50 h51 =>
  K (.tuple #[.slice b48 n49 c50, .int .i64 0]) h51) h47) h43) h41) h39) h35) h31) h29) h25) h22) h22) h18) h15) h15) h11) h8) h8) h5) h5))) h2) h2) h0)
set_option maxRecDepth 100000 in
theorem F51_eq (h_0_0 : Int) (h_0_1 : Int) (h_0_2 : Int) (h_0_3 : Int) (block_1 : Option Addr) (block_1l block_1c : Nat) (K : Value → Heap → Prop) (h0 : Heap) : funWE Tryz.prog 51 (.seq (.leaf) (.seq (.seq (.leaf) (.cond (.seq (.leaf) (.leaf)) (.leaf))) (.seq (.seq (.leaf) (.cond (.seq (.leaf) (.leaf)) (.leaf))) (.seq (.leaf) (.seq (.leaf) (.seq (.leaf) (.seq (.leaf) (.seq (.leaf) (.seq (.leaf) (.seq (.leaf) (.leaf))))))))))) [.agg #[.int .u8 h_0_0, .int .u32 h_0_1, .int .u32 h_0_2, .int .u32 h_0_3], .slice block_1 block_1l block_1c] K h0 = F51 h_0_0 h_0_1 h_0_2 h_0_3 block_1 block_1l block_1c K h0 := by kernel_rfl

-- function 56
set_option maxRecDepth 100000 in
def F56 (page_0 : Option Addr) (page_0l page_0c : Nat) (K : Value → Heap → Prop) (h0 : Heap) : Prop := (
  newW (.cells (zeroC Tryz.prog 48) 48) (fun a1 h2 =>
  br ((((page_0l : Nat) : Int)) != (33 : Int))
  (stLW a1 [.int .u8 0, .int .u32 0, .int .u32 0, .int .u32 0] (fun h3 =>
  ldAggW [.int .u8, .int .u32, .int .u32, .int .u32] a1 (fun (x4 : Int × Int × Int × Int) =>
  K (.tuple #[.agg #[.int .u8 x4.1, .int .u32 x4.2.1, .int .u32 x4.2.2.1, .int .u32 x4.2.2.2], .slice none 0 0, .int .i64 3]) h3) h3) h2)
  (slW page_0 page_0c 1 (0 : Int) (13 : Int) (((page_0c : Nat) : Int)) (fun b5 n6 c7 =>
  slW page_0 page_0c 1 (17 : Int) (((page_0l : Nat) : Int)) (((page_0c : Nat) : Int)) (fun b8 n9 c10 =>
  newW (.cells #[] 5) (fun a11 h12 =>
  apW Tryz.prog #[43, 43] #[.slice (some a11) 0 0, .slice b5 n6 c7] (fun b13 n14 c15 h16 =>
  apW Tryz.prog #[43, 43] #[.slice b13 n14 c15, .slice b8 n9 c10] (fun b17 n18 c19 h20 =>
  callQ Tryz.prog 79 [.slice b17 n18 c19] [.sc (.int .u32)] (fun (r21 : Int) =>
  slW page_0 page_0c 1 (13 : Int) (17 : Int) (((page_0c : Nat) : Int)) (fun b22 n23 c24 =>
  callQ Tryz.prog 81 [.slice b22 n23 c24] [.sc (.int .u32)] (fun (r25 : Int) =>
  br (r21 != r25)
  (stLW a1 [.int .u8 0, .int .u32 0, .int .u32 0, .int .u32 0] (fun h26 =>
  ldAggW [.int .u8, .int .u32, .int .u32, .int .u32] a1 (fun (x27 : Int × Int × Int × Int) =>
  K (.tuple #[.agg #[.int .u8 x27.1, .int .u32 x27.2.1, .int .u32 x27.2.2.1, .int .u32 x27.2.2.2], .slice none 0 0, .int .i64 4]) h26) h26) h20)
  (ptrW page_0 (fun a28 =>
  idxW (0 : Int) page_0l true (ldW (.int .u8) (Addr.add a28 (Int.toNat (0 : Int) * 1)) (fun (x29 : Int) =>
  slW page_0 page_0c 1 (1 : Int) (5 : Int) (((page_0c : Nat) : Int)) (fun b30 n31 c32 =>
  callQ Tryz.prog 81 [.slice b30 n31 c32] [.sc (.int .u32)] (fun (r33 : Int) =>
  slW page_0 page_0c 1 (5 : Int) (9 : Int) (((page_0c : Nat) : Int)) (fun b34 n35 c36 =>
  callQ Tryz.prog 81 [.slice b34 n35 c36] [.sc (.int .u32)] (fun (r37 : Int) =>
  slW page_0 page_0c 1 (9 : Int) (13 : Int) (((page_0c : Nat) : Int)) (fun b38 n39 c40 =>
  callQ Tryz.prog 81 [.slice b38 n39 c40] [.sc (.int .u32)] (fun (r41 : Int) =>
  newW (.cells (zeroC Tryz.prog 48) 48) (fun a42 h43 =>
  stLW a42 [.int .u8 x29, .int .u32 r33, .int .u32 r37, .int .u32 r41] (fun h44 =>
  ldAggW [.int .u8, .int .u32, .int .u32, .int .u32] a42 (fun (x45 : Int × Int × Int × Int) =>
  callT Tryz.prog 77 [.agg #[.int .u8 x45.1, .int .u32 x45.2.1, .int .u32 x45.2.2.1, .int .u32 x45.2.2.2]] [.sc .bool] (fun (r46 : Bool) h47 =>
  br (!r46)
  (stLW a1 [.int .u8 0, .int .u32 0, .int .u32 0, .int .u32 0] (fun h48 =>
  ldAggW [.int .u8, .int .u32, .int .u32, .int .u32] a1 (fun (x49 : Int × Int × Int × Int) =>
  K (.tuple #[.agg #[.int .u8 x49.1, .int .u32 x49.2.1, .int .u32 x49.2.2.1, .int .u32 x49.2.2.2], .slice none 0 0, .int .i64 2]) h48) h48) h47)
  (ldAggW [.int .u8, .int .u32, .int .u32, .int .u32] a42 (fun (x50 : Int × Int × Int × Int) =>
  slW page_0 page_0c 1 (17 : Int) (((page_0l : Nat) : Int)) (((page_0c : Nat) : Int)) (fun b51 n52 c53 =>
  newW (.cells #[] 5) (fun a54 h55 =>
  apW Tryz.prog #[43, 43] #[.slice (some a54) 0 0, .slice b51 n52 c53] (fun b56 n57 c58 h59 =>
  (cellH h59 (Addr.add a42 0) = some (.int .u8 x50.1) ∧ (cellH h59 (Addr.add a42 1) = some (.int .u32 x50.2.1) ∧ (cellH h59 (Addr.add a42 2) = some (.int .u32 x50.2.2.1) ∧ (cellH h59 (Addr.add a42 3) = some (.int .u32 x50.2.2.2) ∧ stLW a1 [.int .u8 x50.1, .int .u32 x50.2.1, .int .u32 x50.2.2.1, .int .u32 x50.2.2.2] (fun h60 =>
  ldAggW [.int .u8, .int .u32, .int .u32, .int .u32] a1 (fun (x61 : Int × Int × Int × Int) =>
  K (.tuple #[.agg #[.int .u8 x61.1, .int .u32 x61.2.1, .int .u32 x61.2.2.1, .int .u32 x61.2.2.2], .slice b56 n57 c58, .int .i64 0]) h60) h60) h59))))) h55) h47)) h47)) h44) h44) h43) h20) h20)) h20)) h20)) h20)))) h20)) h20) h16) h12) h2)))) h0)
set_option maxRecDepth 100000 in
theorem F56_eq (page_0 : Option Addr) (page_0l page_0c : Nat) (K : Value → Heap → Prop) (h0 : Heap) : funWE Tryz.prog 56 (.seq (.leaf) (.seq (.seq (.leaf) (.cond (.seq (.leaf) (.leaf)) (.leaf))) (.seq (.draw (odp [1, 2, 4, 5, 0, 3, 6, 7] .nil) []) (.seq (.seq (.draw (odp [0, 1, 2, 3, 4, 5] .nil) [1, 4]) (.cond (.seq (.leaf) (.leaf)) (.leaf))) (.seq (.draw (odp [0, 1, 2, 3, 4, 5, 6, 7, 8, 9, 10, 11, 12, 13, 14] .nil) [5, 8, 11]) (.seq (.seq (.leaf) (.cond (.seq (.leaf) (.leaf)) (.leaf))) (.seq (.draw (odp [0, 2, 3, 1, 4, 5, 6, 7] .nil) [200000]) (.leaf)))))))) [.slice page_0 page_0l page_0c] K h0 = F56 page_0 page_0l page_0c K h0 := by kernel_rfl

end Go.Proofs.YtgohecjnjadnpaaGreatDoor.W
