/-
  The formulas of the reference of body. Each formula checked by the kernel. Printed by a program of this repo.
-/
import Derived.Test.YtogeildomhahjaaDoorProg
import Derived.Test.YtogeildomhahjaaDoorPl
namespace Go.Proofs.YtogeildomhahjaaDoor.W
open Go.Pl

-- function 50
set_option maxRecDepth 100000 in
def F50 (n_0 : Int) (K : Value → Heap → Prop) (h0 : Heap) : Prop := (
  newW (.cells #[.int .u8 (IntKind.wrap .u8 (Int.tmod n_0 (256 : Int))), .int .u8 (IntKind.wrap .u8 (Int.tmod (IntKind.wrap .u32 (Int.tdiv n_0 (256 : Int))) (256 : Int))), .int .u8 (IntKind.wrap .u8 (Int.tmod (IntKind.wrap .u32 (Int.tdiv n_0 (65536 : Int))) (256 : Int))), .int .u8 (IntKind.wrap .u8 (IntKind.wrap .u32 (Int.tdiv n_0 (16777216 : Int))))] 5) (fun a1 h2 =>
  K (.slice (some a1) 4 4) h2) h0)
set_option maxRecDepth 100000 in
theorem F50_eq (n_0 : Int) (K : Value → Heap → Prop) (h0 : Heap) : funWE Tryd.prog 50 (.seq (.leaf) (.seq (.leaf) (.leaf))) [.int .u32 n_0] K h0 = F50 n_0 K h0 := by kernel_rfl

-- function 19
set_option maxRecDepth 100000 in
def F19 (l_0_0 : Int) (l_0_1 : Int) (l_0_2 : Int) (l_0_3 : Int) (K : Value → Heap → Prop) (h0 : Heap) : Prop := (
  newW (.cells #[.int .u32 l_0_0, .int .u32 l_0_1, .int .u32 l_0_2, .int .u32 l_0_3] 23) (fun a1 h2 =>
  newW (.cells #[] 5) (fun a3 h4 =>
  loopT [.sc .slice, .sc (.int .i64)] (fun (s6 : (Option Addr × Nat × Nat) × Int) _ (K5 : ((Option Addr × Nat × Nat) × Int) → Heap → Prop) h7 =>
  br (decide (s6.2 < (4 : Int)))
  (idxW s6.2 4 true (ldW (.int .u32) (Addr.add a1 (Int.toNat s6.2 * 1)) (fun (x8 : Int) =>
  callT Tryd.prog 50 [.int .u32 x8] [.sc .slice] (fun (r9 : (Option Addr × Nat × Nat)) h10 =>
  apW Tryd.prog #[25, 25] #[.slice s6.1.1 s6.1.2.1 s6.1.2.2, .slice r9.1 r9.2.1 r9.2.2] (fun b11 n12 c13 h14 =>
  K5 ((b11, n12, c13), (IntKind.wrap .i64 (s6.2 + (1 : Int)))) h14) h10) h7) h7))
  (K (.slice s6.1.1 s6.1.2.1 s6.1.2.2) h7)) (((some a3), 0, 0), (0 : Int)) h4) h2) h0)
set_option maxRecDepth 100000 in
theorem F19_eq (l_0_0 : Int) (l_0_1 : Int) (l_0_2 : Int) (l_0_3 : Int) (K : Value → Heap → Prop) (h0 : Heap) : funWE Tryd.prog 19 (.seq (.leaf) (.seq (.leaf) (.seq (.seq (.leaf) (.block (.loop [(3, .sc .slice), (4, .sc (.int .i64))] (.seq (.seq (.leaf) (.cond (.leaf) (.leaf))) (.seq (.block (.leaf)) (.leaf)))))) (.seq (.leaf) (.leaf))))) [.agg #[.int .u32 l_0_0, .int .u32 l_0_1, .int .u32 l_0_2, .int .u32 l_0_3]] K h0 = F19 l_0_0 l_0_1 l_0_2 l_0_3 K h0 := by kernel_rfl

-- function 14
set_option maxRecDepth 100000 in
def F14 (b_0 : Option Addr) (b_0l _b_0c : Nat) (K : Value → Heap → Prop) (h0 : Heap) : Prop := (
  newW (.cells (zeroC Tryd.prog 23) 23) (fun a1 h2 =>
  newW (.cells (zeroC Tryd.prog 23) 23) (fun a3 h4 =>
  stLW a3 [.int .u32 0, .int .u32 0, .int .u32 0, .int .u32 0] (fun h5 =>
  br ((((b_0l : Nat) : Int)) != (16 : Int))
  (ldAggW [.int .u32, .int .u32, .int .u32, .int .u32] a3 (fun (x6 : Int × Int × Int × Int) =>
  stLW a1 [.int .u32 x6.1, .int .u32 x6.2.1, .int .u32 x6.2.2.1, .int .u32 x6.2.2.2] (fun h7 =>
  ldAggW [.int .u32, .int .u32, .int .u32, .int .u32] a1 (fun (x8 : Int × Int × Int × Int) =>
  K (.tuple #[.agg #[.int .u32 x8.1, .int .u32 x8.2.1, .int .u32 x8.2.2.1, .int .u32 x8.2.2.2], .int .i64 3]) h7) h7) h5) h5)
  (loopT [.sc (.int .i64)] (fun (s10 : Int) _ (K9 : Int → Heap → Prop) h11 =>
  br (decide (s10 < (4 : Int)))
  (ptrW b_0 (fun a12 =>
  idxW (IntKind.wrap .i64 ((4 : Int) * s10)) b_0l true (ldW (.int .u8) (Addr.add a12 (Int.toNat (IntKind.wrap .i64 ((4 : Int) * s10)) * 1)) (fun (x13 : Int) =>
  ptrW b_0 (fun a14 =>
  idxW (IntKind.wrap .i64 ((IntKind.wrap .i64 ((4 : Int) * s10)) + (1 : Int))) b_0l true (ldW (.int .u8) (Addr.add a14 (Int.toNat (IntKind.wrap .i64 ((IntKind.wrap .i64 ((4 : Int) * s10)) + (1 : Int))) * 1)) (fun (x15 : Int) =>
  ptrW b_0 (fun a16 =>
  idxW (IntKind.wrap .i64 ((IntKind.wrap .i64 ((4 : Int) * s10)) + (2 : Int))) b_0l true (ldW (.int .u8) (Addr.add a16 (Int.toNat (IntKind.wrap .i64 ((IntKind.wrap .i64 ((4 : Int) * s10)) + (2 : Int))) * 1)) (fun (x17 : Int) =>
  ptrW b_0 (fun a18 =>
  idxW (IntKind.wrap .i64 ((IntKind.wrap .i64 ((4 : Int) * s10)) + (3 : Int))) b_0l true (ldW (.int .u8) (Addr.add a18 (Int.toNat (IntKind.wrap .i64 ((IntKind.wrap .i64 ((4 : Int) * s10)) + (3 : Int))) * 1)) (fun (x19 : Int) =>
  idxW s10 4 true (stW (Addr.add a3 (Int.toNat s10 * 1)) (.int .u32 (IntKind.wrap .u32 ((IntKind.wrap .u32 ((IntKind.wrap .u32 ((IntKind.wrap .u32 x13) + (IntKind.wrap .u32 ((256 : Int) * (IntKind.wrap .u32 x15))))) + (IntKind.wrap .u32 ((65536 : Int) * (IntKind.wrap .u32 x17))))) + (IntKind.wrap .u32 ((16777216 : Int) * (IntKind.wrap .u32 x19)))))) (fun h20 =>
  K9 (IntKind.wrap .i64 (s10 + (1 : Int))) h20) h11)) h11))) h11))) h11))) h11)))
  (ldAggW [.int .u32, .int .u32, .int .u32, .int .u32] a3 (fun (x21 : Int × Int × Int × Int) =>
  stLW a1 [.int .u32 x21.1, .int .u32 x21.2.1, .int .u32 x21.2.2.1, .int .u32 x21.2.2.2] (fun h22 =>
  ldAggW [.int .u32, .int .u32, .int .u32, .int .u32] a1 (fun (x23 : Int × Int × Int × Int) =>
  K (.tuple #[.agg #[.int .u32 x23.1, .int .u32 x23.2.1, .int .u32 x23.2.2.1, .int .u32 x23.2.2.2], .int .i64 0]) h22) h22) h11) h11)) (0 : Int) h5)) h4) h2) h0)
set_option maxRecDepth 100000 in
theorem F14_eq (b_0 : Option Addr) (b_0l b_0c : Nat) (K : Value → Heap → Prop) (h0 : Heap) : funWE Tryd.prog 14 (.seq (.leaf) (.seq (.leaf) (.seq (.seq (.leaf) (.cond (.seq (.leaf) (.leaf)) (.leaf))) (.seq (.seq (.leaf) (.block (.loop [(5, .sc (.int .i64))] (.seq (.seq (.leaf) (.cond (.leaf) (.leaf))) (.seq (.block (.draw [0, 1, 2, 3, 4, 5, 6, 7, 8, 9, 10, 11, 12, 13, 14, 15, 16, 17, 18, 19, 20, 21, 22, 23, 24, 25, 26, 27, 28, 29, 30, 31, 32, 33, 34, 35] [])) (.leaf)))))) (.seq (.leaf) (.leaf)))))) [.slice b_0 b_0l b_0c] K h0 = F14 b_0 b_0l b_0c K h0 := by kernel_rfl

-- function 16
set_option maxRecDepth 100000 in
def F16 (b_0 : Option Addr) (b_0l b_0c : Nat) (K : Value → Heap → Prop) (h0 : Heap) : Prop := (
  callT Tryd.prog 14 [.slice b_0 b_0l b_0c] [.agg [.int .u32, .int .u32, .int .u32, .int .u32], .sc (.int .i64)] (fun (r1 : (Int × Int × Int × Int) × Int) h2 =>
  newW (.cells (zeroC Tryd.prog 23) 23) (fun a3 h4 =>
  stLW a3 [.int .u32 r1.1.1, .int .u32 r1.1.2.1, .int .u32 r1.1.2.2.1, .int .u32 r1.1.2.2.2] (fun h5 =>
  br (r1.2 != (0 : Int))
  (K (.tuple #[.int .u32 0, .int .i64 r1.2]) h5)
  (cutT [.sc .bool] (fun (K6 : Bool → Heap → Prop) h11 =>
  idxW (0 : Int) 4 true (ldW (.int .u32) (Addr.add a3 (Int.toNat (0 : Int) * 1)) (fun (x7 : Int) =>
  br (x7 == (0 : Int))
  (K6 true h11)
  (idxW (1 : Int) 4 true (ldW (.int .u32) (Addr.add a3 (Int.toNat (1 : Int) * 1)) (fun (x8 : Int) =>
  br (x8 != (0 : Int))
  (K6 true h11)
  (idxW (2 : Int) 4 true (ldW (.int .u32) (Addr.add a3 (Int.toNat (2 : Int) * 1)) (fun (x9 : Int) =>
  br (x9 != (0 : Int))
  (K6 true h11)
  (idxW (3 : Int) 4 true (ldW (.int .u32) (Addr.add a3 (Int.toNat (3 : Int) * 1)) (fun (x10 : Int) =>
  K6 (x10 != (0 : Int)) h11) h11))) h11))) h11))) h11)) (fun (s12 : Bool) _ h13 =>
  br s12
  (K (.tuple #[.int .u32 0, .int .i64 2]) h13)
  (idxW (0 : Int) 4 true (ldW (.int .u32) (Addr.add a3 (Int.toNat (0 : Int) * 1)) (fun (x14 : Int) =>
  K (.tuple #[.int .u32 x14, .int .i64 0]) h13) h13))) h5)) h4) h2) h0)
set_option maxRecDepth 100000 in
theorem F16_eq (b_0 : Option Addr) (b_0l b_0c : Nat) (K : Value → Heap → Prop) (h0 : Heap) : funWE Tryd.prog 16 (.seq (.leaf) (.seq (.leaf) (.seq (.seq (.leaf) (.cond (.seq (.leaf) (.leaf)) (.leaf))) (.seq (.cut [(31, .sc .bool)] (.leaf) (.cond (.seq (.leaf) (.leaf)) (.leaf))) (.seq (.leaf) (.leaf)))))) [.slice b_0 b_0l b_0c] K h0 = F16 b_0 b_0l b_0c K h0 := by kernel_rfl

end Go.Proofs.YtogeildomhahjaaDoor.W
