/-
  The formulas of math/bits.Len. Each formula checked by the kernel. Printed by a program of this repo.
-/
import Derived.Test.YtfanjfbenhocnaaGreatDoorProg
import Derived.Test.YtfanjfbenhocnaaGreatDoorPl
namespace Go.Proofs.YtfanjfbenhocnaaGreatDoor.W
open Go.Pl

-- function 73
set_option maxRecDepth 100000 in
def F73 (x_0 : Int) (K : Value → Heap → Prop) (h0 : Heap) : Prop := (
  callT Tryz.prog 84 [.int .u64 x_0] [.sc (.int .i64)] (fun (r1 : Int) h2 =>
  K (.int .i64 r1) h2) h0)
set_option maxRecDepth 100000 in
theorem F73_eq (x_0 : Int) (K : Value → Heap → Prop) (h0 : Heap) : funWE Tryz.prog 73 (.seq (.leaf) (.seq (.cond (.seq (.leaf) (.leaf)) (.leaf)) (.seq (.leaf) (.leaf)))) [.int .u64 x_0] K h0 = F73 x_0 K h0 := by kernel_rfl

-- function 84
set_option maxRecDepth 100000 in
def F84 (x_0 : Int) (K : Value → Heap → Prop) (h0 : Heap) : Prop := (
  cutT [.sc (.int .u64), .sc (.int .i64)] (fun (K1 : (Int × Int) → Heap → Prop) h2 =>
  br (decide (x_0 ≥ (4294967296 : Int)))
  (K1 ((Int.fdiv x_0 4294967296), (32 : Int)) h2)
  (K1 (x_0, (0 : Int)) h2)) (fun (s3 : Int × Int) _ h4 =>
  cutT [.sc (.int .u64), .sc (.int .i64)] (fun (K5 : (Int × Int) → Heap → Prop) h6 =>
  br (decide (s3.1 ≥ (65536 : Int)))
  (K5 ((Int.fdiv s3.1 65536), (IntKind.wrap .i64 (s3.2 + (16 : Int)))) h6)
  (K5 (s3.1, s3.2) h6)) (fun (s7 : Int × Int) _ h8 =>
  cutT [.sc (.int .u64), .sc (.int .i64)] (fun (K9 : (Int × Int) → Heap → Prop) h10 =>
  br (decide (s7.1 ≥ (256 : Int)))
  (K9 ((Int.fdiv s7.1 256), (IntKind.wrap .i64 (s7.2 + (8 : Int)))) h10)
  (K9 (s7.1, s7.2) h10)) (fun (s11 : Int × Int) _ h12 =>
  (0 ≤ (IntKind.wrap .u8 s11.1) ∧ ∃ b13 : UInt8, ((⟨#[0, 1, 2, 2, 3, 3, 3, 3, 4, 4, 4, 4, 4, 4, 4, 4, 5, 5, 5, 5, 5, 5, 5, 5, 5, 5, 5, 5, 5, 5, 5, 5, 6, 6, 6, 6, 6, 6, 6, 6, 6, 6, 6, 6, 6, 6, 6, 6, 6, 6, 6, 6, 6, 6, 6, 6, 6, 6, 6, 6, 6, 6, 6, 6, 7, 7, 7, 7, 7, 7, 7, 7, 7, 7, 7, 7, 7, 7, 7, 7, 7, 7, 7, 7, 7, 7, 7, 7, 7, 7, 7, 7, 7, 7, 7, 7, 7, 7, 7, 7, 7, 7, 7, 7, 7, 7, 7, 7, 7, 7, 7, 7, 7, 7, 7, 7, 7, 7, 7, 7, 7, 7, 7, 7, 7, 7, 7, 7, 8, 8, 8, 8, 8, 8, 8, 8, 8, 8, 8, 8, 8, 8, 8, 8, 8, 8, 8, 8, 8, 8, 8, 8, 8, 8, 8, 8, 8, 8, 8, 8, 8, 8, 8, 8, 8, 8, 8, 8, 8, 8, 8, 8, 8, 8, 8, 8, 8, 8, 8, 8, 8, 8, 8, 8, 8, 8, 8, 8, 8, 8, 8, 8, 8, 8, 8, 8, 8, 8, 8, 8, 8, 8, 8, 8, 8, 8, 8, 8, 8, 8, 8, 8, 8, 8, 8, 8, 8, 8, 8, 8, 8, 8, 8, 8, 8, 8, 8, 8, 8, 8, 8, 8, 8, 8, 8, 8, 8, 8, 8, 8, 8, 8, 8, 8, 8, 8, 8, 8, 8, 8, 8, 8, 8, 8, 8, 8]⟩ : ByteArray))[Int.toNat (IntKind.wrap .u8 s11.1)]? = some b13 ∧ K (.int .i64 (IntKind.wrap .i64 (s11.2 + (IntKind.wrap .i64 ((b13.toNat : Int)))))) h12)) h8) h4) h0)
set_option maxRecDepth 100000 in
theorem F84_eq (x_0 : Int) (K : Value → Heap → Prop) (h0 : Heap) : funWE Tryz.prog 84 (.seq (.leaf) (.cut [(0, .sc (.int .u64)), (2, .sc (.int .i64))] (.seq (.leaf) (.cond (.seq (.leaf) (.leaf)) (.leaf))) (.cut [(0, .sc (.int .u64)), (2, .sc (.int .i64))] (.seq (.leaf) (.cond (.seq (.leaf) (.leaf)) (.leaf))) (.cut [(0, .sc (.int .u64)), (2, .sc (.int .i64))] (.seq (.leaf) (.cond (.seq (.leaf) (.leaf)) (.leaf))) (.seq (.leaf) (.leaf)))))) [.int .u64 x_0] K h0 = F84 x_0 K h0 := by kernel_rfl

end Go.Proofs.YtfanjfbenhocnaaGreatDoor.W
