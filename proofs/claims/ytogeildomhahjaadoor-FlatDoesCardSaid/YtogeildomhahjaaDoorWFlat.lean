/-
  The formulas of package flat. Each formula checked by the kernel. Printed by a program of this repo.
-/
import Derived.Test.YtogeildomhahjaaDoorProg
import Derived.Test.YtogeildomhahjaaDoorPl
namespace Go.Proofs.YtogeildomhahjaaDoor.W
open Go.Pl

-- function 24
set_option maxRecDepth 100000 in
def F24 (blocks_0 : Int) (K : Value → Heap → Prop) (h0 : Heap) : Prop := (
  cutT [.sc .bool] (fun (K1 : Bool → Heap → Prop) h2 =>
  br (decide (blocks_0 < (1 : Int)))
  (K1 true h2)
  (K1 (decide (blocks_0 > (64 : Int))) h2)) (fun (s3 : Bool) _ h4 =>
  br s3
  (K (.tuple #[.pointer none, .iface 31 (.int .i64 1)]) h4)
  (newW (.cells (repL 1024 [.int .u8 0] [.int .i64 blocks_0]) 104) (fun a5 h6 =>
  K (.tuple #[.pointer (some a5), .nilIface]) h6) h4)) h0)
set_option maxRecDepth 100000 in
theorem F24_eq (blocks_0 : Int) (K : Value → Heap → Prop) (h0 : Heap) : funWE Tryd.prog 24 (.seq (.leaf) (.seq (.cut [(9, .sc .bool)] (.leaf) (.cond (.seq (.leaf) (.leaf)) (.leaf))) (.seq (.leaf) (.leaf)))) [.int .i64 blocks_0] K h0 = F24 blocks_0 K h0 := by kernel_rfl

-- function 36
set_option maxRecDepth 100000 in
def F36 (m_0 : Addr) (K : Value → Heap → Prop) (h0 : Heap) : Prop := (
  ldW (.int .i64) (Addr.add m_0 1024) (fun (x1 : Int) =>
  K (.int .i64 x1) h0) h0)
set_option maxRecDepth 100000 in
theorem F36_eq (m_0 : Addr) (K : Value → Heap → Prop) (h0 : Heap) : funWE Tryd.prog 36 (.seq (.leaf) (.seq (.leaf) (.leaf))) [.pointer (some m_0)] K h0 = F36 m_0 K h0 := by kernel_rfl

-- function 52
set_option maxRecDepth 100000 in
def F52 (m_0 : Addr) (from_1 : Int) (many_2 : Int) (K : Value → Heap → Prop) (h0 : Heap) : Prop := (
  cutT [] (fun (K1 : Unit → Heap → Prop) h2 =>
  br (decide (from_1 < (0 : Int)))
  (br (decide (from_1 < (0 : Int)))
  (K (.iface 31 (.int .i64 1)) h2)
  (K1 () h2))
  (br (decide (many_2 < (0 : Int)))
  (K (.iface 31 (.int .i64 1)) h2)
  (K1 () h2))) (fun (_s3 : Unit) _ h4 =>
  ldW (.int .i64) (Addr.add m_0 1024) (fun (x5 : Int) =>
  br (decide (from_1 > x5))
  (br (decide (from_1 > x5))
  (K (.iface 31 (.int .i64 1)) h4)
  (K (.nilIface) h4))
  (ldW (.int .i64) (Addr.add m_0 1024) (fun (x6 : Int) =>
  br (decide (many_2 > (IntKind.wrap .i64 (x6 - from_1))))
  (K (.iface 31 (.int .i64 1)) h4)
  (K (.nilIface) h4)) h4)) h4) h0)
set_option maxRecDepth 100000 in
theorem F52_eq (m_0 : Addr) (from_1 : Int) (many_2 : Int) (K : Value → Heap → Prop) (h0 : Heap) : funWE Tryd.prog 52 (.seq (.leaf) (.seq (.block (.seq (.block (.block (.seq (.cut [] (.seq (.seq (.leaf) (.cond (.leaf) (.leaf))) (.cond (.leaf) (.leaf))) (.seq (.seq (.leaf) (.cond (.leaf) (.leaf))) (.cond (.leaf) (.leaf)))) (.leaf)))) (.seq (.seq (.leaf) (.leaf)) (.leaf)))) (.seq (.leaf) (.leaf)))) [.pointer (some m_0), .int .i64 from_1, .int .i64 many_2] K h0 = F52 m_0 from_1 many_2 K h0 := by kernel_rfl

-- function 26
set_option maxRecDepth 100000 in
def F26 (m_0 : Addr) (from_1 : Int) (many_2 : Int) (K : Value → Heap → Prop) (h0 : Heap) : Prop := (
  callT Tryd.prog 52 [.pointer (some m_0), .int .i64 from_1, .int .i64 many_2] [.sc .any] (fun (r1 : Value) h2 =>
  ifW r1 (br (!(isNilV r1))
  (K (.tuple #[.slice none 0 0, r1]) h2)
  (slW (some (Addr.add m_0 0)) 64 16 from_1 (IntKind.wrap .i64 (from_1 + many_2)) (64 : Int) (fun b3 n4 _c5 =>
  loopT [.sc .slice, .sc (.int .i64)] (fun (s7 : (Option Addr × Nat × Nat) × Int) _ (K6 : ((Option Addr × Nat × Nat) × Int) → Heap → Prop) h8 =>
  br (decide (s7.2 < (((n4 : Nat) : Int))))
  (ptrW b3 (fun a9 =>
  idxW s7.2 n4 true (ldRawW 16 (Addr.add a9 (Int.toNat s7.2 * 16)) (fun (x10 : { l : List Value // l.length = 16 }) =>
  newW (.cells (zeroC Tryd.prog 101) 101) (fun a11 h12 =>
  ((x10.1.toArray.toList).length = 16 ∧ stRawW a11 (x10.1.toArray.toList) (fun h13 =>
  slW (some a11) 16 1 (0 : Int) (16 : Int) (16 : Int) (fun b14 n15 c16 =>
  apW Tryd.prog #[25, 25] #[.slice s7.1.1 s7.1.2.1 s7.1.2.2, .slice b14 n15 c16] (fun b17 n18 c19 h20 =>
  K6 ((b17, n18, c19), (IntKind.wrap .i64 (s7.2 + (1 : Int)))) h20) h13)) h12)) h8) h8)))
  (K (.tuple #[.slice s7.1.1 s7.1.2.1 s7.1.2.2, .nilIface]) h8)) ((none, 0, 0), (0 : Int)) h2)))) h0)
set_option maxRecDepth 100000 in
theorem F26_eq (m_0 : Addr) (from_1 : Int) (many_2 : Int) (K : Value → Heap → Prop) (h0 : Heap) : funWE Tryd.prog 26 (.seq (.leaf) (.seq (.seq (.leaf) (.seq (.leaf) (.cond (.seq (.leaf) (.leaf)) (.leaf)))) (.seq (.leaf) (.seq (.seq (.leaf) (.block (.loop [(9, .sc .slice), (28, .sc (.int .i64))] (.seq (.leaf) (.seq (.cond (.leaf) (.leaf)) (.seq (.block (.seq (.leaf) (.leaf))) (.leaf))))))) (.seq (.leaf) (.leaf)))))) [.pointer (some m_0), .int .i64 from_1, .int .i64 many_2] K h0 = F26 m_0 from_1 many_2 K h0 := by kernel_rfl

-- function 28
set_option maxRecDepth 100000 in
def F28 (m_0 : Addr) (from_1 : Int) (b_2 : Option Addr) (b_2l b_2c : Nat) (K : Value → Heap → Prop) (h0 : Heap) : Prop := (
  br ((Int.tmod (((b_2l : Nat) : Int)) (16 : Int)) != (0 : Int))
  (K (.iface 31 (.int .i64 1)) h0)
  (callT Tryd.prog 52 [.pointer (some m_0), .int .i64 from_1, .int .i64 (IntKind.wrap .i64 (Int.tdiv (((b_2l : Nat) : Int)) (16 : Int)))] [.sc .any] (fun (r1 : Value) h2 =>
  ifW r1 (br (!(isNilV r1))
  (K (r1) h2)
  (callT Tryd.prog 34 [.pointer (some m_0), .int .i64 from_1, .slice b_2 b_2l b_2c, .int .i64 (((b_2l : Nat) : Int))] [.sc (.int .i64)] (fun (_r3 : Int) h4 =>
  K (.nilIface) h4) h2))) h0))
set_option maxRecDepth 100000 in
theorem F28_eq (m_0 : Addr) (from_1 : Int) (b_2 : Option Addr) (b_2l b_2c : Nat) (K : Value → Heap → Prop) (h0 : Heap) : funWE Tryd.prog 28 (.seq (.leaf) (.seq (.seq (.leaf) (.cond (.seq (.leaf) (.leaf)) (.leaf))) (.seq (.seq (.leaf) (.seq (.leaf) (.cond (.seq (.leaf) (.leaf)) (.leaf)))) (.seq (.leaf) (.seq (.leaf) (.leaf)))))) [.pointer (some m_0), .int .i64 from_1, .slice b_2 b_2l b_2c] K h0 = F28 m_0 from_1 b_2 b_2l b_2c K h0 := by kernel_rfl

-- function 30
set_option maxRecDepth 100000 in
def F30 (m_0 : Addr) (from_1 : Int) (many_2 : Int) (K : Value → Heap → Prop) (h0 : Heap) : Prop := (
  callT Tryd.prog 52 [.pointer (some m_0), .int .i64 from_1, .int .i64 many_2] [.sc .any] (fun (r1 : Value) h2 =>
  ifW r1 (br (!(isNilV r1))
  (K (r1) h2)
  (slW (some (Addr.add m_0 0)) 64 16 from_1 (IntKind.wrap .i64 (from_1 + many_2)) (64 : Int) (fun b3 n4 c5 =>
  clW Tryd.prog #[105] #[.slice b3 n4 c5] (fun h6 =>
  K (.nilIface) h6) h2)))) h0)
set_option maxRecDepth 100000 in
theorem F30_eq (m_0 : Addr) (from_1 : Int) (many_2 : Int) (K : Value → Heap → Prop) (h0 : Heap) : funWE Tryd.prog 30 (.seq (.leaf) (.seq (.seq (.leaf) (.seq (.leaf) (.cond (.seq (.leaf) (.leaf)) (.leaf)))) (.seq (.leaf) (.seq (.leaf) (.leaf))))) [.pointer (some m_0), .int .i64 from_1, .int .i64 many_2] K h0 = F30 m_0 from_1 many_2 K h0 := by kernel_rfl

-- function 32
set_option maxRecDepth 100000 in
def F32 (m_0 : Addr) (K : Value → Heap → Prop) (h0 : Heap) : Prop := (
  ldRawW 1025 m_0 (fun (x1 : { l : List Value // l.length = 1025 }) =>
  newW (.cells (zeroC Tryd.prog 104) 104) (fun a2 h3 =>
  ((x1.1.toArray.toList).length = 1025 ∧ stRawW a2 (x1.1.toArray.toList) (fun h4 =>
  K (.pointer (some a2)) h4) h3)) h0) h0)
set_option maxRecDepth 100000 in
theorem F32_eq (m_0 : Addr) (K : Value → Heap → Prop) (h0 : Heap) : funWE Tryd.prog 32 (.seq (.leaf) (.seq (.leaf) (.seq (.leaf) (.leaf)))) [.pointer (some m_0)] K h0 = F32 m_0 K h0 := by kernel_rfl

-- function 34
set_option maxRecDepth 100000 in
def F34 (m_0 : Addr) (from_1 : Int) (b_2 : Option Addr) (b_2l b_2c : Nat) (steps_3 : Int) (K : Value → Heap → Prop) (h0 : Heap) : Prop := (
  loopT [.sc (.int .i64)] (fun (s2 : Int) _ (K1 : Int → Heap → Prop) h3 =>
  br (decide (s2 < (mm2 true (mm2 false steps_3 (IntKind.wrap .i64 (Int.tdiv (((b_2l : Nat) : Int)) (16 : Int)))) (0 : Int))))
  (idxW (IntKind.wrap .i64 (from_1 + s2)) 64 true (slW (some (Addr.add (Addr.add m_0 0) (Int.toNat (IntKind.wrap .i64 (from_1 + s2)) * 16))) 16 1 (0 : Int) (16 : Int) (16 : Int) (fun b4 n5 c6 =>
  slW b_2 b_2c 1 (IntKind.wrap .i64 ((16 : Int) * s2)) (IntKind.wrap .i64 ((IntKind.wrap .i64 ((16 : Int) * s2)) + (16 : Int))) (((b_2c : Nat) : Int)) (fun b7 n8 c9 =>
  cpW Tryd.prog #[25, 25] #[.slice b4 n5 c6, .slice b7 n8 c9] (fun _n10 h11 =>
  K1 (IntKind.wrap .i64 (s2 + (1 : Int))) h11) h3))))
  (K (.int .i64 (mm2 true (mm2 false steps_3 (IntKind.wrap .i64 (Int.tdiv (((b_2l : Nat) : Int)) (16 : Int)))) (0 : Int))) h3)) (0 : Int) h0)
set_option maxRecDepth 100000 in
theorem F34_eq (m_0 : Addr) (from_1 : Int) (b_2 : Option Addr) (b_2l b_2c : Nat) (steps_3 : Int) (K : Value → Heap → Prop) (h0 : Heap) : funWE Tryd.prog 34 (.seq (.leaf) (.seq (.leaf) (.seq (.seq (.leaf) (.block (.loop [(18, .sc (.int .i64))] (.seq (.leaf) (.seq (.cond (.leaf) (.leaf)) (.seq (.block (.seq (.leaf) (.draw [0, 1, 2, 3, 4, 5, 6, 7, 8, 9, 10, 11, 12, 13, 14, 15] []))) (.leaf))))))) (.seq (.leaf) (.leaf))))) [.pointer (some m_0), .int .i64 from_1, .slice b_2 b_2l b_2c, .int .i64 steps_3] K h0 = F34 m_0 from_1 b_2 b_2l b_2c steps_3 K h0 := by kernel_rfl

end Go.Proofs.YtogeildomhahjaaDoor.W
