/-
  The formulas of the reference of flat. Each formula checked by the kernel. Printed by a program of this repo.
-/
import Derived.Test.YtogeildomhahjaaDoorProg
import Derived.Test.YtogeildomhahjaaDoorPl
namespace Go.Proofs.YtogeildomhahjaaDoor.W
open Go.Pl

-- function 25
set_option maxRecDepth 100000 in
def F25 (blocks_0 : Int) (K : Value → Heap → Prop) (h0 : Heap) : Prop := (
  cutT [] (fun (K1 : Unit → Heap → Prop) h2 =>
  br (decide (blocks_0 < (1 : Int)))
  (K (.tuple #[.pointer none, .int .i64 1]) h2)
  (br (decide (blocks_0 > (64 : Int)))
  (K (.tuple #[.pointer none, .int .i64 1]) h2)
  (K1 () h2))) (fun (_s3 : Unit) _ h4 =>
  newW (.cells #[.slice none 0 0] 67) (fun a5 h6 =>
  loopT [.sc (.int .i64)] (fun (s8 : Int) _ (K7 : Int → Heap → Prop) h9 =>
  br (decide (s8 < (IntKind.wrap .i64 ((16 : Int) * blocks_0))))
  (ldW .slice (Addr.add a5 0) (fun (x10 : Option Addr × Nat × Nat) =>
  newW (.cells #[.int .u8 0] 5) (fun a11 h12 =>
  apW Tryd.prog #[25, 25] #[.slice x10.1 x10.2.1 x10.2.2, .slice (some a11) 1 1] (fun b13 n14 c15 h16 =>
  stW (Addr.add a5 0) (.slice b13 n14 c15) (fun h17 =>
  K7 (IntKind.wrap .i64 (s8 + (1 : Int))) h17) h16) h12) h9) h9)
  (K (.tuple #[.pointer (some a5), .int .i64 0]) h9)) (0 : Int) h6) h4) h0)
set_option maxRecDepth 100000 in
theorem F25_eq (blocks_0 : Int) (K : Value → Heap → Prop) (h0 : Heap) : funWE Tryd.prog 25 (.seq (.leaf) (.cut [] (.seq (.leaf) (.cond (.seq (.leaf) (.leaf)) (.leaf))) (.seq (.leaf) (.seq (.seq (.leaf) (.block (.loop [(5, .sc (.int .i64))] (.seq (.seq (.leaf) (.cond (.leaf) (.leaf))) (.seq (.block (.leaf)) (.leaf)))))) (.seq (.leaf) (.leaf)))))) [.int .i64 blocks_0] K h0 = F25 blocks_0 K h0 := by kernel_rfl

-- function 33
set_option maxRecDepth 100000 in
def F33 (m_0 : Addr) (from_1 : Int) (many_2 : Int) (K : Value → Heap → Prop) (h0 : Heap) : Prop := (
  ldW .slice (Addr.add m_0 0) (fun (x1 : Option Addr × Nat × Nat) =>
  br (decide (from_1 ≥ (0 : Int)))
  (br (decide (many_2 ≥ (0 : Int)))
  (br (decide (from_1 ≤ (IntKind.wrap .i64 (Int.tdiv (((x1.2.1 : Nat) : Int)) (16 : Int)))))
  (K (.bool (decide (many_2 ≤ (IntKind.wrap .i64 ((IntKind.wrap .i64 (Int.tdiv (((x1.2.1 : Nat) : Int)) (16 : Int))) - from_1))))) h0)
  (K (.bool false) h0))
  (K (.bool false) h0))
  (K (.bool false) h0)) h0)
set_option maxRecDepth 100000 in
theorem F33_eq (m_0 : Addr) (from_1 : Int) (many_2 : Int) (K : Value → Heap → Prop) (h0 : Heap) : funWE Tryd.prog 33 (.seq (.leaf) (.seq (.leaf) (.seq (.leaf) (.leaf)))) [.pointer (some m_0), .int .i64 from_1, .int .i64 many_2] K h0 = F33 m_0 from_1 many_2 K h0 := by kernel_rfl

-- function 27
set_option maxRecDepth 100000 in
def F27 (m_0 : Addr) (from_1 : Int) (many_2 : Int) (K : Value → Heap → Prop) (h0 : Heap) : Prop := (
  callT Tryd.prog 33 [.pointer (some m_0), .int .i64 from_1, .int .i64 many_2] [.sc .bool] (fun (r1 : Bool) h2 =>
  br (!r1)
  (K (.tuple #[.slice none 0 0, .int .i64 1]) h2)
  (newW (.cells #[] 5) (fun a3 h4 =>
  ldW .slice (Addr.add m_0 0) (fun (x5 : Option Addr × Nat × Nat) =>
  slW x5.1 x5.2.2 1 (IntKind.wrap .i64 ((16 : Int) * from_1)) (IntKind.wrap .i64 ((16 : Int) * (IntKind.wrap .i64 (from_1 + many_2)))) (((x5.2.2 : Nat) : Int)) (fun b6 n7 c8 =>
  apW Tryd.prog #[25, 25] #[.slice (some a3) 0 0, .slice b6 n7 c8] (fun b9 n10 c11 h12 =>
  K (.tuple #[.slice b9 n10 c11, .int .i64 0]) h12) h4)) h4) h2)) h0)
set_option maxRecDepth 100000 in
theorem F27_eq (m_0 : Addr) (from_1 : Int) (many_2 : Int) (K : Value → Heap → Prop) (h0 : Heap) : funWE Tryd.prog 27 (.seq (.leaf) (.seq (.seq (.leaf) (.cond (.seq (.leaf) (.leaf)) (.leaf))) (.seq (.leaf) (.leaf)))) [.pointer (some m_0), .int .i64 from_1, .int .i64 many_2] K h0 = F27 m_0 from_1 many_2 K h0 := by kernel_rfl

-- function 29
set_option maxRecDepth 100000 in
def F29 (m_0 : Addr) (from_1 : Int) (b_2 : Option Addr) (b_2l b_2c : Nat) (K : Value → Heap → Prop) (h0 : Heap) : Prop := (
  cutT [] (fun (K1 : Unit → Heap → Prop) h4 =>
  br ((Int.tmod (((b_2l : Nat) : Int)) (16 : Int)) != (0 : Int))
  (K (.int .i64 1) h4)
  (callT Tryd.prog 33 [.pointer (some m_0), .int .i64 from_1, .int .i64 (IntKind.wrap .i64 (Int.tdiv (((b_2l : Nat) : Int)) (16 : Int)))] [.sc .bool] (fun (r2 : Bool) h3 =>
  br (!r2)
  (K (.int .i64 1) h3)
  (K1 () h3)) h4)) (fun (_s5 : Unit) _ h6 =>
  callT Tryd.prog 35 [.pointer (some m_0), .int .i64 from_1, .slice b_2 b_2l b_2c, .int .i64 (IntKind.wrap .i64 (Int.tdiv (((b_2l : Nat) : Int)) (16 : Int)))] [.sc (.int .i64)] (fun (_r7 : Int) h8 =>
  K (.int .i64 0) h8) h6) h0)
set_option maxRecDepth 100000 in
theorem F29_eq (m_0 : Addr) (from_1 : Int) (b_2 : Option Addr) (b_2l b_2c : Nat) (K : Value → Heap → Prop) (h0 : Heap) : funWE Tryd.prog 29 (.seq (.leaf) (.cut [] (.seq (.leaf) (.cond (.seq (.leaf) (.leaf)) (.leaf))) (.seq (.leaf) (.seq (.leaf) (.leaf))))) [.pointer (some m_0), .int .i64 from_1, .slice b_2 b_2l b_2c] K h0 = F29 m_0 from_1 b_2 b_2l b_2c K h0 := by kernel_rfl

-- function 35
set_option maxRecDepth 100000 in
def F35 (m_0 : Addr) (from_1 : Int) (b_2 : Option Addr) (b_2l b_2c : Nat) (steps_3 : Int) (K : Value → Heap → Prop) (h0 : Heap) : Prop := (
  loopT [.sc (.int .i64)] (fun (s2 : Int) _ (K1 : Int → Heap → Prop) h3 =>
  cutT [] (fun (K4 : Unit → Heap → Prop) h5 =>
  br (decide (s2 < steps_3))
  (br (decide (s2 < (IntKind.wrap .i64 (Int.tdiv (((b_2l : Nat) : Int)) (16 : Int)))))
  (K4 () h5)
  (K (.int .i64 s2) h5))
  (K (.int .i64 s2) h5)) (fun (_s6 : Unit) _ h7 =>
  ldW .slice (Addr.add m_0 0) (fun (x8 : Option Addr × Nat × Nat) =>
  slW x8.1 x8.2.2 1 (0 : Int) (IntKind.wrap .i64 ((16 : Int) * (IntKind.wrap .i64 (from_1 + s2)))) (((x8.2.2 : Nat) : Int)) (fun b9 n10 c11 =>
  slW b_2 b_2c 1 (IntKind.wrap .i64 ((16 : Int) * s2)) (IntKind.wrap .i64 ((IntKind.wrap .i64 ((16 : Int) * s2)) + (16 : Int))) (((b_2c : Nat) : Int)) (fun b12 n13 c14 =>
  newW (.cells #[] 5) (fun a15 h16 =>
  apW Tryd.prog #[25, 25] #[.slice (some a15) 0 0, .slice b9 n10 c11] (fun b17 n18 c19 h20 =>
  apW Tryd.prog #[25, 25] #[.slice b17 n18 c19, .slice b12 n13 c14] (fun b21 n22 c23 h24 =>
  ldW .slice (Addr.add m_0 0) (fun (x25 : Option Addr × Nat × Nat) =>
  slW x25.1 x25.2.2 1 (IntKind.wrap .i64 ((IntKind.wrap .i64 ((16 : Int) * (IntKind.wrap .i64 (from_1 + s2)))) + (16 : Int))) (((x25.2.1 : Nat) : Int)) (((x25.2.2 : Nat) : Int)) (fun b26 n27 c28 =>
  apW Tryd.prog #[25, 25] #[.slice b21 n22 c23, .slice b26 n27 c28] (fun b29 n30 c31 h32 =>
  stW (Addr.add m_0 0) (.slice b29 n30 c31) (fun h33 =>
  K1 (IntKind.wrap .i64 (s2 + (1 : Int))) h33) h32) h24)) h24) h20) h16) h7))) h7) h3) (0 : Int) h0)
set_option maxRecDepth 100000 in
theorem F35_eq (m_0 : Addr) (from_1 : Int) (b_2 : Option Addr) (b_2l b_2c : Nat) (steps_3 : Int) (K : Value → Heap → Prop) (h0 : Heap) : funWE Tryd.prog 35 (.seq (.leaf) (.seq (.leaf) (.seq (.block (.loop [(9, .sc (.int .i64))] (.cut [] (.seq (.leaf) (.cond (.leaf) (.leaf))) (.block (.seq (.draw [1, 2, 3, 4, 5, 6, 7, 8, 9, 11, 12, 13, 14, 15, 16, 17, 0, 10, 18, 19] []) (.seq (.leaf) (.leaf))))))) (.seq (.leaf) (.leaf))))) [.pointer (some m_0), .int .i64 from_1, .slice b_2 b_2l b_2c, .int .i64 steps_3] K h0 = F35 m_0 from_1 b_2 b_2l b_2c steps_3 K h0 := by kernel_rfl

-- function 31
set_option maxRecDepth 100000 in
def F31 (m_0 : Addr) (from_1 : Int) (many_2 : Int) (K : Value → Heap → Prop) (h0 : Heap) : Prop := (
  callT Tryd.prog 33 [.pointer (some m_0), .int .i64 from_1, .int .i64 many_2] [.sc .bool] (fun (r1 : Bool) h2 =>
  br (!r1)
  (K (.int .i64 1) h2)
  (newW (.cells #[] 5) (fun a3 h4 =>
  ldW .slice (Addr.add m_0 0) (fun (x5 : Option Addr × Nat × Nat) =>
  apW Tryd.prog #[25, 25] #[.slice (some a3) 0 0, .slice x5.1 x5.2.1 x5.2.2] (fun b6 n7 c8 h9 =>
  loopT [.sc (.int .i64)] (fun (s11 : Int) _ (K10 : Int → Heap → Prop) h12 =>
  br (decide (s11 < (IntKind.wrap .i64 ((16 : Int) * (IntKind.wrap .i64 (from_1 + many_2))))))
  (ptrW b6 (fun a13 =>
  idxW s11 n7 true (stW (Addr.add a13 (Int.toNat s11 * 1)) (.int .u8 0) (fun h14 =>
  K10 (IntKind.wrap .i64 (s11 + (1 : Int))) h14) h12)))
  (stW (Addr.add m_0 0) (.slice b6 n7 c8) (fun h15 =>
  K (.int .i64 0) h15) h12)) (IntKind.wrap .i64 ((16 : Int) * from_1)) h9) h4) h4) h2)) h0)
set_option maxRecDepth 100000 in
theorem F31_eq (m_0 : Addr) (from_1 : Int) (many_2 : Int) (K : Value → Heap → Prop) (h0 : Heap) : funWE Tryd.prog 31 (.seq (.leaf) (.seq (.seq (.leaf) (.cond (.seq (.leaf) (.leaf)) (.leaf))) (.seq (.leaf) (.seq (.seq (.leaf) (.block (.loop [(8, .sc (.int .i64))] (.seq (.seq (.leaf) (.cond (.leaf) (.leaf))) (.seq (.block (.leaf)) (.leaf)))))) (.seq (.leaf) (.seq (.leaf) (.leaf))))))) [.pointer (some m_0), .int .i64 from_1, .int .i64 many_2] K h0 = F31 m_0 from_1 many_2 K h0 := by kernel_rfl

end Go.Proofs.YtogeildomhahjaaDoor.W
