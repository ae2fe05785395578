/-
  The formulas of package zns. Each formula checked by the kernel. Printed by a program of this repo.
-/
import Derived.Test.YtgohecjnjadnpaaDoorProg
import Derived.Test.YtgohecjnjadnpaaDoorPl
namespace Go.Proofs.YtgohecjnjadnpaaDoor.W
open Go.Pl

-- function 25
set_option maxRecDepth 100000 in
def F25 (zones_0 : Int) (pages_1 : Int) (K : Value → Heap → Prop) (h0 : Heap) : Prop := (
  cutT [] (fun (K1 : Unit → Heap → Prop) h2 =>
  br (decide (zones_0 < (1 : Int)))
  (K (.tuple #[.pointer none, .iface 31 (.int .i64 1)]) h2)
  (br (decide (zones_0 > (24 : Int)))
  (K (.tuple #[.pointer none, .iface 31 (.int .i64 1)]) h2)
  (br (decide (pages_1 < (1 : Int)))
  (K (.tuple #[.pointer none, .iface 31 (.int .i64 1)]) h2)
  (br (decide (pages_1 > (16 : Int)))
  (K (.tuple #[.pointer none, .iface 31 (.int .i64 1)]) h2)
  (K1 () h2))))) (fun (_s3 : Unit) _ h4 =>
  mkW Tryd.prog 140 zones_0 zones_0 (fun b5 n6 c7 h8 =>
  newW (.cells #[.slice b5 n6 c7, .int .i64 pages_1, .int .i64 (-1), .int .i64 0, .bool false] 126) (fun a9 h10 =>
  K (.tuple #[.pointer (some a9), .nilIface]) h10) h8) h4) h0)
set_option maxRecDepth 100000 in
theorem F25_eq (zones_0 : Int) (pages_1 : Int) (K : Value → Heap → Prop) (h0 : Heap) : funWE Tryd.prog 25 (.seq (.leaf) (.cut [] (.seq (.leaf) (.cond (.seq (.leaf) (.leaf)) (.leaf))) (.seq (.leaf) (.leaf)))) [.int .i64 zones_0, .int .i64 pages_1] K h0 = F25 zones_0 pages_1 K h0 := by kernel_rfl

-- function 40
set_option maxRecDepth 100000 in
def F40 (pages_0 : Int) (l_1 : Option Addr) (l_1l _l_1c : Nat) (K : Value → Heap → Prop) (h0 : Heap) : Prop := (
  callT Tryd.prog 25 [.int .i64 (((l_1l : Nat) : Int)), .int .i64 pages_0] [.sc .ptr, .sc .any] (fun (r1 : (Option Addr) × Value) h2 =>
  ifW r1.2 (br (!(isNilV r1.2))
  (K (.tuple #[.pointer none, r1.2]) h2)
  (loopT [.sc (.int .i64)] (fun (s4 : Int) _ (K3 : Int → Heap → Prop) h5 =>
  br (decide (s4 < (((l_1l : Nat) : Int))))
  (ptrW l_1 (fun a6 =>
  idxW s4 l_1l true (ldW .slice (Addr.add a6 (Int.toNat s4 * 1)) (fun (x7 : Option Addr × Nat × Nat) =>
  br (decide ((((x7.2.1 : Nat) : Int)) > pages_0))
  (K (.tuple #[.pointer none, .iface 31 (.int .i64 1)]) h5)
  (loopT [.sc (.int .i64)] (fun (s9 : Int) _ (K8 : Int → Heap → Prop) h10 =>
  br (decide (s9 < (((x7.2.1 : Nat) : Int))))
  (ptrW x7.1 (fun a11 =>
  idxW s9 x7.2.1 true (ldW .slice (Addr.add a11 (Int.toNat s9 * 1)) (fun (x12 : Option Addr × Nat × Nat) =>
  cutT [] (fun (K13 : Unit → Heap → Prop) h14 =>
  br ((((x12.2.1 : Nat) : Int)) != (0 : Int))
  (br ((((x12.2.1 : Nat) : Int)) != (33 : Int))
  (K (.tuple #[.pointer none, .iface 31 (.int .i64 1)]) h14)
  (K13 () h14))
  (K13 () h14)) (fun (_s15 : Unit) _ h16 =>
  ptrW r1.1 (fun a17 =>
  ldW .slice (Addr.add a17 0) (fun (x18 : Option Addr × Nat × Nat) =>
  ptrW r1.1 (fun a19 =>
  ldW .slice (Addr.add a19 0) (fun (x20 : Option Addr × Nat × Nat) =>
  ptrW x20.1 (fun a21 =>
  idxW s4 x20.2.1 true (ldW .slice (Addr.add (Addr.add a21 (Int.toNat s4 * 3)) 2) (fun (x22 : Option Addr × Nat × Nat) =>
  callT Tryd.prog 60 [.slice x12.1 x12.2.1 x12.2.2] [.sc .slice] (fun (r23 : (Option Addr × Nat × Nat)) h24 =>
  (newW (.cells #[.slice r23.1 r23.2.1 r23.2.2] 25) (fun a25 h26 =>
  apW Tryd.prog #[78, 78] #[.slice x22.1 x22.2.1 x22.2.2, .slice (some a25) 1 1] (fun b27 n28 c29 h30 =>
  (cellH h30 (Addr.add a17 0) = some (.slice x18.1 x18.2.1 x18.2.2) ∧ ptrW x18.1 (fun a31 =>
  idxW s4 x18.2.1 true (stW (Addr.add (Addr.add a31 (Int.toNat s4 * 3)) 2) (.slice b27 n28 c29) (fun h32 =>
  K8 (IntKind.wrap .i64 (s9 + (1 : Int))) h32) h30)))) h26) h24 ∧ Ext h16 h24)) h16) h16))) h16)) h16)) h10) h10)))
  (ptrW r1.1 (fun a33 =>
  ldW .slice (Addr.add a33 0) (fun (x34 : Option Addr × Nat × Nat) =>
  ptrW x34.1 (fun a35 =>
  idxW s4 x34.2.1 true (stW (Addr.add (Addr.add (Addr.add a35 (Int.toNat s4 * 3)) 0) 0) (.int .i64 (((x7.2.1 : Nat) : Int))) (fun h36 =>
  K3 (IntKind.wrap .i64 (s4 + (1 : Int))) h36) h10))) h10))) (0 : Int) h5)) h5)))
  (K (.tuple #[.pointer r1.1, .nilIface]) h5)) (0 : Int) h2))) h0)
set_option maxRecDepth 100000 in
theorem F40_eq (pages_0 : Int) (l_1 : Option Addr) (l_1l l_1c : Nat) (K : Value → Heap → Prop) (h0 : Heap) : funWE Tryd.prog 40 (.seq (.leaf) (.seq (.leaf) (.seq (.seq (.leaf) (.cond (.seq (.leaf) (.leaf)) (.leaf))) (.seq (.seq (.leaf) (.block (.loop [(24, .sc (.int .i64))] (.seq (.leaf) (.seq (.cond (.leaf) (.leaf)) (.seq (.block (.seq (.leaf) (.seq (.seq (.leaf) (.cond (.seq (.leaf) (.leaf)) (.leaf))) (.seq (.seq (.leaf) (.block (.loop [(36, .sc (.int .i64))] (.seq (.leaf) (.seq (.cond (.leaf) (.leaf)) (.seq (.block (.seq (.leaf) (.cut [] (.seq (.leaf) (.cond (.seq (.leaf) (.leaf)) (.leaf))) (.draw (odp [0, 1, 2, 3, 4, 5, 6, 7, 8, 9, 10, 11, 12, 13, 14, 15, 16, 17, 18, 19] .nil) [100014, 200003])))) (.leaf))))))) (.leaf))))) (.leaf))))))) (.seq (.leaf) (.leaf)))))) [.int .i64 pages_0, .slice l_1 l_1l l_1c] K h0 = F40 pages_0 l_1 l_1l l_1c K h0 := by kernel_rfl

-- function 65
set_option maxRecDepth 100000 in
def F65 (d_0 : Addr) (K : Value → Heap → Prop) (h0 : Heap) : Prop := (
  ldW .slice (Addr.add d_0 0) (fun (x1 : Option Addr × Nat × Nat) =>
  K (.int .i64 (((x1.2.1 : Nat) : Int))) h0) h0)
set_option maxRecDepth 100000 in
theorem F65_eq (d_0 : Addr) (K : Value → Heap → Prop) (h0 : Heap) : funWE Tryd.prog 65 (.seq (.leaf) (.seq (.leaf) (.leaf))) [.pointer (some d_0)] K h0 = F65 d_0 K h0 := by kernel_rfl

-- function 66
set_option maxRecDepth 100000 in
def F66 (d_0 : Addr) (K : Value → Heap → Prop) (h0 : Heap) : Prop := (
  ldW (.int .i64) (Addr.add d_0 1) (fun (x1 : Int) =>
  K (.int .i64 x1) h0) h0)
set_option maxRecDepth 100000 in
theorem F66_eq (d_0 : Addr) (K : Value → Heap → Prop) (h0 : Heap) : funWE Tryd.prog 66 (.seq (.leaf) (.seq (.leaf) (.leaf))) [.pointer (some d_0)] K h0 = F66 d_0 K h0 := by kernel_rfl

-- function 80
set_option maxRecDepth 100000 in
def F80 (d_0 : Addr) (n_1 : Int) (K : Value → Heap → Prop) (h0 : Heap) : Prop := (
  br (decide (n_1 ≥ (0 : Int)))
  (ldW .slice (Addr.add d_0 0) (fun (x1 : Option Addr × Nat × Nat) =>
  K (.bool (decide (n_1 < (((x1.2.1 : Nat) : Int))))) h0) h0)
  (K (.bool false) h0))
set_option maxRecDepth 100000 in
theorem F80_eq (d_0 : Addr) (n_1 : Int) (K : Value → Heap → Prop) (h0 : Heap) : funWE Tryd.prog 80 (.seq (.leaf) (.seq (.leaf) (.leaf))) [.pointer (some d_0), .int .i64 n_1] K h0 = F80 d_0 n_1 K h0 := by kernel_rfl

-- function 79
set_option maxRecDepth 100000 in
def F79 (d_0 : Addr) (n_1 : Int) (K : Value → Heap → Prop) (h0 : Heap) : Prop := (
  callT Tryd.prog 80 [.pointer (some d_0), .int .i64 n_1] [.sc .bool] (fun (r1 : Bool) h2 =>
  br (!r1)
  (newW (.cells #[.int .i64 0, .bool false, .slice none 0 0] 140) (fun a3 h4 =>
  K (.pointer (some a3)) h4) h2)
  (ldW .slice (Addr.add d_0 0) (fun (x5 : Option Addr × Nat × Nat) =>
  ptrW x5.1 (fun a6 =>
  idxW n_1 x5.2.1 true (K (.pointer (some (Addr.add a6 (Int.toNat n_1 * 3)))) h2))) h2)) h0)
set_option maxRecDepth 100000 in
theorem F79_eq (d_0 : Addr) (n_1 : Int) (K : Value → Heap → Prop) (h0 : Heap) : funWE Tryd.prog 79 (.seq (.leaf) (.seq (.seq (.leaf) (.cond (.seq (.leaf) (.leaf)) (.leaf))) (.seq (.leaf) (.leaf)))) [.pointer (some d_0), .int .i64 n_1] K h0 = F79 d_0 n_1 K h0 := by kernel_rfl

-- function 32
set_option maxRecDepth 100000 in
def F32 (d_0 : Addr) (n_1 : Int) (K : Value → Heap → Prop) (h0 : Heap) : Prop := (
  callT Tryd.prog 79 [.pointer (some d_0), .int .i64 n_1] [.sc .ptr] (fun (r1 : (Option Addr)) h2 =>
  ptrW r1 (fun a3 =>
  ldW .slice (Addr.add a3 2) (fun (x4 : Option Addr × Nat × Nat) =>
  K (.int .i64 (((x4.2.1 : Nat) : Int))) h2) h2)) h0)
set_option maxRecDepth 100000 in
theorem F32_eq (d_0 : Addr) (n_1 : Int) (K : Value → Heap → Prop) (h0 : Heap) : funWE Tryd.prog 32 (.seq (.leaf) (.seq (.leaf) (.leaf))) [.pointer (some d_0), .int .i64 n_1] K h0 = F32 d_0 n_1 K h0 := by kernel_rfl

-- function 31
set_option maxRecDepth 100000 in
def F31 (d_0 : Addr) (n_1 : Int) (K : Value → Heap → Prop) (h0 : Heap) : Prop := (
  callT Tryd.prog 79 [.pointer (some d_0), .int .i64 n_1] [.sc .ptr] (fun (r1 : (Option Addr)) h2 =>
  ptrW r1 (fun a3 =>
  ldW (.int .i64) (Addr.add (Addr.add a3 0) 0) (fun (x4 : Int) =>
  K (.int .i64 x4) h2) h2)) h0)
set_option maxRecDepth 100000 in
theorem F31_eq (d_0 : Addr) (n_1 : Int) (K : Value → Heap → Prop) (h0 : Heap) : funWE Tryd.prog 31 (.seq (.leaf) (.seq (.leaf) (.leaf))) [.pointer (some d_0), .int .i64 n_1] K h0 = F31 d_0 n_1 K h0 := by kernel_rfl

-- function 64
set_option maxRecDepth 100000 in
def F64 (d_0 : Addr) (n_1 : Int) (K : Value → Heap → Prop) (h0 : Heap) : Prop := (
  callT Tryd.prog 79 [.pointer (some d_0), .int .i64 n_1] [.sc .ptr] (fun (r1 : (Option Addr)) h2 =>
  ptrW r1 (fun a3 =>
  ldW .slice (Addr.add a3 2) (fun (x4 : Option Addr × Nat × Nat) =>
  br ((((x4.2.1 : Nat) : Int)) == (0 : Int))
  (K (.int .i64 0) h2)
  (ptrW r1 (fun a5 =>
  ldW .bool (Addr.add (Addr.add a5 0) 1) (fun (x6 : Bool) =>
  br x6
  (K (.int .i64 2) h2)
  (ptrW r1 (fun a7 =>
  ldW .slice (Addr.add a7 2) (fun (x8 : Option Addr × Nat × Nat) =>
  ldW (.int .i64) (Addr.add d_0 1) (fun (x9 : Int) =>
  br ((((x8.2.1 : Nat) : Int)) == x9)
  (K (.int .i64 2) h2)
  (K (.int .i64 1) h2)) h2) h2))) h2))) h2)) h0)
set_option maxRecDepth 100000 in
theorem F64_eq (d_0 : Addr) (n_1 : Int) (K : Value → Heap → Prop) (h0 : Heap) : funWE Tryd.prog 64 (.seq (.leaf) (.seq (.leaf) (.seq (.block (.seq (.leaf) (.cond (.seq (.leaf) (.leaf)) (.seq (.draw (odp [0, 1, 2, 3, 4, 5, 6, 7, 8, 9, 10, 11, 12, 13, 14, 15, 16, 17] .nil) []) (.cond (.seq (.leaf) (.leaf)) (.leaf)))))) (.seq (.leaf) (.leaf))))) [.pointer (some d_0), .int .i64 n_1] K h0 = F64 d_0 n_1 K h0 := by kernel_rfl

-- function 82
set_option maxRecDepth 100000 in
def F82 (d_0 : Addr) (e_1 : Int) (do_2 : Value) (K : Value → Heap → Prop) (h0 : Heap) : Prop := (
  ldW .bool (Addr.add d_0 4) (fun (x1 : Bool) =>
  br x1
  (K (.iface 31 (.int .i64 7)) h0)
  (br (e_1 != (0 : Int))
  (K (.iface 31 (.int .i64 e_1)) h0)
  (ldW (.int .i64) (Addr.add d_0 2) (fun (x2 : Int) =>
  br (x2 == (0 : Int))
  (stW (Addr.add d_0 4) (.bool true) (fun h3 =>
  K (.iface 31 (.int .i64 7)) h3) h0)
  (ldW (.int .i64) (Addr.add d_0 2) (fun (x4 : Int) =>
  stW (Addr.add d_0 2) (.int .i64 (mm2 true (IntKind.wrap .i64 (x4 - (1 : Int))) (-1 : Int))) (fun h5 =>
  ldW (.int .i64) (Addr.add d_0 3) (fun (x6 : Int) =>
  stW (Addr.add d_0 3) (.int .i64 (IntKind.wrap .i64 (x6 + (1 : Int)))) (fun h7 =>
  callW Tryd.prog (.sc .any) do_2 [] (fun (_x8 : Value) h9 =>
  K (.nilIface) h9) h7) h5) h5) h0) h0)) h0))) h0)
set_option maxRecDepth 100000 in
theorem F82_eq (d_0 : Addr) (e_1 : Int) (do_2 : Value) (K : Value → Heap → Prop) (h0 : Heap) : funWE Tryd.prog 82 (.seq (.leaf) (.seq (.block (.seq (.leaf) (.cond (.seq (.leaf) (.leaf)) (.seq (.leaf) (.cond (.seq (.leaf) (.leaf)) (.seq (.leaf) (.cond (.seq (.leaf) (.seq (.leaf) (.leaf))) (.leaf)))))))) (.seq (.leaf) (.seq (.leaf) (.seq (.leaf) (.seq (.leaf) (.leaf))))))) [.pointer (some d_0), .int .i64 e_1, do_2] K h0 = F82 d_0 e_1 do_2 K h0 := by kernel_rfl

-- function 63
set_option maxRecDepth 100000 in
def F63 (d_0 : Addr) (n_1 : Int) (b_2 : Option Addr) (b_2l b_2c : Nat) (K : Value → Heap → Prop) (h0 : Heap) : Prop := (
  newW (.cells #[.pointer (some d_0)] 47) (fun a1 h2 =>
  newW (.cells #[.int .i64 n_1] 3) (fun a3 h4 =>
  newW (.cells #[.slice b_2 b_2l b_2c] 25) (fun a5 h6 =>
  cutT [.sc (.int .i64)] (fun (K7 : Int → Heap → Prop) h8 =>
  cutT [.sc .bool] (fun (K9 : Bool → Heap → Prop) h15 =>
  ldW .ptr a1 (fun (x10 : Option Addr) =>
  ldW (.int .i64) a3 (fun (x11 : Int) =>
  callT Tryd.prog 80 [.pointer x10, .int .i64 x11] [.sc .bool] (fun (r12 : Bool) h13 =>
  br (!r12)
  (K9 true h13)
  (ldW .slice a5 (fun (x14 : Option Addr × Nat × Nat) =>
  K9 ((((x14.2.1 : Nat) : Int)) != (33 : Int)) h13) h13)) h15) h15) h15) (fun (s16 : Bool) _ h17 =>
  br s16
  (K7 (1 : Int) h17)
  (ldW .ptr a1 (fun (x18 : Option Addr) =>
  ldW (.int .i64) a3 (fun (x19 : Int) =>
  callT Tryd.prog 64 [.pointer x18, .int .i64 x19] [.sc (.int .i64)] (fun (r20 : Int) h21 =>
  br (r20 == (2 : Int))
  (K7 (5 : Int) h21)
  (K7 (0 : Int) h21)) h17) h17) h17)) h8) (fun (s22 : Int) _ h23 =>
  ldW .ptr a1 (fun (x24 : Option Addr) =>
  ldW (.int .i64) a3 (fun (x25 : Int) =>
  callT Tryd.prog 32 [.pointer x24, .int .i64 x25] [.sc (.int .i64)] (fun (r26 : Int) h27 =>
  ldW .ptr a1 (fun (x28 : Option Addr) =>
  callT Tryd.prog 82 [.pointer x28, .int .i64 s22, .func (.func 97) #[] #[.pointer (some a1), .pointer (some a3), .pointer (some a5)]] [.sc .any] (fun (r29 : Value) h30 =>
  ifW r29 (br (!(isNilV r29))
  (K (.tuple #[.int .i64 0, r29]) h30)
  (K (.tuple #[.int .i64 r26, .nilIface]) h30))) h27) h27) h23) h23) h23) h6) h4) h2) h0)
set_option maxRecDepth 100000 in
theorem F63_eq (d_0 : Addr) (n_1 : Int) (b_2 : Option Addr) (b_2l b_2c : Nat) (K : Value → Heap → Prop) (h0 : Heap) : funWE Tryd.prog 63 (.seq (.leaf) (.seq (.leaf) (.seq (.bcut [(8, .sc (.int .i64))] (.cut [(11, .sc .bool)] (.leaf) (.cond (.leaf) (.seq (.leaf) (.cond (.leaf) (.leaf)))))) (.seq (.leaf) (.seq (.seq (.leaf) (.seq (.leaf) (.cond (.seq (.leaf) (.leaf)) (.leaf)))) (.seq (.leaf) (.leaf))))))) [.pointer (some d_0), .int .i64 n_1, .slice b_2 b_2l b_2c] K h0 = F63 d_0 n_1 b_2 b_2l b_2c K h0 := by kernel_rfl

-- function 33
set_option maxRecDepth 100000 in
def F33 (d_0 : Addr) (n_1 : Int) (page_2 : Int) (K : Value → Heap → Prop) (h0 : Heap) : Prop := (
  callT Tryd.prog 79 [.pointer (some d_0), .int .i64 n_1] [.sc .ptr] (fun (r1 : (Option Addr)) h2 =>
  cutT [] (fun (K3 : Unit → Heap → Prop) h4 =>
  ldW .bool (Addr.add d_0 4) (fun (x5 : Bool) =>
  br x5
  (K (.tuple #[.slice none 0 0, .iface 31 (.int .i64 7)]) h4)
  (cutT [.sc .bool] (fun (K6 : Bool → Heap → Prop) h10 =>
  callT Tryd.prog 80 [.pointer (some d_0), .int .i64 n_1] [.sc .bool] (fun (r7 : Bool) h8 =>
  br (!r7)
  (K6 true h8)
  (br (decide (page_2 < (0 : Int)))
  (K6 true h8)
  (ldW (.int .i64) (Addr.add d_0 1) (fun (x9 : Int) =>
  K6 (decide (page_2 ≥ x9)) h8) h8))) h10) (fun (s11 : Bool) _ h12 =>
  br s11
  (K (.tuple #[.slice none 0 0, .iface 31 (.int .i64 1)]) h12)
  (ptrW r1 (fun a13 =>
  ldW .slice (Addr.add a13 2) (fun (x14 : Option Addr × Nat × Nat) =>
  br (decide (page_2 ≥ (((x14.2.1 : Nat) : Int))))
  (K (.tuple #[.slice none 0 0, .iface 31 (.int .i64 8)]) h12)
  (ptrW r1 (fun a15 =>
  ldW .slice (Addr.add a15 2) (fun (x16 : Option Addr × Nat × Nat) =>
  ptrW x16.1 (fun a17 =>
  idxW page_2 x16.2.1 true (ldW .slice (Addr.add a17 (Int.toNat page_2 * 1)) (fun (x18 : Option Addr × Nat × Nat) =>
  br ((((x18.2.1 : Nat) : Int)) == (0 : Int))
  (K (.tuple #[.slice none 0 0, .iface 31 (.int .i64 6)]) h12)
  (K3 () h12)) h12))) h12))) h12))) h4)) h4) (fun (_s19 : Unit) _ h20 =>
  ptrW r1 (fun a21 =>
  ldW .slice (Addr.add a21 2) (fun (x22 : Option Addr × Nat × Nat) =>
  ptrW x22.1 (fun a23 =>
  idxW page_2 x22.2.1 true (ldW .slice (Addr.add a23 (Int.toNat page_2 * 1)) (fun (x24 : Option Addr × Nat × Nat) =>
  callT Tryd.prog 60 [.slice x24.1 x24.2.1 x24.2.2] [.sc .slice] (fun (r25 : (Option Addr × Nat × Nat)) h26 =>
  K (.tuple #[.slice r25.1 r25.2.1 r25.2.2, .nilIface]) h26) h20) h20))) h20)) h2) h0)
set_option maxRecDepth 100000 in
theorem F33_eq (d_0 : Addr) (n_1 : Int) (page_2 : Int) (K : Value → Heap → Prop) (h0 : Heap) : funWE Tryd.prog 33 (.seq (.leaf) (.seq (.leaf) (.seq (.bcut [] (.seq (.leaf) (.cond (.seq (.leaf) (.leaf)) (.cut [(18, .sc .bool)] (.leaf) (.cond (.seq (.leaf) (.leaf)) (.seq (.leaf) (.cond (.seq (.leaf) (.leaf)) (.seq (.leaf) (.cond (.seq (.leaf) (.leaf)) (.leaf)))))))))) (.seq (.leaf) (.leaf))))) [.pointer (some d_0), .int .i64 n_1, .int .i64 page_2] K h0 = F33 d_0 n_1 page_2 K h0 := by kernel_rfl

-- function 67
set_option maxRecDepth 100000 in
def F67 (d_0 : Addr) (n_1 : Int) (K : Value → Heap → Prop) (h0 : Heap) : Prop := (
  newW (.cells #[.pointer (some d_0)] 47) (fun a1 h2 =>
  newW (.cells #[.int .i64 n_1] 3) (fun a3 h4 =>
  ldW .ptr a1 (fun (x5 : Option Addr) =>
  ldW (.int .i64) a3 (fun (x6 : Int) =>
  callT Tryd.prog 80 [.pointer x5, .int .i64 x6] [.sc .bool] (fun (r7 : Bool) h8 =>
  br (!r7)
  (ldW .ptr a1 (fun (x9 : Option Addr) =>
  callT Tryd.prog 82 [.pointer x9, .int .i64 1, .func (.func 98) #[] #[.pointer (some a1), .pointer (some a3)]] [.sc .any] (fun (r10 : Value) h11 =>
  K (r10) h11) h8) h8)
  (ldW .ptr a1 (fun (x12 : Option Addr) =>
  callT Tryd.prog 82 [.pointer x12, .int .i64 0, .func (.func 98) #[] #[.pointer (some a1), .pointer (some a3)]] [.sc .any] (fun (r13 : Value) h14 =>
  K (r13) h14) h8) h8)) h4) h4) h4) h2) h0)
set_option maxRecDepth 100000 in
theorem F67_eq (d_0 : Addr) (n_1 : Int) (K : Value → Heap → Prop) (h0 : Heap) : funWE Tryd.prog 67 (.seq (.leaf) (.seq (.leaf) (.seq (.seq (.leaf) (.cond (.leaf) (.leaf))) (.seq (.leaf) (.leaf))))) [.pointer (some d_0), .int .i64 n_1] K h0 = F67 d_0 n_1 K h0 := by kernel_rfl

-- function 68
set_option maxRecDepth 100000 in
def F68 (d_0 : Addr) (n_1 : Int) (K : Value → Heap → Prop) (h0 : Heap) : Prop := (
  newW (.cells #[.pointer (some d_0)] 47) (fun a1 h2 =>
  newW (.cells #[.int .i64 n_1] 3) (fun a3 h4 =>
  ldW .ptr a1 (fun (x5 : Option Addr) =>
  ldW (.int .i64) a3 (fun (x6 : Int) =>
  callT Tryd.prog 80 [.pointer x5, .int .i64 x6] [.sc .bool] (fun (r7 : Bool) h8 =>
  br (!r7)
  (ldW .ptr a1 (fun (x9 : Option Addr) =>
  callT Tryd.prog 82 [.pointer x9, .int .i64 1, .func (.func 99) #[] #[.pointer (some a1), .pointer (some a3)]] [.sc .any] (fun (r10 : Value) h11 =>
  K (r10) h11) h8) h8)
  (ldW .ptr a1 (fun (x12 : Option Addr) =>
  ldW (.int .i64) a3 (fun (x13 : Int) =>
  callT Tryd.prog 64 [.pointer x12, .int .i64 x13] [.sc (.int .i64)] (fun (r14 : Int) h15 =>
  br (r14 == (0 : Int))
  (ldW .ptr a1 (fun (x16 : Option Addr) =>
  callT Tryd.prog 82 [.pointer x16, .int .i64 11, .func (.func 99) #[] #[.pointer (some a1), .pointer (some a3)]] [.sc .any] (fun (r17 : Value) h18 =>
  K (r17) h18) h15) h15)
  (ldW .ptr a1 (fun (x19 : Option Addr) =>
  callT Tryd.prog 82 [.pointer x19, .int .i64 0, .func (.func 99) #[] #[.pointer (some a1), .pointer (some a3)]] [.sc .any] (fun (r20 : Value) h21 =>
  K (r20) h21) h15) h15)) h8) h8) h8)) h4) h4) h4) h2) h0)
set_option maxRecDepth 100000 in
theorem F68_eq (d_0 : Addr) (n_1 : Int) (K : Value → Heap → Prop) (h0 : Heap) : funWE Tryd.prog 68 (.seq (.leaf) (.seq (.leaf) (.seq (.block (.seq (.leaf) (.cond (.leaf) (.seq (.leaf) (.cond (.leaf) (.leaf)))))) (.seq (.leaf) (.leaf))))) [.pointer (some d_0), .int .i64 n_1] K h0 = F68 d_0 n_1 K h0 := by kernel_rfl

-- function 38
set_option maxRecDepth 100000 in
def F38 (d_0 : Addr) (K : Value → Heap → Prop) (h0 : Heap) : Prop := (
  callT Tryd.prog 82 [.pointer (some d_0), .int .i64 0, .func (.func 81) #[.pointer (some d_0)] #[]] [.sc .any] (fun (r1 : Value) h2 =>
  K (r1) h2) h0)
set_option maxRecDepth 100000 in
theorem F38_eq (d_0 : Addr) (K : Value → Heap → Prop) (h0 : Heap) : funWE Tryd.prog 38 (.seq (.leaf) (.seq (.leaf) (.leaf))) [.pointer (some d_0)] K h0 = F38 d_0 K h0 := by kernel_rfl

-- function 81
set_option maxRecDepth 100000 in
def F81 (d_0 : Addr) (K : Value → Heap → Prop) (h0 : Heap) : Prop := (
  ldW .slice (Addr.add d_0 0) (fun (x1 : Option Addr × Nat × Nat) =>
  loopT [.sc (.int .i64)] (fun (s3 : Int) _ (K2 : Int → Heap → Prop) h4 =>
  br (decide (s3 < (((x1.2.1 : Nat) : Int))))
  (ldW .slice (Addr.add d_0 0) (fun (x5 : Option Addr × Nat × Nat) =>
  ldW .slice (Addr.add d_0 0) (fun (x6 : Option Addr × Nat × Nat) =>
  ptrW x6.1 (fun a7 =>
  idxW s3 x6.2.1 true (ldW .slice (Addr.add (Addr.add a7 (Int.toNat s3 * 3)) 2) (fun (x8 : Option Addr × Nat × Nat) =>
  ptrW x5.1 (fun a9 =>
  idxW s3 x5.2.1 true (stW (Addr.add (Addr.add (Addr.add a9 (Int.toNat s3 * 3)) 0) 0) (.int .i64 (((x8.2.1 : Nat) : Int))) (fun h10 =>
  K2 (IntKind.wrap .i64 (s3 + (1 : Int))) h10) h4))) h4))) h4) h4)
  (K (.tuple #[]) h4)) (0 : Int) h0) h0)
set_option maxRecDepth 100000 in
theorem F81_eq (d_0 : Addr) (K : Value → Heap → Prop) (h0 : Heap) : funWE Tryd.prog 81 (.seq (.leaf) (.block (.loop [(8, .sc (.int .i64))] (.seq (.leaf) (.seq (.cond (.leaf) (.leaf)) (.seq (.block (.seq (.leaf) (.draw (odp [0, 1, 2, 3, 4, 5, 6, 7, 8, 9, 10, 11, 12, 13, 14, 15, 16, 17] .nil) []))) (.leaf))))))) [.pointer (some d_0)] K h0 = F81 d_0 K h0 := by kernel_rfl

-- function 35
set_option maxRecDepth 100000 in
def F35 (d_0 : Addr) (n_1 : Int) (K : Value → Heap → Prop) (h0 : Heap) : Prop := (
  stW (Addr.add d_0 2) (.int .i64 (mm2 true n_1 (-1 : Int))) (fun h1 =>
  K (.tuple #[]) h1) h0)
set_option maxRecDepth 100000 in
theorem F35_eq (d_0 : Addr) (n_1 : Int) (K : Value → Heap → Prop) (h0 : Heap) : funWE Tryd.prog 35 (.leaf) [.pointer (some d_0), .int .i64 n_1] K h0 = F35 d_0 n_1 K h0 := by kernel_rfl

-- function 34
set_option maxRecDepth 100000 in
def F34 (d_0 : Addr) (K : Value → Heap → Prop) (h0 : Heap) : Prop := (
  ldW .bool (Addr.add d_0 4) (fun (x1 : Bool) =>
  K (.bool x1) h0) h0)
set_option maxRecDepth 100000 in
theorem F34_eq (d_0 : Addr) (K : Value → Heap → Prop) (h0 : Heap) : funWE Tryd.prog 34 (.seq (.leaf) (.seq (.leaf) (.leaf))) [.pointer (some d_0)] K h0 = F34 d_0 K h0 := by kernel_rfl

-- function 36
set_option maxRecDepth 100000 in
def F36 (d_0 : Addr) (K : Value → Heap → Prop) (h0 : Heap) : Prop := (
  ldW (.int .i64) (Addr.add d_0 3) (fun (x1 : Int) =>
  K (.int .i64 x1) h0) h0)
set_option maxRecDepth 100000 in
theorem F36_eq (d_0 : Addr) (K : Value → Heap → Prop) (h0 : Heap) : funWE Tryd.prog 36 (.seq (.leaf) (.seq (.leaf) (.leaf))) [.pointer (some d_0)] K h0 = F36 d_0 K h0 := by kernel_rfl

-- function 37
set_option maxRecDepth 100000 in
def F37 (d_0 : Addr) (keep_1 : Option Addr) (keep_1l _keep_1c : Nat) (tear_2 : Option Addr) (tear_2l _tear_2c : Nat) (K : Value → Heap → Prop) (h0 : Heap) : Prop := (
  ldW .slice (Addr.add d_0 0) (fun (x1 : Option Addr × Nat × Nat) =>
  loopT [.sc (.int .i64)] (fun (s3 : Int) _ (K2 : Int → Heap → Prop) h4 =>
  br (decide (s3 < (((x1.2.1 : Nat) : Int))))
  (ldW .slice (Addr.add d_0 0) (fun (x5 : Option Addr × Nat × Nat) =>
  ptrW x5.1 (fun a6 =>
  idxW s3 x5.2.1 true (ldW (.int .i64) (Addr.add (Addr.add (Addr.add a6 (Int.toNat s3 * 3)) 0) 0) (fun (x7 : Int) =>
  cutT [.sc (.int .i64)] (fun (K8 : Int → Heap → Prop) h13 =>
  br (decide (s3 < (((keep_1l : Nat) : Int))))
  (ptrW keep_1 (fun a9 =>
  idxW s3 keep_1l true (ldW (.int .i64) (Addr.add a9 (Int.toNat s3 * 1)) (fun (x10 : Int) =>
  ldW .slice (Addr.add (Addr.add a6 (Int.toNat s3 * 3)) 2) (fun (x11 : Option Addr × Nat × Nat) =>
  ldW (.int .i64) (Addr.add (Addr.add (Addr.add a6 (Int.toNat s3 * 3)) 0) 0) (fun (x12 : Int) =>
  K8 (IntKind.wrap .i64 (x7 + (mm2 false (mm2 true x10 (0 : Int)) (IntKind.wrap .i64 ((((x11.2.1 : Nat) : Int)) - x12))))) h13) h13) h13) h13)))
  (K8 x7 h13)) (fun (s14 : Int) _ h15 =>
  cutT [.sc .bool] (fun (K16 : Bool → Heap → Prop) h20 =>
  br (decide (s3 < (((tear_2l : Nat) : Int))))
  (ptrW tear_2 (fun a17 =>
  idxW s3 tear_2l true (ldW .bool (Addr.add a17 (Int.toNat s3 * 1)) (fun (x18 : Bool) =>
  br x18
  (ldW .slice (Addr.add (Addr.add a6 (Int.toNat s3 * 3)) 2) (fun (x19 : Option Addr × Nat × Nat) =>
  K16 (decide (s14 < (((x19.2.1 : Nat) : Int)))) h20) h20)
  (K16 false h20)) h20)))
  (K16 false h20)) (fun (s21 : Bool) _ h22 =>
  ldW .slice (Addr.add (Addr.add a6 (Int.toNat s3 * 3)) 2) (fun (x23 : Option Addr × Nat × Nat) =>
  slW x23.1 x23.2.2 1 (0 : Int) s14 s14 (fun b24 n25 c26 =>
  stW (Addr.add (Addr.add a6 (Int.toNat s3 * 3)) 2) (.slice b24 n25 c26) (fun h27 =>
  br s21
  (ldW .slice (Addr.add (Addr.add a6 (Int.toNat s3 * 3)) 2) (fun (x28 : Option Addr × Nat × Nat) =>
  newW (.cells #[.slice none 0 0] 25) (fun a29 h30 =>
  apW Tryd.prog #[78, 78] #[.slice x28.1 x28.2.1 x28.2.2, .slice (some a29) 1 1] (fun b31 n32 c33 h34 =>
  stW (Addr.add (Addr.add a6 (Int.toNat s3 * 3)) 2) (.slice b31 n32 c33) (fun h35 =>
  K2 (IntKind.wrap .i64 (s3 + (1 : Int))) h35) h34) h30) h27) h27)
  (K2 (IntKind.wrap .i64 (s3 + (1 : Int))) h27)) h22)) h22) h15) h4) h4))) h4)
  (callT Tryd.prog 81 [.pointer (some d_0)] [] (fun (_r36 : Unit) h37 =>
  stW (Addr.add d_0 4) (.bool false) (fun h38 =>
  stW (Addr.add d_0 2) (.int .i64 (-1)) (fun h39 =>
  K (.tuple #[]) h39) h38) h37) h4)) (0 : Int) h0) h0)
set_option maxRecDepth 100000 in
theorem F37_eq (d_0 : Addr) (keep_1 : Option Addr) (keep_1l keep_1c : Nat) (tear_2 : Option Addr) (tear_2l tear_2c : Nat) (K : Value → Heap → Prop) (h0 : Heap) : funWE Tryd.prog 37 (.seq (.seq (.leaf) (.block (.loop [(15, .sc (.int .i64))] (.seq (.leaf) (.seq (.cond (.leaf) (.leaf)) (.seq (.block (.seq (.leaf) (.seq (.leaf) (.seq (.leaf) (.cut [(8, .sc (.int .i64))] (.seq (.leaf) (.cond (.draw (odp [0, 1, 2, 3, 4, 5, 6, 7, 8, 9, 10, 11, 12, 13, 14, 15, 16, 17, 18, 19] .nil) []) (.leaf))) (.cut [(9, .sc .bool)] (.leaf) (.seq (.leaf) (.seq (.leaf) (.cond (.leaf) (.leaf)))))))))) (.leaf))))))) (.seq (.leaf) (.leaf))) [.pointer (some d_0), .slice keep_1 keep_1l keep_1c, .slice tear_2 tear_2l tear_2c] K h0 = F37 d_0 keep_1 keep_1l keep_1c tear_2 tear_2l tear_2c K h0 := by kernel_rfl

-- function 97
set_option maxRecDepth 100000 in
def F97 (cap_0 : Addr) (cap_1 : Addr) (cap_2 : Addr) (K : Value → Heap → Prop) (h0 : Heap) : Prop := (
  ldW .ptr cap_0 (fun (x1 : Option Addr) =>
  ptrW x1 (fun a2 =>
  ldW .slice (Addr.add a2 0) (fun (x3 : Option Addr × Nat × Nat) =>
  ldW (.int .i64) cap_1 (fun (x4 : Int) =>
  ldW .ptr cap_0 (fun (x5 : Option Addr) =>
  ptrW x5 (fun a6 =>
  ldW .slice (Addr.add a6 0) (fun (x7 : Option Addr × Nat × Nat) =>
  ldW (.int .i64) cap_1 (fun (x8 : Int) =>
  ptrW x7.1 (fun a9 =>
  idxW x8 x7.2.1 true (ldW .slice (Addr.add (Addr.add a9 (Int.toNat x8 * 3)) 2) (fun (x10 : Option Addr × Nat × Nat) =>
  ldW .slice cap_2 (fun (x11 : Option Addr × Nat × Nat) =>
  callT Tryd.prog 60 [.slice x11.1 x11.2.1 x11.2.2] [.sc .slice] (fun (r12 : (Option Addr × Nat × Nat)) h13 =>
  (newW (.cells #[.slice r12.1 r12.2.1 r12.2.2] 25) (fun a14 h15 =>
  apW Tryd.prog #[78, 78] #[.slice x10.1 x10.2.1 x10.2.2, .slice (some a14) 1 1] (fun b16 n17 c18 h19 =>
  (cellH h19 cap_1 = some (.int .i64 x4) ∧ (cellH h19 (Addr.add a2 0) = some (.slice x3.1 x3.2.1 x3.2.2) ∧ (cellH h19 cap_0 = some (.pointer x1) ∧ ptrW x3.1 (fun a20 =>
  idxW x4 x3.2.1 true (stW (Addr.add (Addr.add a20 (Int.toNat x4 * 3)) 2) (.slice b16 n17 c18) (fun h21 =>
  K (.tuple #[]) h21) h19)))))) h15) h13 ∧ Ext h0 h13)) h0) h0) h0))) h0) h0)) h0) h0) h0)) h0)
set_option maxRecDepth 100000 in
theorem F97_eq (cap_0 : Addr) (cap_1 : Addr) (cap_2 : Addr) (K : Value → Heap → Prop) (h0 : Heap) : funWE Tryd.prog 97 (.draw (odp [0, 1, 2, 3, 4, 5, 6, 7, 8, 9, 10, 11, 12, 13, 14, 15, 16, 17, 18, 19] .nil) [100014, 200000, 200003, 200004]) [.pointer (some cap_0), .pointer (some cap_1), .pointer (some cap_2)] K h0 = F97 cap_0 cap_1 cap_2 K h0 := by kernel_rfl

-- function 98
set_option maxRecDepth 100000 in
def F98 (cap_0 : Addr) (cap_1 : Addr) (K : Value → Heap → Prop) (h0 : Heap) : Prop := (
  ldW .ptr cap_0 (fun (x1 : Option Addr) =>
  ptrW x1 (fun a2 =>
  ldW .slice (Addr.add a2 0) (fun (x3 : Option Addr × Nat × Nat) =>
  ldW (.int .i64) cap_1 (fun (x4 : Int) =>
  ptrW x3.1 (fun a5 =>
  idxW x4 x3.2.1 true (stLW (Addr.add a5 (Int.toNat x4 * 3)) [.int .i64 0, .bool false, .slice none 0 0] (fun h6 =>
  K (.tuple #[]) h6) h0))) h0) h0)) h0)
set_option maxRecDepth 100000 in
theorem F98_eq (cap_0 : Addr) (cap_1 : Addr) (K : Value → Heap → Prop) (h0 : Heap) : funWE Tryd.prog 98 (.draw (odp [0, 1, 2, 3, 4, 5, 6, 7] .nil) []) [.pointer (some cap_0), .pointer (some cap_1)] K h0 = F98 cap_0 cap_1 K h0 := by kernel_rfl

-- function 99
set_option maxRecDepth 100000 in
def F99 (cap_0 : Addr) (cap_1 : Addr) (K : Value → Heap → Prop) (h0 : Heap) : Prop := (
  ldW .ptr cap_0 (fun (x1 : Option Addr) =>
  ptrW x1 (fun a2 =>
  ldW .slice (Addr.add a2 0) (fun (x3 : Option Addr × Nat × Nat) =>
  ldW (.int .i64) cap_1 (fun (x4 : Int) =>
  ptrW x3.1 (fun a5 =>
  idxW x4 x3.2.1 true (stW (Addr.add (Addr.add (Addr.add a5 (Int.toNat x4 * 3)) 0) 1) (.bool true) (fun h6 =>
  K (.tuple #[]) h6) h0))) h0) h0)) h0)
set_option maxRecDepth 100000 in
theorem F99_eq (cap_0 : Addr) (cap_1 : Addr) (K : Value → Heap → Prop) (h0 : Heap) : funWE Tryd.prog 99 (.draw (odp [0, 1, 2, 3, 4, 5, 6, 7, 8] .nil) []) [.pointer (some cap_0), .pointer (some cap_1)] K h0 = F99 cap_0 cap_1 K h0 := by kernel_rfl

end Go.Proofs.YtgohecjnjadnpaaDoor.W
