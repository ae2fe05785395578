/-
  The formulas of reference 08. Each formula checked by the kernel. Printed by a program of this repo.
-/
import Derived.Test.YtfanjfbenhocnaaGreatDoorProg
import Derived.Test.YtfanjfbenhocnaaGreatDoorPl
namespace Go.Proofs.YtfanjfbenhocnaaGreatDoor.W
open Go.Pl

-- function 28
set_option maxRecDepth 100000 in
def F28 (slots_0 : Int) (K : Value → Heap → Prop) (h0 : Heap) : Prop := (
  cutT [.sc .bool] (fun (K1 : Bool → Heap → Prop) h2 =>
  br (decide (slots_0 < (1 : Int)))
  (K1 true h2)
  (K1 (decide (slots_0 > (64 : Int))) h2)) (fun (s3 : Bool) _ h4 =>
  br s3
  (K (.tuple #[.pointer none, .int .i64 1]) h4)
  (newW (.cells #[.slice none 0 0, .slice none 0 0, .int .i64 slots_0] 103) (fun a5 h6 =>
  K (.tuple #[.pointer (some a5), .int .i64 0]) h6) h4)) h0)
set_option maxRecDepth 100000 in
theorem F28_eq (slots_0 : Int) (K : Value → Heap → Prop) (h0 : Heap) : funWE Tryz.prog 28 (.seq (.leaf) (.seq (.cut [(9, .sc .bool)] (.leaf) (.cond (.seq (.leaf) (.leaf)) (.leaf))) (.seq (.leaf) (.leaf)))) [.int .i64 slots_0] K h0 = F28 slots_0 K h0 := by kernel_rfl

-- function 41
set_option maxRecDepth 100000 in
def F41 (k_0 : Addr) (K : Value → Heap → Prop) (h0 : Heap) : Prop := (
  ldW .slice (Addr.add k_0 0) (fun (x1 : Option Addr × Nat × Nat) =>
  br (decide ((((x1.2.1 : Nat) : Int)) > (0 : Int)))
  (ldW .slice (Addr.add k_0 0) (fun (x2 : Option Addr × Nat × Nat) =>
  ldW .slice (Addr.add k_0 0) (fun (x3 : Option Addr × Nat × Nat) =>
  ptrW x2.1 (fun a4 =>
  idxW (IntKind.wrap .i64 ((((x3.2.1 : Nat) : Int)) - (1 : Int))) x2.2.1 true (ldW (.int .i64) (Addr.add a4 (Int.toNat (IntKind.wrap .i64 ((((x3.2.1 : Nat) : Int)) - (1 : Int))) * 1)) (fun (x5 : Int) =>
  K (.tuple #[.int .i64 x5, .bool true]) h0) h0))) h0) h0)
  (ldW .slice (Addr.add k_0 1) (fun (x6 : Option Addr × Nat × Nat) =>
  br (decide ((((x6.2.1 : Nat) : Int)) > (0 : Int)))
  (ldW .slice (Addr.add k_0 1) (fun (x7 : Option Addr × Nat × Nat) =>
  ldW .slice (Addr.add k_0 1) (fun (x8 : Option Addr × Nat × Nat) =>
  ptrW x7.1 (fun a9 =>
  idxW (IntKind.wrap .i64 ((((x8.2.1 : Nat) : Int)) - (1 : Int))) x7.2.1 true (ldW (.int .i64) (Addr.add a9 (Int.toNat (IntKind.wrap .i64 ((((x8.2.1 : Nat) : Int)) - (1 : Int))) * 1)) (fun (x10 : Int) =>
  K (.tuple #[.int .i64 x10, .bool true]) h0) h0))) h0) h0)
  (K (.tuple #[.int .i64 0, .bool false]) h0)) h0)) h0)
set_option maxRecDepth 100000 in
theorem F41_eq (k_0 : Addr) (K : Value → Heap → Prop) (h0 : Heap) : funWE Tryz.prog 41 (.seq (.leaf) (.seq (.seq (.leaf) (.cond (.seq (.draw (odp [0, 1, 2, 3, 4, 5, 6, 7, 8, 9, 10, 11, 12, 13] .nil) []) (.leaf)) (.leaf))) (.seq (.seq (.leaf) (.cond (.seq (.draw (odp [0, 1, 2, 3, 4, 5, 6, 7, 8, 9, 10, 11, 12, 13] .nil) []) (.leaf)) (.leaf))) (.seq (.leaf) (.leaf))))) [.pointer (some k_0)] K h0 = F41 k_0 K h0 := by kernel_rfl

-- function 55
set_option maxRecDepth 100000 in
def F55 (k_0 : Addr) (slot_1 : Int) (K : Value → Heap → Prop) (h0 : Heap) : Prop := (
  cutT [] (fun (K1 : Unit → Heap → Prop) h5 =>
  br (decide (slot_1 < (0 : Int)))
  (K (.bool false) h5)
  (ldW (.int .i64) (Addr.add k_0 2) (fun (x2 : Int) =>
  br (decide (slot_1 ≥ x2))
  (K (.bool false) h5)
  (callT Tryz.prog 54 [.pointer (some k_0), .int .i64 slot_1] [.sc .bool] (fun (r3 : Bool) h4 =>
  br r3
  (K (.bool false) h4)
  (K1 () h4)) h5)) h5)) (fun (_s6 : Unit) _ h7 =>
  newW (.cells #[.int .i64 slot_1] 3) (fun a8 h9 =>
  ldW .slice (Addr.add k_0 0) (fun (x10 : Option Addr × Nat × Nat) =>
  apW Tryz.prog #[45, 45] #[.slice (some a8) 1 1, .slice x10.1 x10.2.1 x10.2.2] (fun b11 n12 c13 h14 =>
  stW (Addr.add k_0 0) (.slice b11 n12 c13) (fun h15 =>
  K (.bool true) h15) h14) h9) h9) h7) h0)
set_option maxRecDepth 100000 in
theorem F55_eq (k_0 : Addr) (slot_1 : Int) (K : Value → Heap → Prop) (h0 : Heap) : funWE Tryz.prog 55 (.seq (.leaf) (.cut [] (.seq (.leaf) (.cond (.seq (.leaf) (.leaf)) (.leaf))) (.seq (.leaf) (.seq (.leaf) (.leaf))))) [.pointer (some k_0), .int .i64 slot_1] K h0 = F55 k_0 slot_1 K h0 := by kernel_rfl

-- function 53
set_option maxRecDepth 100000 in
def F53 (k_0 : Addr) (slot_1 : Int) (K : Value → Heap → Prop) (h0 : Heap) : Prop := (
  callT Tryz.prog 56 [.pointer (some k_0), .int .i64 slot_1] [.sc .bool] (fun (r1 : Bool) h2 =>
  br (!r1)
  (K (.bool false) h2)
  (newW (.cells #[.int .i64 slot_1] 3) (fun a3 h4 =>
  ldW .slice (Addr.add k_0 1) (fun (x5 : Option Addr × Nat × Nat) =>
  apW Tryz.prog #[45, 45] #[.slice (some a3) 1 1, .slice x5.1 x5.2.1 x5.2.2] (fun b6 n7 c8 h9 =>
  stW (Addr.add k_0 1) (.slice b6 n7 c8) (fun h10 =>
  ldW .slice (Addr.add k_0 1) (fun (x11 : Option Addr × Nat × Nat) =>
  ldW .slice (Addr.add k_0 1) (fun (x12 : Option Addr × Nat × Nat) =>
  ldW (.int .i64) (Addr.add k_0 2) (fun (x13 : Int) =>
  br (decide ((((x12.2.1 : Nat) : Int)) > (IntKind.wrap .i64 (Int.tdiv x13 (2 : Int)))))
  (ldW .slice (Addr.add k_0 1) (fun (x14 : Option Addr × Nat × Nat) =>
  ptrW x14.1 (fun a15 =>
  idxW (IntKind.wrap .i64 ((((x11.2.1 : Nat) : Int)) - (1 : Int))) x14.2.1 true (ldW (.int .i64) (Addr.add a15 (Int.toNat (IntKind.wrap .i64 ((((x11.2.1 : Nat) : Int)) - (1 : Int))) * 1)) (fun (x16 : Int) =>
  ldW .slice (Addr.add k_0 0) (fun (x17 : Option Addr × Nat × Nat) =>
  newW (.cells #[.int .i64 x16] 3) (fun a18 h19 =>
  apW Tryz.prog #[45, 45] #[.slice (some a18) 1 1, .slice x17.1 x17.2.1 x17.2.2] (fun b20 n21 c22 h23 =>
  stW (Addr.add k_0 0) (.slice b20 n21 c22) (fun h24 =>
  newW (.cells #[] 3) (fun a25 h26 =>
  ldW .slice (Addr.add k_0 1) (fun (x27 : Option Addr × Nat × Nat) =>
  slW x27.1 x27.2.2 1 (0 : Int) (IntKind.wrap .i64 ((((x11.2.1 : Nat) : Int)) - (1 : Int))) (((x27.2.2 : Nat) : Int)) (fun b28 n29 c30 =>
  apW Tryz.prog #[45, 45] #[.slice (some a25) 0 0, .slice b28 n29 c30] (fun b31 n32 c33 h34 =>
  stW (Addr.add k_0 1) (.slice b31 n32 c33) (fun h35 =>
  K (.bool true) h35) h34) h26)) h26) h24) h23) h19) h10) h10) h10))) h10)
  (K (.bool true) h10)) h10) h10) h10) h9) h4) h4) h2)) h0)
set_option maxRecDepth 100000 in
theorem F53_eq (k_0 : Addr) (slot_1 : Int) (K : Value → Heap → Prop) (h0 : Heap) : funWE Tryz.prog 53 (.seq (.leaf) (.seq (.seq (.leaf) (.cond (.seq (.leaf) (.leaf)) (.leaf))) (.seq (.leaf) (.seq (.leaf) (.seq (.seq (.draw (odp [0, 1, 2, 3, 4, 5, 6, 7, 8, 9, 10] .nil) []) (.cond (.seq (.draw (odp [0, 1, 2, 3, 4, 5, 6, 7, 9, 10, 11, 12, 8, 13, 14, 15, 16] .nil) []) (.leaf)) (.leaf))) (.seq (.leaf) (.leaf))))))) [.pointer (some k_0), .int .i64 slot_1] K h0 = F53 k_0 slot_1 K h0 := by kernel_rfl

-- function 56
set_option maxRecDepth 100000 in
def F56 (k_0 : Addr) (slot_1 : Int) (K : Value → Heap → Prop) (h0 : Heap) : Prop := (
  callT Tryz.prog 54 [.pointer (some k_0), .int .i64 slot_1] [.sc .bool] (fun (r1 : Bool) h2 =>
  br (!r1)
  (K (.bool false) h2)
  (ldW .slice (Addr.add k_0 0) (fun (x3 : Option Addr × Nat × Nat) =>
  callT Tryz.prog 70 [.slice x3.1 x3.2.1 x3.2.2, .int .i64 slot_1] [.sc .slice] (fun (r4 : (Option Addr × Nat × Nat)) h5 =>
  stW (Addr.add k_0 0) (.slice r4.1 r4.2.1 r4.2.2) (fun h6 =>
  ldW .slice (Addr.add k_0 1) (fun (x7 : Option Addr × Nat × Nat) =>
  callT Tryz.prog 70 [.slice x7.1 x7.2.1 x7.2.2, .int .i64 slot_1] [.sc .slice] (fun (r8 : (Option Addr × Nat × Nat)) h9 =>
  stW (Addr.add k_0 1) (.slice r8.1 r8.2.1 r8.2.2) (fun h10 =>
  K (.bool true) h10) h9) h6) h6) h5) h2) h2)) h0)
set_option maxRecDepth 100000 in
theorem F56_eq (k_0 : Addr) (slot_1 : Int) (K : Value → Heap → Prop) (h0 : Heap) : funWE Tryz.prog 56 (.seq (.leaf) (.seq (.seq (.leaf) (.cond (.seq (.leaf) (.leaf)) (.leaf))) (.seq (.leaf) (.seq (.leaf) (.seq (.leaf) (.leaf)))))) [.pointer (some k_0), .int .i64 slot_1] K h0 = F56 k_0 slot_1 K h0 := by kernel_rfl

-- function 54
set_option maxRecDepth 100000 in
def F54 (k_0 : Addr) (slot_1 : Int) (K : Value → Heap → Prop) (h0 : Heap) : Prop := (
  ldW .slice (Addr.add k_0 0) (fun (x1 : Option Addr × Nat × Nat) =>
  callT Tryz.prog 69 [.slice x1.1 x1.2.1 x1.2.2, .int .i64 slot_1] [.sc .bool] (fun (r2 : Bool) h3 =>
  br r2
  (K (.bool true) h3)
  (ldW .slice (Addr.add k_0 1) (fun (x4 : Option Addr × Nat × Nat) =>
  callT Tryz.prog 69 [.slice x4.1 x4.2.1 x4.2.2, .int .i64 slot_1] [.sc .bool] (fun (r5 : Bool) h6 =>
  K (.bool r5) h6) h3) h3)) h0) h0)
set_option maxRecDepth 100000 in
theorem F54_eq (k_0 : Addr) (slot_1 : Int) (K : Value → Heap → Prop) (h0 : Heap) : funWE Tryz.prog 54 (.seq (.leaf) (.seq (.leaf) (.leaf))) [.pointer (some k_0), .int .i64 slot_1] K h0 = F54 k_0 slot_1 K h0 := by kernel_rfl

-- function 70
set_option maxRecDepth 100000 in
def F70 (l_0 : Option Addr) (l_0l _l_0c : Nat) (n_1 : Int) (K : Value → Heap → Prop) (h0 : Heap) : Prop := (
  newW (.cells #[] 3) (fun a1 h2 =>
  loopT [.sc .slice, .sc (.int .i64)] (fun (s4 : (Option Addr × Nat × Nat) × Int) _ (K3 : ((Option Addr × Nat × Nat) × Int) → Heap → Prop) h5 =>
  br (decide (s4.2 < (((l_0l : Nat) : Int))))
  (ptrW l_0 (fun a6 =>
  idxW s4.2 l_0l true (ldW (.int .i64) (Addr.add a6 (Int.toNat s4.2 * 1)) (fun (x7 : Int) =>
  br (x7 != n_1)
  (ptrW l_0 (fun a8 =>
  idxW s4.2 l_0l true (ldW (.int .i64) (Addr.add a8 (Int.toNat s4.2 * 1)) (fun (x9 : Int) =>
  newW (.cells #[.int .i64 x9] 3) (fun a10 h11 =>
  apW Tryz.prog #[45, 45] #[.slice s4.1.1 s4.1.2.1 s4.1.2.2, .slice (some a10) 1 1] (fun b12 n13 c14 h15 =>
  K3 ((b12, n13, c14), (IntKind.wrap .i64 (s4.2 + (1 : Int)))) h15) h11) h5) h5)))
  (K3 ((s4.1.1, s4.1.2.1, s4.1.2.2), (IntKind.wrap .i64 (s4.2 + (1 : Int)))) h5)) h5)))
  (K (.slice s4.1.1 s4.1.2.1 s4.1.2.2) h5)) (((some a1), 0, 0), (0 : Int)) h2) h0)
set_option maxRecDepth 100000 in
theorem F70_eq (l_0 : Option Addr) (l_0l l_0c : Nat) (n_1 : Int) (K : Value → Heap → Prop) (h0 : Heap) : funWE Tryz.prog 70 (.seq (.leaf) (.seq (.leaf) (.seq (.seq (.leaf) (.block (.loop [(5, .sc .slice), (6, .sc (.int .i64))] (.seq (.seq (.leaf) (.cond (.leaf) (.leaf))) (.seq (.block (.seq (.leaf) (.cond (.leaf) (.leaf)))) (.leaf)))))) (.seq (.leaf) (.leaf))))) [.slice l_0 l_0l l_0c, .int .i64 n_1] K h0 = F70 l_0 l_0l l_0c n_1 K h0 := by kernel_rfl

-- function 69
set_option maxRecDepth 100000 in
def F69 (l_0 : Option Addr) (l_0l _l_0c : Nat) (n_1 : Int) (K : Value → Heap → Prop) (h0 : Heap) : Prop := (
  loopT [.sc (.int .i64)] (fun (s2 : Int) _ (K1 : Int → Heap → Prop) h3 =>
  br (decide (s2 < (((l_0l : Nat) : Int))))
  (ptrW l_0 (fun a4 =>
  idxW s2 l_0l true (ldW (.int .i64) (Addr.add a4 (Int.toNat s2 * 1)) (fun (x5 : Int) =>
  br (x5 == n_1)
  (K (.bool true) h3)
  (K1 (IntKind.wrap .i64 (s2 + (1 : Int))) h3)) h3)))
  (K (.bool false) h3)) (0 : Int) h0)
set_option maxRecDepth 100000 in
theorem F69_eq (l_0 : Option Addr) (l_0l l_0c : Nat) (n_1 : Int) (K : Value → Heap → Prop) (h0 : Heap) : funWE Tryz.prog 69 (.seq (.leaf) (.seq (.seq (.leaf) (.block (.loop [(5, .sc (.int .i64))] (.seq (.seq (.leaf) (.cond (.leaf) (.leaf))) (.seq (.block (.seq (.leaf) (.cond (.seq (.leaf) (.leaf)) (.leaf)))) (.leaf)))))) (.seq (.leaf) (.leaf)))) [.slice l_0 l_0l l_0c, .int .i64 n_1] K h0 = F69 l_0 l_0l l_0c n_1 K h0 := by kernel_rfl

end Go.Proofs.YtfanjfbenhocnaaGreatDoor.W
