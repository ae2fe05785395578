/-
  The formulas of the reference of zns. Each formula checked by the kernel. Printed by a program of this repo.
-/
import Derived.Test.YtgohecjnjadnpaaGreatDoorProg
import Derived.Test.YtgohecjnjadnpaaGreatDoorPl
namespace Go.Proofs.YtgohecjnjadnpaaGreatDoor.W
open Go.Pl

-- function 8
set_option maxRecDepth 100000 in
def F8 (zones_0 : Int) (pages_1 : Int) (K : Value → Heap → Prop) (h0 : Heap) : Prop := (
  cutT [] (fun (K1 : Unit → Heap → Prop) h2 =>
  br (decide (zones_0 < (1 : Int)))
  (K (.tuple #[.pointer none, .int .i64 1]) h2)
  (br (decide (zones_0 > (24 : Int)))
  (K (.tuple #[.pointer none, .int .i64 1]) h2)
  (br (decide (pages_1 < (1 : Int)))
  (K (.tuple #[.pointer none, .int .i64 1]) h2)
  (br (decide (pages_1 > (16 : Int)))
  (K (.tuple #[.pointer none, .int .i64 1]) h2)
  (K1 () h2))))) (fun (_s3 : Unit) _ h4 =>
  newW (.cells #[.slice none 0 0, .int .i64 pages_1, .int .i64 (-1), .int .i64 0, .bool false] 63) (fun a5 h6 =>
  loopT [.sc (.int .i64)] (fun (s8 : Int) _ (K7 : Int → Heap → Prop) h9 =>
  br (decide (s8 < zones_0))
  (ldW .slice (Addr.add a5 0) (fun (x10 : Option Addr × Nat × Nat) =>
  newW (.cells #[.slice none 0 0, .int .i64 0, .bool false] 78) (fun a11 h12 =>
  apW Tryz.prog #[61, 61] #[.slice x10.1 x10.2.1 x10.2.2, .slice (some a11) 1 1] (fun b13 n14 c15 h16 =>
  stW (Addr.add a5 0) (.slice b13 n14 c15) (fun h17 =>
  K7 (IntKind.wrap .i64 (s8 + (1 : Int))) h17) h16) h12) h9) h9)
  (K (.tuple #[.pointer (some a5), .int .i64 0]) h9)) (0 : Int) h6) h4) h0)
set_option maxRecDepth 100000 in
theorem F8_eq (zones_0 : Int) (pages_1 : Int) (K : Value → Heap → Prop) (h0 : Heap) : funWE Tryz.prog 8 (.seq (.leaf) (.cut [] (.seq (.leaf) (.cond (.seq (.leaf) (.leaf)) (.leaf))) (.seq (.leaf) (.seq (.seq (.leaf) (.block (.loop [(7, .sc (.int .i64))] (.seq (.seq (.leaf) (.cond (.leaf) (.leaf))) (.seq (.block (.leaf)) (.leaf)))))) (.seq (.leaf) (.leaf)))))) [.int .i64 zones_0, .int .i64 pages_1] K h0 = F8 zones_0 pages_1 K h0 := by kernel_rfl

-- function 57
set_option maxRecDepth 100000 in
def F57 (d_0 : Addr) (n_1 : Int) (K : Value → Heap → Prop) (h0 : Heap) : Prop := (
  br (decide (n_1 ≥ (0 : Int)))
  (ldW .slice (Addr.add d_0 0) (fun (x1 : Option Addr × Nat × Nat) =>
  K (.bool (decide (n_1 < (((x1.2.1 : Nat) : Int))))) h0) h0)
  (K (.bool false) h0))
set_option maxRecDepth 100000 in
theorem F57_eq (d_0 : Addr) (n_1 : Int) (K : Value → Heap → Prop) (h0 : Heap) : funWE Tryz.prog 57 (.seq (.leaf) (.seq (.leaf) (.leaf))) [.pointer (some d_0), .int .i64 n_1] K h0 = F57 d_0 n_1 K h0 := by kernel_rfl

-- function 88
set_option maxRecDepth 100000 in
def F88 (d_0 : Addr) (n_1 : Int) (K : Value → Heap → Prop) (h0 : Heap) : Prop := (
  callT Tryz.prog 57 [.pointer (some d_0), .int .i64 n_1] [.sc .bool] (fun (r1 : Bool) h2 =>
  br (!r1)
  (K (.int .i64 0) h2)
  (ldW .slice (Addr.add d_0 0) (fun (x3 : Option Addr × Nat × Nat) =>
  ptrW x3.1 (fun a4 =>
  idxW n_1 x3.2.1 true (ldW .slice (Addr.add (Addr.add a4 (Int.toNat n_1 * 3)) 0) (fun (x5 : Option Addr × Nat × Nat) =>
  K (.int .i64 (((x5.2.1 : Nat) : Int))) h2) h2))) h2)) h0)
set_option maxRecDepth 100000 in
theorem F88_eq (d_0 : Addr) (n_1 : Int) (K : Value → Heap → Prop) (h0 : Heap) : funWE Tryz.prog 88 (.seq (.leaf) (.seq (.seq (.leaf) (.cond (.seq (.leaf) (.leaf)) (.leaf))) (.seq (.leaf) (.leaf)))) [.pointer (some d_0), .int .i64 n_1] K h0 = F88 d_0 n_1 K h0 := by kernel_rfl

-- function 80
set_option maxRecDepth 100000 in
def F80 (d_0 : Addr) (n_1 : Int) (K : Value → Heap → Prop) (h0 : Heap) : Prop := (
  callT Tryz.prog 88 [.pointer (some d_0), .int .i64 n_1] [.sc (.int .i64)] (fun (r1 : Int) h2 =>
  br (r1 == (0 : Int))
  (K (.int .i64 0) h2)
  (ldW .slice (Addr.add d_0 0) (fun (x3 : Option Addr × Nat × Nat) =>
  ptrW x3.1 (fun a4 =>
  idxW n_1 x3.2.1 true (ldW .bool (Addr.add (Addr.add a4 (Int.toNat n_1 * 3)) 2) (fun (x5 : Bool) =>
  br x5
  (K (.int .i64 2) h2)
  (ldW (.int .i64) (Addr.add d_0 1) (fun (x6 : Int) =>
  callT Tryz.prog 88 [.pointer (some d_0), .int .i64 n_1] [.sc (.int .i64)] (fun (r7 : Int) h8 =>
  (cellH h8 (Addr.add d_0 1) = some (.int .i64 x6) ∧ br (r7 == x6)
  (K (.int .i64 2) h8)
  (K (.int .i64 1) h8))) h2) h2)) h2))) h2)) h0)
set_option maxRecDepth 100000 in
theorem F80_eq (d_0 : Addr) (n_1 : Int) (K : Value → Heap → Prop) (h0 : Heap) : funWE Tryz.prog 80 (.seq (.leaf) (.seq (.seq (.leaf) (.cond (.seq (.leaf) (.leaf)) (.leaf))) (.seq (.seq (.draw (odp [0, 1, 2, 3, 4, 5, 6, 7, 8, 9, 10, 12, 13, 14, 15, 11, 16, 17] .nil) [200015]) (.cond (.seq (.leaf) (.leaf)) (.leaf))) (.seq (.leaf) (.leaf))))) [.pointer (some d_0), .int .i64 n_1] K h0 = F80 d_0 n_1 K h0 := by kernel_rfl

-- function 58
set_option maxRecDepth 100000 in
def F58 (d_0 : Addr) (e_1 : Int) (K : Value → Heap → Prop) (h0 : Heap) : Prop := (
  ldW .bool (Addr.add d_0 4) (fun (x1 : Bool) =>
  br x1
  (K (.int .i64 7) h0)
  (br (e_1 != (0 : Int))
  (K (.int .i64 e_1) h0)
  (ldW (.int .i64) (Addr.add d_0 2) (fun (x2 : Int) =>
  br (x2 == (0 : Int))
  (stW (Addr.add d_0 4) (.bool true) (fun h3 =>
  K (.int .i64 7) h3) h0)
  (cutT [] (fun (K4 : Unit → Heap → Prop) h8 =>
  ldW (.int .i64) (Addr.add d_0 2) (fun (x5 : Int) =>
  br (decide (x5 > (0 : Int)))
  (ldW (.int .i64) (Addr.add d_0 2) (fun (x6 : Int) =>
  stW (Addr.add d_0 2) (.int .i64 (IntKind.wrap .i64 (x6 - (1 : Int)))) (fun h7 =>
  K4 () h7) h8) h8)
  (K4 () h8)) h8) (fun (_s9 : Unit) _ h10 =>
  ldW (.int .i64) (Addr.add d_0 3) (fun (x11 : Int) =>
  stW (Addr.add d_0 3) (.int .i64 (IntKind.wrap .i64 (x11 + (1 : Int)))) (fun h12 =>
  K (.int .i64 0) h12) h10) h10) h0)) h0))) h0)
set_option maxRecDepth 100000 in
theorem F58_eq (d_0 : Addr) (e_1 : Int) (K : Value → Heap → Prop) (h0 : Heap) : funWE Tryz.prog 58 (.seq (.leaf) (.seq (.seq (.leaf) (.cond (.seq (.leaf) (.leaf)) (.leaf))) (.seq (.seq (.leaf) (.cond (.seq (.leaf) (.leaf)) (.leaf))) (.seq (.seq (.leaf) (.cond (.seq (.leaf) (.seq (.leaf) (.leaf))) (.leaf))) (.cut [] (.seq (.leaf) (.cond (.leaf) (.leaf))) (.seq (.leaf) (.seq (.leaf) (.leaf)))))))) [.pointer (some d_0), .int .i64 e_1] K h0 = F58 d_0 e_1 K h0 := by kernel_rfl

-- function 52
set_option maxRecDepth 100000 in
def F52 (d_0 : Addr) (n_1 : Int) (b_2 : Option Addr) (b_2l b_2c : Nat) (K : Value → Heap → Prop) (h0 : Heap) : Prop := (
  cutT [.sc (.int .i64)] (fun (K1 : Int → Heap → Prop) h10 =>
  cutT [.sc .bool] (fun (K2 : Bool → Heap → Prop) h5 =>
  callT Tryz.prog 57 [.pointer (some d_0), .int .i64 n_1] [.sc .bool] (fun (r3 : Bool) h4 =>
  br (!r3)
  (K2 true h4)
  (K2 ((((b_2l : Nat) : Int)) != (33 : Int)) h4)) h5) (fun (s6 : Bool) _ h7 =>
  br s6
  (K1 (1 : Int) h7)
  (callT Tryz.prog 80 [.pointer (some d_0), .int .i64 n_1] [.sc (.int .i64)] (fun (r8 : Int) h9 =>
  br (r8 == (2 : Int))
  (K1 (5 : Int) h9)
  (K1 (0 : Int) h9)) h7)) h10) (fun (s11 : Int) _ h12 =>
  callT Tryz.prog 58 [.pointer (some d_0), .int .i64 s11] [.sc (.int .i64)] (fun (r13 : Int) h14 =>
  br (r13 != (0 : Int))
  (K (.tuple #[.int .i64 0, .int .i64 r13]) h14)
  (cutT [] (fun (K15 : Unit → Heap → Prop) h78 =>
  ldW .slice (Addr.add d_0 0) (fun (x16 : Option Addr × Nat × Nat) =>
  ldW .slice (Addr.add d_0 0) (fun (x17 : Option Addr × Nat × Nat) =>
  ptrW x17.1 (fun a18 =>
  idxW n_1 x17.2.1 true (ldW .slice (Addr.add (Addr.add a18 (Int.toNat n_1 * 3)) 0) (fun (x19 : Option Addr × Nat × Nat) =>
  (newW (.cells #[] 43) (fun a20 h21 =>
  (apW Tryz.prog #[76, 76] #[.slice (some a20) 0 0, .slice x19.1 x19.2.1 x19.2.2] (fun b22 n23 c24 h25 =>
  (cellH h25 (Addr.add d_0 0) = some (.slice x16.1 x16.2.1 x16.2.2) ∧ newW (.cells #[] 5) (fun a26 h27 =>
  apW Tryz.prog #[43, 43] #[.slice (some a26) 0 0, .slice b_2 b_2l b_2c] (fun b28 n29 c30 h31 =>
  (cellH h31 (Addr.add d_0 0) = some (.slice x16.1 x16.2.1 x16.2.2) ∧ newW (.cells #[.slice b28 n29 c30] 43) (fun a32 h33 =>
  apW Tryz.prog #[76, 76] #[.slice b22 n23 c24, .slice (some a32) 1 1] (fun b34 n35 c36 h37 =>
  (cellH h37 (Addr.add d_0 0) = some (.slice x16.1 x16.2.1 x16.2.2) ∧ ptrW x16.1 (fun a38 =>
  idxW n_1 x16.2.1 true (stW (Addr.add (Addr.add a38 (Int.toNat n_1 * 3)) 0) (.slice b34 n35 c36) (fun h39 =>
  K15 () h39) h37)))) h33) h31)) h27) h25)) h21) ∧
  (newW (.cells #[] 5) (fun a40 h41 =>
  apW Tryz.prog #[76, 76] #[.slice (some a20) 0 0, .slice x19.1 x19.2.1 x19.2.2] (fun b42 n43 c44 h45 =>
  (cellH h45 (Addr.add d_0 0) = some (.slice x16.1 x16.2.1 x16.2.2) ∧ apW Tryz.prog #[43, 43] #[.slice (some a40) 0 0, .slice b_2 b_2l b_2c] (fun b46 n47 c48 h49 =>
  (cellH h49 (Addr.add d_0 0) = some (.slice x16.1 x16.2.1 x16.2.2) ∧ newW (.cells #[.slice b46 n47 c48] 43) (fun a50 h51 =>
  apW Tryz.prog #[76, 76] #[.slice b42 n43 c44, .slice (some a50) 1 1] (fun b52 n53 c54 h55 =>
  (cellH h55 (Addr.add d_0 0) = some (.slice x16.1 x16.2.1 x16.2.2) ∧ ptrW x16.1 (fun a56 =>
  idxW n_1 x16.2.1 true (stW (Addr.add (Addr.add a56 (Int.toNat n_1 * 3)) 0) (.slice b52 n53 c54) (fun h57 =>
  K15 () h57) h55)))) h51) h49)) h45)) h41) h21)) h78) ∧
  (newW (.cells #[] 5) (fun a58 h59 =>
  newW (.cells #[] 43) (fun a60 h61 =>
  apW Tryz.prog #[76, 76] #[.slice (some a60) 0 0, .slice x19.1 x19.2.1 x19.2.2] (fun b62 n63 c64 h65 =>
  (cellH h65 (Addr.add d_0 0) = some (.slice x16.1 x16.2.1 x16.2.2) ∧ apW Tryz.prog #[43, 43] #[.slice (some a58) 0 0, .slice b_2 b_2l b_2c] (fun b66 n67 c68 h69 =>
  (cellH h69 (Addr.add d_0 0) = some (.slice x16.1 x16.2.1 x16.2.2) ∧ newW (.cells #[.slice b66 n67 c68] 43) (fun a70 h71 =>
  apW Tryz.prog #[76, 76] #[.slice b62 n63 c64, .slice (some a70) 1 1] (fun b72 n73 c74 h75 =>
  (cellH h75 (Addr.add d_0 0) = some (.slice x16.1 x16.2.1 x16.2.2) ∧ ptrW x16.1 (fun a76 =>
  idxW n_1 x16.2.1 true (stW (Addr.add (Addr.add a76 (Int.toNat n_1 * 3)) 0) (.slice b72 n73 c74) (fun h77 =>
  K15 () h77) h75)))) h71) h69)) h65)) h61) h59) h78)) h78))) h78) h78) (fun (_s79 : Unit) _ h80 =>
  ldW .slice (Addr.add d_0 0) (fun (x81 : Option Addr × Nat × Nat) =>
  ptrW x81.1 (fun a82 =>
  idxW n_1 x81.2.1 true (ldW .slice (Addr.add (Addr.add a82 (Int.toNat n_1 * 3)) 0) (fun (x83 : Option Addr × Nat × Nat) =>
  K (.tuple #[.int .i64 (IntKind.wrap .i64 ((((x83.2.1 : Nat) : Int)) - (1 : Int))), .int .i64 0]) h80) h80))) h80) h14)) h12) h0)
set_option maxRecDepth 100000 in
theorem F52_eq (d_0 : Addr) (n_1 : Int) (b_2 : Option Addr) (b_2l b_2c : Nat) (K : Value → Heap → Prop) (h0 : Heap) : funWE Tryz.prog 52 (.seq (.leaf) (.seq (.leaf) (.cut [(8, .sc (.int .i64))] (.cut [(17, .sc .bool)] (.leaf) (.cond (.leaf) (.seq (.leaf) (.cond (.leaf) (.leaf))))) (.seq (.leaf) (.seq (.seq (.leaf) (.cond (.seq (.leaf) (.leaf)) (.leaf))) (.cut [] (.draw (odp [0, 1, 2, 3, 4, 6, 7, 8, 9, 10, 11, 12, 13, 16] (.fork 5 (.fork 14 (odp [15, 17, 18, 19, 20, 21, 22] .nil) (.one 15 (odp [14, 17, 18, 19, 20, 21, 22] .nil))) (.one 15 (odp [5, 14, 17, 18, 19, 20, 21, 22] .nil)))) [200003]) (.seq (.leaf) (.leaf)))))))) [.pointer (some d_0), .int .i64 n_1, .slice b_2 b_2l b_2c] K h0 = F52 d_0 n_1 b_2 b_2l b_2c K h0 := by kernel_rfl

-- function 55
set_option maxRecDepth 100000 in
def F55 (d_0 : Addr) (n_1 : Int) (page_2 : Int) (K : Value → Heap → Prop) (h0 : Heap) : Prop := (
  ldW .bool (Addr.add d_0 4) (fun (x1 : Bool) =>
  br x1
  (K (.tuple #[.slice none 0 0, .int .i64 7]) h0)
  (cutT [] (fun (K2 : Unit → Heap → Prop) h6 =>
  callT Tryz.prog 57 [.pointer (some d_0), .int .i64 n_1] [.sc .bool] (fun (r3 : Bool) h4 =>
  br (!r3)
  (K (.tuple #[.slice none 0 0, .int .i64 1]) h4)
  (br (decide (page_2 < (0 : Int)))
  (K (.tuple #[.slice none 0 0, .int .i64 1]) h4)
  (ldW (.int .i64) (Addr.add d_0 1) (fun (x5 : Int) =>
  br (decide (page_2 ≥ x5))
  (K (.tuple #[.slice none 0 0, .int .i64 1]) h4)
  (K2 () h4)) h4))) h6) (fun (_s7 : Unit) _ h8 =>
  ldW .slice (Addr.add d_0 0) (fun (x9 : Option Addr × Nat × Nat) =>
  ptrW x9.1 (fun a10 =>
  idxW n_1 x9.2.1 true (ldW .slice (Addr.add (Addr.add a10 (Int.toNat n_1 * 3)) 0) (fun (x11 : Option Addr × Nat × Nat) =>
  br (decide (page_2 ≥ (((x11.2.1 : Nat) : Int))))
  (K (.tuple #[.slice none 0 0, .int .i64 8]) h8)
  (ldW .slice (Addr.add d_0 0) (fun (x12 : Option Addr × Nat × Nat) =>
  ptrW x12.1 (fun a13 =>
  idxW n_1 x12.2.1 true (ldW .slice (Addr.add (Addr.add a13 (Int.toNat n_1 * 3)) 0) (fun (x14 : Option Addr × Nat × Nat) =>
  ptrW x14.1 (fun a15 =>
  idxW page_2 x14.2.1 true (ldW .slice (Addr.add a15 (Int.toNat page_2 * 1)) (fun (x16 : Option Addr × Nat × Nat) =>
  br ((((x16.2.1 : Nat) : Int)) == (0 : Int))
  (K (.tuple #[.slice none 0 0, .int .i64 6]) h8)
  (newW (.cells #[] 5) (fun a17 h18 =>
  ldW .slice (Addr.add d_0 0) (fun (x19 : Option Addr × Nat × Nat) =>
  ptrW x19.1 (fun a20 =>
  idxW n_1 x19.2.1 true (ldW .slice (Addr.add (Addr.add a20 (Int.toNat n_1 * 3)) 0) (fun (x21 : Option Addr × Nat × Nat) =>
  ptrW x21.1 (fun a22 =>
  idxW page_2 x21.2.1 true (ldW .slice (Addr.add a22 (Int.toNat page_2 * 1)) (fun (x23 : Option Addr × Nat × Nat) =>
  apW Tryz.prog #[43, 43] #[.slice (some a17) 0 0, .slice x23.1 x23.2.1 x23.2.2] (fun b24 n25 c26 h27 =>
  K (.tuple #[.slice b24 n25 c26, .int .i64 0]) h27) h18) h18))) h18))) h18) h8)) h8))) h8))) h8)) h8))) h8) h0)) h0)
set_option maxRecDepth 100000 in
theorem F55_eq (d_0 : Addr) (n_1 : Int) (page_2 : Int) (K : Value → Heap → Prop) (h0 : Heap) : funWE Tryz.prog 55 (.seq (.leaf) (.seq (.seq (.leaf) (.cond (.seq (.leaf) (.leaf)) (.leaf))) (.cut [] (.seq (.leaf) (.cond (.seq (.leaf) (.leaf)) (.leaf))) (.seq (.seq (.leaf) (.cond (.seq (.leaf) (.leaf)) (.leaf))) (.seq (.seq (.leaf) (.cond (.seq (.leaf) (.leaf)) (.leaf))) (.seq (.leaf) (.leaf))))))) [.pointer (some d_0), .int .i64 n_1, .int .i64 page_2] K h0 = F55 d_0 n_1 page_2 K h0 := by kernel_rfl

-- function 32
set_option maxRecDepth 100000 in
def F32 (d_0 : Addr) (n_1 : Int) (K : Value → Heap → Prop) (h0 : Heap) : Prop := (
  cutT [.sc (.int .i64)] (fun (K1 : Int → Heap → Prop) h4 =>
  callT Tryz.prog 57 [.pointer (some d_0), .int .i64 n_1] [.sc .bool] (fun (r2 : Bool) h3 =>
  br (!r2)
  (K1 (1 : Int) h3)
  (K1 (0 : Int) h3)) h4) (fun (s5 : Int) _ h6 =>
  callT Tryz.prog 58 [.pointer (some d_0), .int .i64 s5] [.sc (.int .i64)] (fun (r7 : Int) h8 =>
  br (r7 == (0 : Int))
  (ldW .slice (Addr.add d_0 0) (fun (x9 : Option Addr × Nat × Nat) =>
  ptrW x9.1 (fun a10 =>
  idxW n_1 x9.2.1 true (stLW (Addr.add a10 (Int.toNat n_1 * 3)) [.slice none 0 0, .int .i64 0, .bool false] (fun h11 =>
  K (.int .i64 r7) h11) h8))) h8)
  (K (.int .i64 r7) h8)) h6) h0)
set_option maxRecDepth 100000 in
theorem F32_eq (d_0 : Addr) (n_1 : Int) (K : Value → Heap → Prop) (h0 : Heap) : funWE Tryz.prog 32 (.seq (.leaf) (.seq (.leaf) (.cut [(5, .sc (.int .i64))] (.seq (.leaf) (.cond (.leaf) (.leaf))) (.seq (.leaf) (.seq (.seq (.leaf) (.cond (.leaf) (.leaf))) (.seq (.leaf) (.leaf))))))) [.pointer (some d_0), .int .i64 n_1] K h0 = F32 d_0 n_1 K h0 := by kernel_rfl

-- function 33
set_option maxRecDepth 100000 in
def F33 (d_0 : Addr) (K : Value → Heap → Prop) (h0 : Heap) : Prop := (
  callT Tryz.prog 58 [.pointer (some d_0), .int .i64 0] [.sc (.int .i64)] (fun (r1 : Int) h2 =>
  loopT [.sc (.int .i64)] (fun (s4 : Int) _ (K3 : Int → Heap → Prop) h5 =>
  cutT [] (fun (K6 : Unit → Heap → Prop) h8 =>
  ldW .slice (Addr.add d_0 0) (fun (x7 : Option Addr × Nat × Nat) =>
  br (decide (s4 < (((x7.2.1 : Nat) : Int))))
  (br (r1 == (0 : Int))
  (K6 () h8)
  (K (.int .i64 r1) h8))
  (K (.int .i64 r1) h8)) h8) (fun (_s9 : Unit) _ h10 =>
  ldW .slice (Addr.add d_0 0) (fun (x11 : Option Addr × Nat × Nat) =>
  ldW .slice (Addr.add d_0 0) (fun (x12 : Option Addr × Nat × Nat) =>
  ptrW x12.1 (fun a13 =>
  idxW s4 x12.2.1 true (ldW .slice (Addr.add (Addr.add a13 (Int.toNat s4 * 3)) 0) (fun (x14 : Option Addr × Nat × Nat) =>
  ptrW x11.1 (fun a15 =>
  idxW s4 x11.2.1 true (stW (Addr.add (Addr.add a15 (Int.toNat s4 * 3)) 1) (.int .i64 (((x14.2.1 : Nat) : Int))) (fun h16 =>
  K3 (IntKind.wrap .i64 (s4 + (1 : Int))) h16) h10))) h10))) h10) h10) h5) (0 : Int) h2) h0)
set_option maxRecDepth 100000 in
theorem F33_eq (d_0 : Addr) (K : Value → Heap → Prop) (h0 : Heap) : funWE Tryz.prog 33 (.seq (.leaf) (.seq (.leaf) (.seq (.seq (.leaf) (.block (.loop [(4, .sc (.int .i64))] (.cut [] (.seq (.leaf) (.cond (.leaf) (.leaf))) (.seq (.block (.draw (odp [0, 1, 2, 3, 4, 5, 6, 7, 8, 9, 10, 11, 12, 13, 14, 15, 16] .nil) [])) (.leaf)))))) (.seq (.leaf) (.leaf))))) [.pointer (some d_0)] K h0 = F33 d_0 K h0 := by kernel_rfl

-- function 34
set_option maxRecDepth 100000 in
def F34 (d_0 : Addr) (n_1 : Int) (K : Value → Heap → Prop) (h0 : Heap) : Prop := (
  stW (Addr.add d_0 2) (.int .i64 n_1) (fun h1 =>
  br (decide (n_1 < (0 : Int)))
  (stW (Addr.add d_0 2) (.int .i64 (-1)) (fun h2 =>
  K (.tuple #[]) h2) h1)
  (K (.tuple #[]) h1)) h0)
set_option maxRecDepth 100000 in
theorem F34_eq (d_0 : Addr) (n_1 : Int) (K : Value → Heap → Prop) (h0 : Heap) : funWE Tryz.prog 34 (.seq (.leaf) (.seq (.leaf) (.cond (.leaf) (.leaf)))) [.pointer (some d_0), .int .i64 n_1] K h0 = F34 d_0 n_1 K h0 := by kernel_rfl

-- function 35
set_option maxRecDepth 100000 in
def F35 (d_0 : Addr) (keep_1 : Option Addr) (keep_1l _keep_1c : Nat) (tear_2 : Option Addr) (tear_2l _tear_2c : Nat) (K : Value → Heap → Prop) (h0 : Heap) : Prop := (
  loopT [.sc (.int .i64)] (fun (s2 : Int) _ (K1 : Int → Heap → Prop) h3 =>
  ldW .slice (Addr.add d_0 0) (fun (x4 : Option Addr × Nat × Nat) =>
  br (decide (s2 < (((x4.2.1 : Nat) : Int))))
  (ldW .slice (Addr.add d_0 0) (fun (x5 : Option Addr × Nat × Nat) =>
  ptrW x5.1 (fun a6 =>
  idxW s2 x5.2.1 true (ldAggW [.slice, .int .i64, .bool] (Addr.add a6 (Int.toNat s2 * 3)) (fun (x7 : (Option Addr × Nat × Nat) × Int × Bool) =>
  newW (.cells (zeroC Tryz.prog 78) 78) (fun a8 h9 =>
  stLW a8 [.slice x7.1.1 x7.1.2.1 x7.1.2.2, .int .i64 x7.2.1, .bool x7.2.2] (fun h10 =>
  ldW (.int .i64) (Addr.add a8 1) (fun (x11 : Int) =>
  loopT [.sc (.int .i64), .sc (.int .i64)] (fun (s13 : Int × Int) _ (K12 : (Int × Int) → Heap → Prop) h14 =>
  cutT [] (fun (K15 : Unit → Heap → Prop) h100 =>
  br (decide (s2 < (((keep_1l : Nat) : Int))))
  (ptrW keep_1 (fun a16 =>
  idxW s2 keep_1l true (ldW (.int .i64) (Addr.add a16 (Int.toNat s2 * 1)) (fun (x17 : Int) =>
  br (decide (s13.2 < x17))
  (ldW .slice (Addr.add a8 0) (fun (x18 : Option Addr × Nat × Nat) =>
  br (decide (s13.1 < (((x18.2.1 : Nat) : Int))))
  (K15 () h100)
  (newW (.cells #[] 43) (fun a19 h20 =>
  ldW .slice (Addr.add a8 0) (fun (x21 : Option Addr × Nat × Nat) =>
  slW x21.1 x21.2.2 1 (0 : Int) s13.1 (((x21.2.2 : Nat) : Int)) (fun b22 n23 c24 =>
  apW Tryz.prog #[76, 76] #[.slice (some a19) 0 0, .slice b22 n23 c24] (fun b25 n26 c27 h28 =>
  cutT [.sc .slice] (fun (K29 : ((Option Addr × Nat × Nat)) → Heap → Prop) h39 =>
  br (decide (s2 < (((tear_2l : Nat) : Int))))
  (ptrW tear_2 (fun a30 =>
  idxW s2 tear_2l true (ldW .bool (Addr.add a30 (Int.toNat s2 * 1)) (fun (x31 : Bool) =>
  br x31
  (ldW .slice (Addr.add a8 0) (fun (x32 : Option Addr × Nat × Nat) =>
  br (decide (s13.1 < (((x32.2.1 : Nat) : Int))))
  (newW (.cells #[.slice none 0 0] 43) (fun a33 h34 =>
  apW Tryz.prog #[76, 76] #[.slice b25 n26 c27, .slice (some a33) 1 1] (fun b35 n36 c37 h38 =>
  K29 (b35, n36, c37) h38) h34) h39)
  (K29 (b25, n26, c27) h39)) h39)
  (K29 (b25, n26, c27) h39)) h39)))
  (K29 (b25, n26, c27) h39)) (fun (s40 : (Option Addr × Nat × Nat)) _ h41 =>
  ldW .slice (Addr.add d_0 0) (fun (x42 : Option Addr × Nat × Nat) =>
  ldW .bool (Addr.add a8 2) (fun (x43 : Bool) =>
  ptrW x42.1 (fun a44 =>
  idxW s2 x42.2.1 true (stLW (Addr.add a44 (Int.toNat s2 * 3)) [.slice s40.1 s40.2.1 s40.2.2, .int .i64 (((s40.2.1 : Nat) : Int)), .bool x43] (fun h45 =>
  K1 (IntKind.wrap .i64 (s2 + (1 : Int))) h45) h41))) h41) h41) h28) h20)) h20) h100)) h100)
  (newW (.cells #[] 43) (fun a46 h47 =>
  ldW .slice (Addr.add a8 0) (fun (x48 : Option Addr × Nat × Nat) =>
  slW x48.1 x48.2.2 1 (0 : Int) s13.1 (((x48.2.2 : Nat) : Int)) (fun b49 n50 c51 =>
  apW Tryz.prog #[76, 76] #[.slice (some a46) 0 0, .slice b49 n50 c51] (fun b52 n53 c54 h55 =>
  cutT [.sc .slice] (fun (K56 : ((Option Addr × Nat × Nat)) → Heap → Prop) h66 =>
  br (decide (s2 < (((tear_2l : Nat) : Int))))
  (ptrW tear_2 (fun a57 =>
  idxW s2 tear_2l true (ldW .bool (Addr.add a57 (Int.toNat s2 * 1)) (fun (x58 : Bool) =>
  br x58
  (ldW .slice (Addr.add a8 0) (fun (x59 : Option Addr × Nat × Nat) =>
  br (decide (s13.1 < (((x59.2.1 : Nat) : Int))))
  (newW (.cells #[.slice none 0 0] 43) (fun a60 h61 =>
  apW Tryz.prog #[76, 76] #[.slice b52 n53 c54, .slice (some a60) 1 1] (fun b62 n63 c64 h65 =>
  K56 (b62, n63, c64) h65) h61) h66)
  (K56 (b52, n53, c54) h66)) h66)
  (K56 (b52, n53, c54) h66)) h66)))
  (K56 (b52, n53, c54) h66)) (fun (s67 : (Option Addr × Nat × Nat)) _ h68 =>
  ldW .slice (Addr.add d_0 0) (fun (x69 : Option Addr × Nat × Nat) =>
  ldW .bool (Addr.add a8 2) (fun (x70 : Bool) =>
  ptrW x69.1 (fun a71 =>
  idxW s2 x69.2.1 true (stLW (Addr.add a71 (Int.toNat s2 * 3)) [.slice s67.1 s67.2.1 s67.2.2, .int .i64 (((s67.2.1 : Nat) : Int)), .bool x70] (fun h72 =>
  K1 (IntKind.wrap .i64 (s2 + (1 : Int))) h72) h68))) h68) h68) h55) h47)) h47) h100)) h100)))
  (newW (.cells #[] 43) (fun a73 h74 =>
  ldW .slice (Addr.add a8 0) (fun (x75 : Option Addr × Nat × Nat) =>
  slW x75.1 x75.2.2 1 (0 : Int) s13.1 (((x75.2.2 : Nat) : Int)) (fun b76 n77 c78 =>
  apW Tryz.prog #[76, 76] #[.slice (some a73) 0 0, .slice b76 n77 c78] (fun b79 n80 c81 h82 =>
  cutT [.sc .slice] (fun (K83 : ((Option Addr × Nat × Nat)) → Heap → Prop) h93 =>
  br (decide (s2 < (((tear_2l : Nat) : Int))))
  (ptrW tear_2 (fun a84 =>
  idxW s2 tear_2l true (ldW .bool (Addr.add a84 (Int.toNat s2 * 1)) (fun (x85 : Bool) =>
  br x85
  (ldW .slice (Addr.add a8 0) (fun (x86 : Option Addr × Nat × Nat) =>
  br (decide (s13.1 < (((x86.2.1 : Nat) : Int))))
  (newW (.cells #[.slice none 0 0] 43) (fun a87 h88 =>
  apW Tryz.prog #[76, 76] #[.slice b79 n80 c81, .slice (some a87) 1 1] (fun b89 n90 c91 h92 =>
  K83 (b89, n90, c91) h92) h88) h93)
  (K83 (b79, n80, c81) h93)) h93)
  (K83 (b79, n80, c81) h93)) h93)))
  (K83 (b79, n80, c81) h93)) (fun (s94 : (Option Addr × Nat × Nat)) _ h95 =>
  ldW .slice (Addr.add d_0 0) (fun (x96 : Option Addr × Nat × Nat) =>
  ldW .bool (Addr.add a8 2) (fun (x97 : Bool) =>
  ptrW x96.1 (fun a98 =>
  idxW s2 x96.2.1 true (stLW (Addr.add a98 (Int.toNat s2 * 3)) [.slice s94.1 s94.2.1 s94.2.2, .int .i64 (((s94.2.1 : Nat) : Int)), .bool x97] (fun h99 =>
  K1 (IntKind.wrap .i64 (s2 + (1 : Int))) h99) h95))) h95) h95) h82) h74)) h74) h100)) (fun (_s101 : Unit) _ h102 =>
  K12 ((IntKind.wrap .i64 (s13.1 + (1 : Int))), (IntKind.wrap .i64 (s13.2 + (1 : Int)))) h102) h14) (x11, (0 : Int)) h10) h10) h9) h3) h3))) h3)
  (stW (Addr.add d_0 2) (.int .i64 (-1)) (fun h103 =>
  stW (Addr.add d_0 4) (.bool false) (fun h104 =>
  K (.tuple #[]) h104) h103) h3)) h3) (0 : Int) h0)
set_option maxRecDepth 100000 in
theorem F35_eq (d_0 : Addr) (keep_1 : Option Addr) (keep_1l keep_1c : Nat) (tear_2 : Option Addr) (tear_2l tear_2c : Nat) (K : Value → Heap → Prop) (h0 : Heap) : funWE Tryz.prog 35 (.seq (.seq (.leaf) (.block (.loop [(6, .sc (.int .i64))] (.seq (.seq (.leaf) (.cond (.leaf) (.leaf))) (.seq (.block (.seq (.leaf) (.seq (.leaf) (.seq (.seq (.leaf) (.block (.loop [(8, .sc (.int .i64)), (9, .sc (.int .i64))] (.cut [] (.seq (.leaf) (.cond (.leaf) (.leaf))) (.seq (.block (.leaf)) (.leaf)))))) (.seq (.leaf) (.cut [(10, .sc .slice)] (.seq (.leaf) (.cond (.leaf) (.leaf))) (.draw (odp [0, 1, 2, 3, 4, 5, 6, 7, 8, 9, 10, 11, 12] .nil) []))))))) (.leaf)))))) (.seq (.leaf) (.leaf))) [.pointer (some d_0), .slice keep_1 keep_1l keep_1c, .slice tear_2 tear_2l tear_2c] K h0 = F35 d_0 keep_1 keep_1l keep_1c tear_2 tear_2l tear_2c K h0 := by kernel_rfl

end Go.Proofs.YtgohecjnjadnpaaGreatDoor.W
