/-
  The formulas of the reference of victim. Each formula checked by the kernel. Printed by a program of this repo.
-/
import Derived.Test.YticppjmldlhbiaaProg
import Derived.Test.YticppjmldlhbiaaPl
namespace Go.Proofs.Yticppjmldlhbiaa.W
open Go.Pl

-- function 34
set_option maxRecDepth 100000 in
def F34 (pages_0 : Int) (l_1 : Option Addr) (l_1l _l_1c : Nat) (K : Value → Heap → Prop) (h0 : Heap) : Prop := (
  loopT [.sc (.int .i64)] (fun (s2 : Int) _ (K1 : Int → Heap → Prop) h3 =>
  br (decide (s2 < (((l_1l : Nat) : Int))))
  (cutT [] (fun (K4 : Unit → Heap → Prop) h11 =>
  ptrW l_1 (fun a5 =>
  idxW s2 l_1l true (ldW (.int .i64) (Addr.add (Addr.add a5 (Int.toNat s2 * 3)) 0) (fun (x6 : Int) =>
  br (decide (x6 < (0 : Int)))
  (K (.bool false) h11)
  (ptrW l_1 (fun a7 =>
  idxW s2 l_1l true (ldW (.int .i64) (Addr.add (Addr.add a7 (Int.toNat s2 * 3)) 1) (fun (x8 : Int) =>
  br (decide (x8 < (0 : Int)))
  (K (.bool false) h11)
  (ptrW l_1 (fun a9 =>
  idxW s2 l_1l true (ldW (.int .i64) (Addr.add (Addr.add a9 (Int.toNat s2 * 3)) 1) (fun (x10 : Int) =>
  br (decide (x10 > pages_0))
  (K (.bool false) h11)
  (K4 () h11)) h11)))) h11)))) h11))) (fun (_s12 : Unit) _ h13 =>
  loopT [.sc (.int .i64)] (fun (s15 : Int) _ (K14 : Int → Heap → Prop) h16 =>
  br (decide (s15 < s2))
  (ptrW l_1 (fun a17 =>
  idxW s15 l_1l true (ldW (.int .i64) (Addr.add (Addr.add a17 (Int.toNat s15 * 3)) 0) (fun (x18 : Int) =>
  ptrW l_1 (fun a19 =>
  idxW s2 l_1l true (ldW (.int .i64) (Addr.add (Addr.add a19 (Int.toNat s2 * 3)) 0) (fun (x20 : Int) =>
  br (x18 == x20)
  (K (.bool false) h16)
  (K14 (IntKind.wrap .i64 (s15 + (1 : Int))) h16)) h16))) h16)))
  (K1 (IntKind.wrap .i64 (s2 + (1 : Int))) h16)) (0 : Int) h13) h3)
  (K (.bool (decide ((((l_1l : Nat) : Int)) ≤ (24 : Int)))) h3)) (0 : Int) h0)
set_option maxRecDepth 100000 in
theorem F34_eq (pages_0 : Int) (l_1 : Option Addr) (l_1l l_1c : Nat) (K : Value → Heap → Prop) (h0 : Heap) : funWE Try.prog 34 (.seq (.leaf) (.seq (.seq (.leaf) (.block (.loop [(5, .sc (.int .i64))] (.seq (.seq (.leaf) (.cond (.leaf) (.leaf))) (.seq (.block (.cut [] (.seq (.leaf) (.cond (.seq (.leaf) (.leaf)) (.leaf))) (.seq (.leaf) (.block (.loop [(6, .sc (.int .i64))] (.seq (.seq (.leaf) (.cond (.leaf) (.leaf))) (.seq (.block (.seq (.draw (odp [0, 1, 2, 3, 4, 5, 6, 7, 8, 9, 10] .nil) []) (.cond (.seq (.leaf) (.leaf)) (.leaf)))) (.leaf)))))))) (.leaf)))))) (.seq (.leaf) (.leaf)))) [.int .i64 pages_0, .slice l_1 l_1l l_1c] K h0 = F34 pages_0 l_1 l_1l l_1c K h0 := by kernel_rfl

-- function 58
set_option maxRecDepth 100000 in
def F58 (policy_0 : Int) (pages_1 : Int) (a_2_0 : Int) (a_2_1 : Int) (a_2_2 : Int) (b_3_0 : Int) (b_3_1 : Int) (b_3_2 : Int) (K : Value → Heap → Prop) (h0 : Heap) : Prop := (
  newW (.cells #[.int .i64 a_2_0, .int .i64 a_2_1, .int .u32 a_2_2] 101) (fun a1 h2 =>
  newW (.cells #[.int .i64 b_3_0, .int .i64 b_3_1, .int .u32 b_3_2] 101) (fun a3 h4 =>
  cutT [] (fun (K5 : Unit → Heap → Prop) h14 =>
  cutT [.sc .bool] (fun (K6 : Bool → Heap → Prop) h9 =>
  br (policy_0 == (0 : Int))
  (ldW (.int .i64) (Addr.add a1 1) (fun (x7 : Int) =>
  ldW (.int .i64) (Addr.add a3 1) (fun (x8 : Int) =>
  K6 (x7 != x8) h9) h9) h9)
  (K6 false h9)) (fun (s10 : Bool) _ h11 =>
  br s10
  (ldW (.int .i64) (Addr.add a1 1) (fun (x12 : Int) =>
  ldW (.int .i64) (Addr.add a3 1) (fun (x13 : Int) =>
  K (.bool (decide (x12 < x13))) h11) h11) h11)
  (K5 () h11)) h14) (fun (_s15 : Unit) _ h16 =>
  ldW (.int .u32) (Addr.add a1 2) (fun (x17 : Int) =>
  ldW (.int .i64) (Addr.add a1 1) (fun (x18 : Int) =>
  ldW (.int .i64) (Addr.add a3 1) (fun (x19 : Int) =>
  ldW (.int .u32) (Addr.add a3 2) (fun (x20 : Int) =>
  ldW (.int .i64) (Addr.add a3 1) (fun (x21 : Int) =>
  ldW (.int .i64) (Addr.add a1 1) (fun (x22 : Int) =>
  cutT [] (fun (K23 : Unit → Heap → Prop) h24 =>
  br (policy_0 != (0 : Int))
  (br ((IntKind.wrap .u64 ((IntKind.wrap .u64 ((IntKind.wrap .u64 ((IntKind.wrap .u64 x17) + (1 : Int))) * (IntKind.wrap .u64 (IntKind.wrap .i64 (pages_1 - x18))))) * (IntKind.wrap .u64 (IntKind.wrap .i64 (x19 + (1 : Int)))))) != (IntKind.wrap .u64 ((IntKind.wrap .u64 ((IntKind.wrap .u64 ((IntKind.wrap .u64 x20) + (1 : Int))) * (IntKind.wrap .u64 (IntKind.wrap .i64 (pages_1 - x21))))) * (IntKind.wrap .u64 (IntKind.wrap .i64 (x22 + (1 : Int)))))))
  (K (.bool (decide ((IntKind.wrap .u64 ((IntKind.wrap .u64 ((IntKind.wrap .u64 ((IntKind.wrap .u64 x17) + (1 : Int))) * (IntKind.wrap .u64 (IntKind.wrap .i64 (pages_1 - x18))))) * (IntKind.wrap .u64 (IntKind.wrap .i64 (x19 + (1 : Int)))))) > (IntKind.wrap .u64 ((IntKind.wrap .u64 ((IntKind.wrap .u64 ((IntKind.wrap .u64 x20) + (1 : Int))) * (IntKind.wrap .u64 (IntKind.wrap .i64 (pages_1 - x21))))) * (IntKind.wrap .u64 (IntKind.wrap .i64 (x22 + (1 : Int))))))))) h24)
  (K23 () h24))
  (K23 () h24)) (fun (_s25 : Unit) _ h26 =>
  ldW (.int .i64) (Addr.add a1 0) (fun (x27 : Int) =>
  ldW (.int .i64) (Addr.add a3 0) (fun (x28 : Int) =>
  K (.bool (decide (x27 < x28))) h26) h26) h26) h16) h16) h16) h16) h16) h16) h16) h4) h2) h0)
set_option maxRecDepth 100000 in
theorem F58_eq (policy_0 : Int) (pages_1 : Int) (a_2_0 : Int) (a_2_1 : Int) (a_2_2 : Int) (b_3_0 : Int) (b_3_1 : Int) (b_3_2 : Int) (K : Value → Heap → Prop) (h0 : Heap) : funWE Try.prog 58 (.seq (.leaf) (.cut [] (.cut [(19, .sc .bool)] (.leaf) (.cond (.seq (.leaf) (.leaf)) (.leaf))) (.seq (.leaf) (.seq (.leaf) (.cut [] (.seq (.leaf) (.cond (.seq (.leaf) (.leaf)) (.leaf))) (.seq (.leaf) (.leaf))))))) [.int .i64 policy_0, .int .i64 pages_1, .agg #[.int .i64 a_2_0, .int .i64 a_2_1, .int .u32 a_2_2], .agg #[.int .i64 b_3_0, .int .i64 b_3_1, .int .u32 b_3_2]] K h0 = F58 policy_0 pages_1 a_2_0 a_2_1 a_2_2 b_3_0 b_3_1 b_3_2 K h0 := by kernel_rfl

-- function 39
set_option maxRecDepth 100000 in
def F39 (policy_0 : Int) (pages_1 : Int) (l_2 : Option Addr) (l_2l _l_2c : Nat) (K : Value → Heap → Prop) (h0 : Heap) : Prop := (
  newW (.cells #[] 101) (fun a1 h2 =>
  loopT [.sc .slice, .sc (.int .i64)] (fun (s4 : (Option Addr × Nat × Nat) × Int) _ (K3 : ((Option Addr × Nat × Nat) × Int) → Heap → Prop) h5 =>
  br (decide (s4.2 < (((l_2l : Nat) : Int))))
  (loopT [.sc (.int .i64)] (fun (s7 : Int) _ (K6 : Int → Heap → Prop) h8 =>
  br (decide (s7 < (((s4.1.2.1 : Nat) : Int))))
  (ptrW s4.1.1 (fun a9 =>
  idxW s7 s4.1.2.1 true (ldAggW [.int .i64, .int .i64, .int .u32] (Addr.add a9 (Int.toNat s7 * 3)) (fun (x10 : Int × Int × Int) =>
  ptrW l_2 (fun a11 =>
  idxW s4.2 l_2l true (ldAggW [.int .i64, .int .i64, .int .u32] (Addr.add a11 (Int.toNat s4.2 * 3)) (fun (x12 : Int × Int × Int) =>
  callT Try.prog 58 [.int .i64 policy_0, .int .i64 pages_1, .agg #[.int .i64 x10.1, .int .i64 x10.2.1, .int .u32 x10.2.2], .agg #[.int .i64 x12.1, .int .i64 x12.2.1, .int .u32 x12.2.2]] [.sc .bool] (fun (r13 : Bool) h14 =>
  br r13
  (K6 (IntKind.wrap .i64 (s7 + (1 : Int))) h14)
  (slW s4.1.1 s4.1.2.2 3 (0 : Int) s7 (((s4.1.2.2 : Nat) : Int)) (fun b15 n16 c17 =>
  ptrW l_2 (fun a18 =>
  idxW s4.2 l_2l true (ldAggW [.int .i64, .int .i64, .int .u32] (Addr.add a18 (Int.toNat s4.2 * 3)) (fun (x19 : Int × Int × Int) =>
  slW s4.1.1 s4.1.2.2 3 s7 (((s4.1.2.1 : Nat) : Int)) (((s4.1.2.2 : Nat) : Int)) (fun b20 n21 c22 =>
  (newW (.cells #[] 101) (fun a23 h24 =>
  (apW Try.prog #[63, 63] #[.slice (some a23) 0 0, .slice b15 n16 c17] (fun b25 n26 c27 h28 =>
  (cellH h28 (Addr.add (Addr.add a18 (Int.toNat s4.2 * 3)) 0) = some (.int .i64 x19.1) ∧ (cellH h28 (Addr.add (Addr.add a18 (Int.toNat s4.2 * 3)) 1) = some (.int .i64 x19.2.1) ∧ (cellH h28 (Addr.add (Addr.add a18 (Int.toNat s4.2 * 3)) 2) = some (.int .u32 x19.2.2) ∧ newW (.cells #[.int .i64 x19.1, .int .i64 x19.2.1, .int .u32 x19.2.2] 101) (fun a29 h30 =>
  apW Try.prog #[63, 63] #[.slice b25 n26 c27, .slice (some a29) 1 1] (fun b31 n32 c33 h34 =>
  (cellH h34 (Addr.add (Addr.add a18 (Int.toNat s4.2 * 3)) 0) = some (.int .i64 x19.1) ∧ (cellH h34 (Addr.add (Addr.add a18 (Int.toNat s4.2 * 3)) 1) = some (.int .i64 x19.2.1) ∧ (cellH h34 (Addr.add (Addr.add a18 (Int.toNat s4.2 * 3)) 2) = some (.int .u32 x19.2.2) ∧ apW Try.prog #[63, 63] #[.slice b31 n32 c33, .slice b20 n21 c22] (fun b35 n36 c37 h38 =>
  (cellH h38 (Addr.add (Addr.add a18 (Int.toNat s4.2 * 3)) 0) = some (.int .i64 x19.1) ∧ (cellH h38 (Addr.add (Addr.add a18 (Int.toNat s4.2 * 3)) 1) = some (.int .i64 x19.2.1) ∧ (cellH h38 (Addr.add (Addr.add a18 (Int.toNat s4.2 * 3)) 2) = some (.int .u32 x19.2.2) ∧ K3 ((b35, n36, c37), (IntKind.wrap .i64 (s4.2 + (1 : Int)))) h38)))) h34)))) h30) h28)))) h24) ∧
  (newW (.cells #[.int .i64 x19.1, .int .i64 x19.2.1, .int .u32 x19.2.2] 101) (fun a39 h40 =>
  apW Try.prog #[63, 63] #[.slice (some a23) 0 0, .slice b15 n16 c17] (fun b41 n42 c43 h44 =>
  (cellH h44 (Addr.add (Addr.add a18 (Int.toNat s4.2 * 3)) 0) = some (.int .i64 x19.1) ∧ (cellH h44 (Addr.add (Addr.add a18 (Int.toNat s4.2 * 3)) 1) = some (.int .i64 x19.2.1) ∧ (cellH h44 (Addr.add (Addr.add a18 (Int.toNat s4.2 * 3)) 2) = some (.int .u32 x19.2.2) ∧ apW Try.prog #[63, 63] #[.slice b41 n42 c43, .slice (some a39) 1 1] (fun b45 n46 c47 h48 =>
  (cellH h48 (Addr.add (Addr.add a18 (Int.toNat s4.2 * 3)) 0) = some (.int .i64 x19.1) ∧ (cellH h48 (Addr.add (Addr.add a18 (Int.toNat s4.2 * 3)) 1) = some (.int .i64 x19.2.1) ∧ (cellH h48 (Addr.add (Addr.add a18 (Int.toNat s4.2 * 3)) 2) = some (.int .u32 x19.2.2) ∧ apW Try.prog #[63, 63] #[.slice b45 n46 c47, .slice b20 n21 c22] (fun b49 n50 c51 h52 =>
  (cellH h52 (Addr.add (Addr.add a18 (Int.toNat s4.2 * 3)) 0) = some (.int .i64 x19.1) ∧ (cellH h52 (Addr.add (Addr.add a18 (Int.toNat s4.2 * 3)) 1) = some (.int .i64 x19.2.1) ∧ (cellH h52 (Addr.add (Addr.add a18 (Int.toNat s4.2 * 3)) 2) = some (.int .u32 x19.2.2) ∧ K3 ((b49, n50, c51), (IntKind.wrap .i64 (s4.2 + (1 : Int)))) h52)))) h48)))) h44)))) h40) h24)) h14) ∧
  (newW (.cells #[.int .i64 x19.1, .int .i64 x19.2.1, .int .u32 x19.2.2] 101) (fun a53 h54 =>
  newW (.cells #[] 101) (fun a55 h56 =>
  apW Try.prog #[63, 63] #[.slice (some a55) 0 0, .slice b15 n16 c17] (fun b57 n58 c59 h60 =>
  (cellH h60 (Addr.add (Addr.add a18 (Int.toNat s4.2 * 3)) 0) = some (.int .i64 x19.1) ∧ (cellH h60 (Addr.add (Addr.add a18 (Int.toNat s4.2 * 3)) 1) = some (.int .i64 x19.2.1) ∧ (cellH h60 (Addr.add (Addr.add a18 (Int.toNat s4.2 * 3)) 2) = some (.int .u32 x19.2.2) ∧ apW Try.prog #[63, 63] #[.slice b57 n58 c59, .slice (some a53) 1 1] (fun b61 n62 c63 h64 =>
  (cellH h64 (Addr.add (Addr.add a18 (Int.toNat s4.2 * 3)) 0) = some (.int .i64 x19.1) ∧ (cellH h64 (Addr.add (Addr.add a18 (Int.toNat s4.2 * 3)) 1) = some (.int .i64 x19.2.1) ∧ (cellH h64 (Addr.add (Addr.add a18 (Int.toNat s4.2 * 3)) 2) = some (.int .u32 x19.2.2) ∧ apW Try.prog #[63, 63] #[.slice b61 n62 c63, .slice b20 n21 c22] (fun b65 n66 c67 h68 =>
  (cellH h68 (Addr.add (Addr.add a18 (Int.toNat s4.2 * 3)) 0) = some (.int .i64 x19.1) ∧ (cellH h68 (Addr.add (Addr.add a18 (Int.toNat s4.2 * 3)) 1) = some (.int .i64 x19.2.1) ∧ (cellH h68 (Addr.add (Addr.add a18 (Int.toNat s4.2 * 3)) 2) = some (.int .u32 x19.2.2) ∧ K3 ((b65, n66, c67), (IntKind.wrap .i64 (s4.2 + (1 : Int)))) h68)))) h64)))) h60)))) h56) h54) h14))) h14))))) h8) h8))) h8)))
  (slW s4.1.1 s4.1.2.2 3 (0 : Int) s7 (((s4.1.2.2 : Nat) : Int)) (fun b69 n70 c71 =>
  ptrW l_2 (fun a72 =>
  idxW s4.2 l_2l true (ldAggW [.int .i64, .int .i64, .int .u32] (Addr.add a72 (Int.toNat s4.2 * 3)) (fun (x73 : Int × Int × Int) =>
  slW s4.1.1 s4.1.2.2 3 s7 (((s4.1.2.1 : Nat) : Int)) (((s4.1.2.2 : Nat) : Int)) (fun b74 n75 c76 =>
  (newW (.cells #[] 101) (fun a77 h78 =>
  (apW Try.prog #[63, 63] #[.slice (some a77) 0 0, .slice b69 n70 c71] (fun b79 n80 c81 h82 =>
  (cellH h82 (Addr.add (Addr.add a72 (Int.toNat s4.2 * 3)) 0) = some (.int .i64 x73.1) ∧ (cellH h82 (Addr.add (Addr.add a72 (Int.toNat s4.2 * 3)) 1) = some (.int .i64 x73.2.1) ∧ (cellH h82 (Addr.add (Addr.add a72 (Int.toNat s4.2 * 3)) 2) = some (.int .u32 x73.2.2) ∧ newW (.cells #[.int .i64 x73.1, .int .i64 x73.2.1, .int .u32 x73.2.2] 101) (fun a83 h84 =>
  apW Try.prog #[63, 63] #[.slice b79 n80 c81, .slice (some a83) 1 1] (fun b85 n86 c87 h88 =>
  (cellH h88 (Addr.add (Addr.add a72 (Int.toNat s4.2 * 3)) 0) = some (.int .i64 x73.1) ∧ (cellH h88 (Addr.add (Addr.add a72 (Int.toNat s4.2 * 3)) 1) = some (.int .i64 x73.2.1) ∧ (cellH h88 (Addr.add (Addr.add a72 (Int.toNat s4.2 * 3)) 2) = some (.int .u32 x73.2.2) ∧ apW Try.prog #[63, 63] #[.slice b85 n86 c87, .slice b74 n75 c76] (fun b89 n90 c91 h92 =>
  (cellH h92 (Addr.add (Addr.add a72 (Int.toNat s4.2 * 3)) 0) = some (.int .i64 x73.1) ∧ (cellH h92 (Addr.add (Addr.add a72 (Int.toNat s4.2 * 3)) 1) = some (.int .i64 x73.2.1) ∧ (cellH h92 (Addr.add (Addr.add a72 (Int.toNat s4.2 * 3)) 2) = some (.int .u32 x73.2.2) ∧ K3 ((b89, n90, c91), (IntKind.wrap .i64 (s4.2 + (1 : Int)))) h92)))) h88)))) h84) h82)))) h78) ∧
  (newW (.cells #[.int .i64 x73.1, .int .i64 x73.2.1, .int .u32 x73.2.2] 101) (fun a93 h94 =>
  apW Try.prog #[63, 63] #[.slice (some a77) 0 0, .slice b69 n70 c71] (fun b95 n96 c97 h98 =>
  (cellH h98 (Addr.add (Addr.add a72 (Int.toNat s4.2 * 3)) 0) = some (.int .i64 x73.1) ∧ (cellH h98 (Addr.add (Addr.add a72 (Int.toNat s4.2 * 3)) 1) = some (.int .i64 x73.2.1) ∧ (cellH h98 (Addr.add (Addr.add a72 (Int.toNat s4.2 * 3)) 2) = some (.int .u32 x73.2.2) ∧ apW Try.prog #[63, 63] #[.slice b95 n96 c97, .slice (some a93) 1 1] (fun b99 n100 c101 h102 =>
  (cellH h102 (Addr.add (Addr.add a72 (Int.toNat s4.2 * 3)) 0) = some (.int .i64 x73.1) ∧ (cellH h102 (Addr.add (Addr.add a72 (Int.toNat s4.2 * 3)) 1) = some (.int .i64 x73.2.1) ∧ (cellH h102 (Addr.add (Addr.add a72 (Int.toNat s4.2 * 3)) 2) = some (.int .u32 x73.2.2) ∧ apW Try.prog #[63, 63] #[.slice b99 n100 c101, .slice b74 n75 c76] (fun b103 n104 c105 h106 =>
  (cellH h106 (Addr.add (Addr.add a72 (Int.toNat s4.2 * 3)) 0) = some (.int .i64 x73.1) ∧ (cellH h106 (Addr.add (Addr.add a72 (Int.toNat s4.2 * 3)) 1) = some (.int .i64 x73.2.1) ∧ (cellH h106 (Addr.add (Addr.add a72 (Int.toNat s4.2 * 3)) 2) = some (.int .u32 x73.2.2) ∧ K3 ((b103, n104, c105), (IntKind.wrap .i64 (s4.2 + (1 : Int)))) h106)))) h102)))) h98)))) h94) h78)) h8) ∧
  (newW (.cells #[.int .i64 x73.1, .int .i64 x73.2.1, .int .u32 x73.2.2] 101) (fun a107 h108 =>
  newW (.cells #[] 101) (fun a109 h110 =>
  apW Try.prog #[63, 63] #[.slice (some a109) 0 0, .slice b69 n70 c71] (fun b111 n112 c113 h114 =>
  (cellH h114 (Addr.add (Addr.add a72 (Int.toNat s4.2 * 3)) 0) = some (.int .i64 x73.1) ∧ (cellH h114 (Addr.add (Addr.add a72 (Int.toNat s4.2 * 3)) 1) = some (.int .i64 x73.2.1) ∧ (cellH h114 (Addr.add (Addr.add a72 (Int.toNat s4.2 * 3)) 2) = some (.int .u32 x73.2.2) ∧ apW Try.prog #[63, 63] #[.slice b111 n112 c113, .slice (some a107) 1 1] (fun b115 n116 c117 h118 =>
  (cellH h118 (Addr.add (Addr.add a72 (Int.toNat s4.2 * 3)) 0) = some (.int .i64 x73.1) ∧ (cellH h118 (Addr.add (Addr.add a72 (Int.toNat s4.2 * 3)) 1) = some (.int .i64 x73.2.1) ∧ (cellH h118 (Addr.add (Addr.add a72 (Int.toNat s4.2 * 3)) 2) = some (.int .u32 x73.2.2) ∧ apW Try.prog #[63, 63] #[.slice b115 n116 c117, .slice b74 n75 c76] (fun b119 n120 c121 h122 =>
  (cellH h122 (Addr.add (Addr.add a72 (Int.toNat s4.2 * 3)) 0) = some (.int .i64 x73.1) ∧ (cellH h122 (Addr.add (Addr.add a72 (Int.toNat s4.2 * 3)) 1) = some (.int .i64 x73.2.1) ∧ (cellH h122 (Addr.add (Addr.add a72 (Int.toNat s4.2 * 3)) 2) = some (.int .u32 x73.2.2) ∧ K3 ((b119, n120, c121), (IntKind.wrap .i64 (s4.2 + (1 : Int)))) h122)))) h118)))) h114)))) h110) h108) h8))) h8))))) (0 : Int) h5)
  (K (.slice s4.1.1 s4.1.2.1 s4.1.2.2) h5)) (((some a1), 0, 0), (0 : Int)) h2) h0)
set_option maxRecDepth 100000 in
theorem F39_eq (policy_0 : Int) (pages_1 : Int) (l_2 : Option Addr) (l_2l l_2c : Nat) (K : Value → Heap → Prop) (h0 : Heap) : funWE Try.prog 39 (.seq (.leaf) (.seq (.leaf) (.seq (.seq (.leaf) (.block (.loop [(7, .sc .slice), (8, .sc (.int .i64))] (.seq (.seq (.leaf) (.cond (.leaf) (.leaf))) (.seq (.block (.seq (.leaf) (.seq (.block (.loop [(9, .sc (.int .i64))] (.seq (.seq (.draw (odp [0, 1, 2, 3, 4, 5, 6, 7, 8, 9, 10, 11, 12, 13, 14, 15, 16] .nil) []) (.cond (.leaf) (.leaf))) (.block (.leaf))))) (.draw (odp [1, 2, 3, 5, 6, 7, 8, 11, 12, 13] (.fork 0 (.fork 4 (odp [9, 10, 14, 15] .nil) (.one 9 (odp [4, 10, 14, 15] .nil))) (.one 9 (odp [0, 4, 10, 14, 15] .nil)))) [200008])))) (.leaf)))))) (.seq (.leaf) (.leaf))))) [.int .i64 policy_0, .int .i64 pages_1, .slice l_2 l_2l l_2c] K h0 = F39 policy_0 pages_1 l_2 l_2l l_2c K h0 := by kernel_rfl

-- function 38
set_option maxRecDepth 100000 in
def F38 (l_0 : Option Addr) (l_0l _l_0c : Nat) (K : Value → Heap → Prop) (h0 : Heap) : Prop := (
  newW (.cells #[] 3) (fun a1 h2 =>
  loopT [.sc .slice, .sc (.int .i64)] (fun (s4 : (Option Addr × Nat × Nat) × Int) _ (K3 : ((Option Addr × Nat × Nat) × Int) → Heap → Prop) h5 =>
  br (decide (s4.2 < (((l_0l : Nat) : Int))))
  (ptrW l_0 (fun a6 =>
  idxW s4.2 l_0l true (ldW (.int .i64) (Addr.add (Addr.add a6 (Int.toNat s4.2 * 3)) 0) (fun (x7 : Int) =>
  newW (.cells #[.int .i64 x7] 3) (fun a8 h9 =>
  apW Try.prog #[36, 36] #[.slice s4.1.1 s4.1.2.1 s4.1.2.2, .slice (some a8) 1 1] (fun b10 n11 c12 h13 =>
  K3 ((b10, n11, c12), (IntKind.wrap .i64 (s4.2 + (1 : Int)))) h13) h9) h5) h5)))
  (K (.slice s4.1.1 s4.1.2.1 s4.1.2.2) h5)) (((some a1), 0, 0), (0 : Int)) h2) h0)
set_option maxRecDepth 100000 in
theorem F38_eq (l_0 : Option Addr) (l_0l l_0c : Nat) (K : Value → Heap → Prop) (h0 : Heap) : funWE Try.prog 38 (.seq (.leaf) (.seq (.leaf) (.seq (.seq (.leaf) (.block (.loop [(3, .sc .slice), (4, .sc (.int .i64))] (.seq (.seq (.leaf) (.cond (.leaf) (.leaf))) (.seq (.block (.leaf)) (.leaf)))))) (.seq (.leaf) (.leaf))))) [.slice l_0 l_0l l_0c] K h0 = F38 l_0 l_0l l_0c K h0 := by kernel_rfl

-- function 41
set_option maxRecDepth 100000 in
def F41 (policy_0 : Int) (pages_1 : Int) (extra_2 : Int) (l_3 : Option Addr) (l_3l l_3c : Nat) (K : Value → Heap → Prop) (h0 : Heap) : Prop := (
  callT Try.prog 39 [.int .i64 policy_0, .int .i64 pages_1, .slice l_3 l_3l l_3c] [.sc .slice] (fun (r1 : (Option Addr × Nat × Nat)) h2 =>
  loopT [.sc (.int .i64), .sc (.int .i64)] (fun (s4 : Int × Int) _ (K3 : (Int × Int) → Heap → Prop) h5 =>
  br (decide (s4.2 ≤ (((r1.2.1 : Nat) : Int))))
  (ptrW r1.1 (fun a6 =>
  idxW (IntKind.wrap .i64 (s4.2 - (1 : Int))) r1.2.1 true (ldW (.int .i64) (Addr.add (Addr.add a6 (Int.toNat (IntKind.wrap .i64 (s4.2 - (1 : Int))) * 3)) 1) (fun (x7 : Int) =>
  loopT [.sc (.int .i64)] (fun (s9 : Int) _ (K8 : Int → Heap → Prop) h10 =>
  br (decide ((IntKind.wrap .i64 (s9 * pages_1)) < (IntKind.wrap .i64 (s4.1 + x7))))
  (K8 (IntKind.wrap .i64 (s9 + (1 : Int))) h10)
  (cutT [.sc .bool] (fun (K11 : Bool → Heap → Prop) h12 =>
  br (decide (s9 < s4.2))
  (K11 (decide (s9 ≤ (3 : Int))) h12)
  (K11 false h12)) (fun (s13 : Bool) _ h14 =>
  br s13
  (slW r1.1 r1.2.2 3 (0 : Int) s4.2 (((r1.2.2 : Nat) : Int)) (fun b15 n16 c17 =>
  callT Try.prog 38 [.slice b15 n16 c17] [.sc .slice] (fun (r18 : (Option Addr × Nat × Nat)) h19 =>
  K (.slice r18.1 r18.2.1 r18.2.2) h19) h14))
  (K3 ((IntKind.wrap .i64 (s4.1 + x7)), (IntKind.wrap .i64 (s4.2 + (1 : Int)))) h14)) h10)) (0 : Int) h5) h5)))
  (br (policy_0 != (0 : Int))
  (callT Try.prog 41 [.int .i64 0, .int .i64 pages_1, .int .i64 extra_2, .slice l_3 l_3l l_3c] [.sc .slice] (fun (r20 : (Option Addr × Nat × Nat)) h21 =>
  K (.slice r20.1 r20.2.1 r20.2.2) h21) h5)
  (K (.slice none 0 0) h5))) (extra_2, (1 : Int)) h2) h0)
set_option maxRecDepth 100000 in
theorem F41_eq (policy_0 : Int) (pages_1 : Int) (extra_2 : Int) (l_3 : Option Addr) (l_3l l_3c : Nat) (K : Value → Heap → Prop) (h0 : Heap) : funWE Try.prog 41 (.seq (.leaf) (.seq (.leaf) (.seq (.leaf) (.seq (.seq (.leaf) (.block (.loop [(10, .sc (.int .i64)), (11, .sc (.int .i64))] (.seq (.seq (.leaf) (.cond (.leaf) (.leaf))) (.seq (.block (.seq (.leaf) (.seq (.leaf) (.seq (.block (.loop [(12, .sc (.int .i64))] (.seq (.seq (.leaf) (.cond (.leaf) (.leaf))) (.block (.leaf))))) (.cut [(45, .sc .bool)] (.leaf) (.cond (.seq (.leaf) (.leaf)) (.leaf))))))) (.leaf)))))) (.seq (.seq (.leaf) (.cond (.seq (.leaf) (.leaf)) (.leaf))) (.seq (.leaf) (.leaf))))))) [.int .i64 policy_0, .int .i64 pages_1, .int .i64 extra_2, .slice l_3 l_3l l_3c] K h0 = F41 policy_0 pages_1 extra_2 l_3 l_3l l_3c K h0 := by kernel_rfl

end Go.Proofs.Yticppjmldlhbiaa.W
