/-
  The formulas of package fault. Each formula checked by the kernel. Printed by a program of this repo.
-/
import Derived.Test.YtogeildomhahjaaDoorProg
import Derived.Test.YtogeildomhahjaaDoorPl
namespace Go.Proofs.YtogeildomhahjaaDoor.W
open Go.Pl

-- function 45
set_option maxRecDepth 100000 in
def F45 (op_0 : ByteArray) (at_1 : Int) (err_2 : Value) (K : Value → Heap → Prop) (h0 : Heap) : Prop := (
  cutT [] (fun (K1 : Unit → Heap → Prop) h7 =>
  ifW err_2 (br (isNilV err_2)
  (K (.nilIface) h7)
  (cutT [.sc .bool, .sc (.int .i64)] (fun (K2 : (Bool × Int) → Heap → Prop) h4 =>
  asW (.sc (.int .i64)) err_2 31 (fun (x3 : Int) =>
  K2 (true, x3) h4) (K2 (false, (0 : Int)) h4)) (fun (s5 : Bool × Int) _ h6 =>
  br s5.1
  (br (s5.2 == (0 : Int))
  (K (.nilIface) h6)
  (K1 () h6))
  (K1 () h6)) h7))) (fun (_s8 : Unit) _ h9 =>
  buildA Tryd.prog 92 [.str, .int .i64, .any] [(0, .string op_0), (1, .int .i64 at_1), (2, err_2)] (fun (x10 : ByteArray × Int × Value) =>
  newW (.cells #[.string x10.1, .int .i64 x10.2.1, x10.2.2] 92) (fun a11 h12 =>
  K (.iface 90 (.pointer (some a11))) h12) h9)) h0)
set_option maxRecDepth 100000 in
theorem F45_eq (op_0 : ByteArray) (at_1 : Int) (err_2 : Value) (K : Value → Heap → Prop) (h0 : Heap) : funWE Tryd.prog 45 (.seq (.leaf) (.cut [] (.seq (.leaf) (.block (.seq (.leaf) (.cond (.seq (.leaf) (.seq (.leaf) (.leaf))) (.cut [(12, .sc .bool), (13, .sc (.int .i64))] (.leaf) (.cond (.seq (.leaf) (.seq (.leaf) (.cond (.seq (.leaf) (.leaf)) (.leaf)))) (.leaf))))))) (.seq (.leaf) (.leaf)))) [.string op_0, .int .i64 at_1, err_2] K h0 = F45 op_0 at_1 err_2 K h0 := by kernel_rfl

-- function 44
set_option maxRecDepth 100000 in
def F44 (err_0 : Value) (e_1 : Int) (K : Value → Heap → Prop) (h0 : Heap) : Prop := (
  br (e_1 != (0 : Int))
  (callT Tryd.prog 53 [err_0, .iface 31 (.int .i64 e_1)] [.sc .bool] (fun (r1 : Bool) h2 =>
  K (.bool r1) h2) h0)
  (K (.bool false) h0))
set_option maxRecDepth 100000 in
theorem F44_eq (err_0 : Value) (e_1 : Int) (K : Value → Heap → Prop) (h0 : Heap) : funWE Tryd.prog 44 (.seq (.leaf) (.seq (.leaf) (.leaf))) [err_0, .int .i64 e_1] K h0 = F44 err_0 e_1 K h0 := by kernel_rfl

-- function 42
set_option maxRecDepth 100000 in
def F42 (err_0 : Value) (K : Value → Heap → Prop) (h0 : Heap) : Prop := (
  newW (.cells (zeroC Tryd.prog 90) 90) (fun a1 h2 =>
  loopT [.sc .any, .sc .slice] (fun (s4 : Value × (Option Addr × Nat × Nat)) _ (K3 : (Value × (Option Addr × Nat × Nat)) → Heap → Prop) h5 =>
  callT Tryd.prog 51 [s4.1, .iface 106 (.pointer (some a1))] [.sc .bool] (fun (r6 : Bool) h7 =>
  br r6
  (ldW .ptr a1 (fun (x8 : Option Addr) =>
  ptrW x8 (fun a9 =>
  ldW .str (Addr.add a9 0) (fun (x10 : ByteArray) =>
  newW (.cells #[.string x10] 9) (fun a11 h12 =>
  apW Tryd.prog #[81, 81] #[.slice s4.2.1 s4.2.2.1 s4.2.2.2, .slice (some a11) 1 1] (fun b13 n14 c15 h16 =>
  ldW .ptr a1 (fun (x17 : Option Addr) =>
  ptrW x17 (fun a18 =>
  ldW .any (Addr.add a18 2) (fun (x19 : Value) =>
  K3 (x19, (b13, n14, c15)) h16) h16)) h16) h12) h7) h7)) h7)
  (K (.slice s4.2.1 s4.2.2.1 s4.2.2.2) h7)) h5) (err_0, (none, 0, 0)) h2) h0)
set_option maxRecDepth 100000 in
theorem F42_eq (err_0 : Value) (K : Value → Heap → Prop) (h0 : Heap) : funWE Tryd.prog 42 (.seq (.leaf) (.seq (.leaf) (.seq (.leaf) (.seq (.block (.loop [(0, .sc .any), (3, .sc .slice)] (.seq (.seq (.leaf) (.cond (.leaf) (.leaf))) (.block (.seq (.leaf) (.leaf)))))) (.seq (.leaf) (.leaf)))))) [err_0] K h0 = F42 err_0 K h0 := by kernel_rfl

-- function 39
set_option maxRecDepth 100000 in
def F39 (err_0 : Value) (op_1 : ByteArray) (K : Value → Heap → Prop) (h0 : Heap) : Prop := (
  newW (.cells (zeroC Tryd.prog 90) 90) (fun a1 h2 =>
  loopT [.sc .any] (fun (s4 : Value) _ (K3 : Value → Heap → Prop) h5 =>
  callT Tryd.prog 51 [s4, .iface 106 (.pointer (some a1))] [.sc .bool] (fun (r6 : Bool) h7 =>
  br r6
  (ldW .ptr a1 (fun (x8 : Option Addr) =>
  ptrW x8 (fun a9 =>
  ldW .str (Addr.add a9 0) (fun (x10 : ByteArray) =>
  br (x10.toList == op_1.toList)
  (ldW .ptr a1 (fun (x11 : Option Addr) =>
  ptrW x11 (fun a12 =>
  ldW (.int .i64) (Addr.add a12 1) (fun (x13 : Int) =>
  K (.tuple #[.int .i64 x13, .bool true]) h7) h7)) h7)
  (ldW .ptr a1 (fun (x14 : Option Addr) =>
  ptrW x14 (fun a15 =>
  ldW .any (Addr.add a15 2) (fun (x16 : Value) =>
  K3 x16 h7) h7)) h7)) h7)) h7)
  (K (.tuple #[.int .i64 0, .bool false]) h7)) h5) err_0 h2) h0)
set_option maxRecDepth 100000 in
theorem F39_eq (err_0 : Value) (op_1 : ByteArray) (K : Value → Heap → Prop) (h0 : Heap) : funWE Tryd.prog 39 (.seq (.leaf) (.seq (.leaf) (.seq (.block (.loop [(0, .sc .any)] (.seq (.seq (.leaf) (.cond (.leaf) (.leaf))) (.block (.seq (.seq (.leaf) (.cond (.seq (.leaf) (.leaf)) (.leaf))) (.leaf)))))) (.seq (.leaf) (.leaf))))) [err_0, .string op_1] K h0 = F39 err_0 op_1 K h0 := by kernel_rfl

-- function 46
set_option maxRecDepth 100000 in
def F46 (f_0 : Addr) (K : Value → Heap → Prop) (h0 : Heap) : Prop := (
  ldW .any (Addr.add f_0 2) (fun (x1 : Value) =>
  K (x1) h0) h0)
set_option maxRecDepth 100000 in
theorem F46_eq (f_0 : Addr) (K : Value → Heap → Prop) (h0 : Heap) : funWE Tryd.prog 46 (.seq (.leaf) (.seq (.leaf) (.leaf))) [.pointer (some f_0)] K h0 = F46 f_0 K h0 := by kernel_rfl

-- function 47
set_option maxRecDepth 100000 in
def F47 (f_0 : Addr) (K : Value → Heap → Prop) (h0 : Heap) : Prop := (
  ldW (.int .i64) (Addr.add f_0 1) (fun (x1 : Int) =>
  ldW .str (Addr.add f_0 0) (fun (x2 : ByteArray) =>
  (x2.size + ((⟨#[32]⟩ : ByteArray)).size ≤ 9223372036854775807 ∧ ldW .any (Addr.add f_0 2) (fun (x3 : Value) =>
  callT Tryd.prog 54 [.int .i64 x1] [.sc .str] (fun (r4 : ByteArray) h5 =>
  (cellH h5 (Addr.add f_0 2) = some (x3) ∧ (cellH h5 (Addr.add f_0 0) = some (.string x2) ∧ ((x2 ++ ((⟨#[32]⟩ : ByteArray))).size + r4.size ≤ 9223372036854775807 ∧ (((x2 ++ ((⟨#[32]⟩ : ByteArray))) ++ r4).size + ((⟨#[58, 32]⟩ : ByteArray)).size ≤ 9223372036854775807 ∧ callT Tryd.prog 55 [x3] [.sc .str] (fun (r6 : ByteArray) h7 =>
  (cellH h7 (Addr.add f_0 2) = some (x3) ∧ (cellH h7 (Addr.add f_0 0) = some (.string x2) ∧ ((((x2 ++ ((⟨#[32]⟩ : ByteArray))) ++ r4) ++ ((⟨#[58, 32]⟩ : ByteArray))).size + r6.size ≤ 9223372036854775807 ∧ K (.string ((((x2 ++ ((⟨#[32]⟩ : ByteArray))) ++ r4) ++ ((⟨#[58, 32]⟩ : ByteArray))) ++ r6)) h7)))) h5))))) h0) h0)) h0) h0)
set_option maxRecDepth 100000 in
theorem F47_eq (f_0 : Addr) (K : Value → Heap → Prop) (h0 : Heap) : funWE Tryd.prog 47 (.seq (.leaf) (.seq (.draw [0, 1, 2, 5, 6, 7, 8, 12, 13, 14, 3, 4, 15, 9, 10, 11, 16, 17, 18] [200003, 200015]) (.leaf))) [.pointer (some f_0)] K h0 = F47 f_0 K h0 := by kernel_rfl

-- function 55
set_option maxRecDepth 100000 in
def F55 (err_0 : Value) (K : Value → Heap → Prop) (h0 : Heap) : Prop := (
  cutT [.sc .bool, .sc .ptr] (fun (K1 : (Bool × (Option Addr)) → Heap → Prop) h3 =>
  asW (.sc .ptr) err_0 90 (fun (x2 : Option Addr) =>
  K1 (true, x2) h3) (K1 (false, none) h3)) (fun (s4 : Bool × (Option Addr)) _ h5 =>
  br s4.1
  (callT Tryd.prog 47 [.pointer s4.2] [.sc .str] (fun (r6 : ByteArray) h7 =>
  K (.string r6) h7) h5)
  (cutT [.sc .bool, .sc (.int .i64)] (fun (K8 : (Bool × Int) → Heap → Prop) h10 =>
  asW (.sc (.int .i64)) err_0 31 (fun (x9 : Int) =>
  K8 (true, x9) h10) (K8 (false, (0 : Int)) h10)) (fun (s11 : Bool × Int) _ h12 =>
  br s11.1
  (callT Tryd.prog 64 [.int .i64 s11.2] [.sc .str] (fun (r13 : ByteArray) h14 =>
  K (.string r13) h14) h12)
  (K (.string ((⟨#[]⟩ : ByteArray))) h12)) h5)) h0)
set_option maxRecDepth 100000 in
theorem F55_eq (err_0 : Value) (K : Value → Heap → Prop) (h0 : Heap) : funWE Tryd.prog 55 (.seq (.leaf) (.seq (.seq (.leaf) (.block (.cut [(7, .sc .bool), (8, .sc .ptr)] (.leaf) (.cond (.seq (.leaf) (.seq (.leaf) (.leaf))) (.cut [(12, .sc .bool), (13, .sc (.int .i64))] (.leaf) (.cond (.seq (.leaf) (.seq (.leaf) (.leaf))) (.leaf))))))) (.seq (.leaf) (.leaf)))) [err_0] K h0 = F55 err_0 K h0 := by kernel_rfl

end Go.Proofs.YtogeildomhahjaaDoor.W
