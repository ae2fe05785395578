/-
  The formulas of package media. Each formula checked by the kernel. Printed by a program of this repo.
-/
import Derived.Test.YtgohecjnjadnpaaDoorProg
import Derived.Test.YtgohecjnjadnpaaDoorPl
namespace Go.Proofs.YtgohecjnjadnpaaDoor.W
open Go.Pl

-- function 83
set_option maxRecDepth 100000 in
def F83 (d_0 : Addr) (g_1_0 : Int) (g_1_1 : Int) (g_1_2 : Int) (K : Value → Heap → Prop) (h0 : Heap) : Prop := (
  newW (.cells #[.int .i64 g_1_0, .int .i64 g_1_1, .int .i64 g_1_2] 85) (fun a1 h2 =>
  ldAggW [.int .i64, .int .i64, .int .i64] a1 (fun (x3 : Int × Int × Int) =>
  callT Tryd.prog 102 [.agg #[.int .i64 x3.1, .int .i64 x3.2.1, .int .i64 x3.2.2]] [.sc .bool] (fun (r4 : Bool) h5 =>
  (br r4
  (ldW (.int .i64) (Addr.add a1 0) (fun (x6 : Int) =>
  callT Tryd.prog 65 [.pointer (some d_0)] [.sc (.int .i64)] (fun (r7 : Int) h8 =>
  (cellH h8 (Addr.add a1 0) = some (.int .i64 x6) ∧ br (r7 == x6)
  (ldW (.int .i64) (Addr.add a1 1) (fun (x9 : Int) =>
  callT Tryd.prog 66 [.pointer (some d_0)] [.sc (.int .i64)] (fun (r10 : Int) h11 =>
  (cellH h11 (Addr.add a1 1) = some (.int .i64 x9) ∧ (cellH h11 (Addr.add a1 0) = some (.int .i64 x6) ∧ K (.bool (r10 == x9)) h11))) h8) h8)
  (K (.bool false) h8))) h5) h5)
  (K (.bool false) h5) ∧ Ext h2 h5)) h2) h2) h0)
set_option maxRecDepth 100000 in
theorem F83_eq (d_0 : Addr) (g_1_0 : Int) (g_1_1 : Int) (g_1_2 : Int) (K : Value → Heap → Prop) (h0 : Heap) : funWE Tryd.prog 83 (.seq (.leaf) (.seq (.draw (odp [0, 1, 2, 3, 5, 6, 4, 7, 8, 9, 10, 12, 13, 11, 14, 15, 16] .nil) [100001, 200006, 200013]) (.leaf))) [.pointer (some d_0), .agg #[.int .i64 g_1_0, .int .i64 g_1_1, .int .i64 g_1_2]] K h0 = F83 d_0 g_1_0 g_1_1 g_1_2 K h0 := by kernel_rfl

-- function 47
set_option maxRecDepth 100000 in
def F47 (d_0 : Addr) (g_1_0 : Int) (g_1_1 : Int) (g_1_2 : Int) (zone_2 : Int) (h_3_0 : Int) (h_3_1 : Int) (h_3_2 : Int) (h_3_3 : Int) (block_4 : Option Addr) (block_4l block_4c : Nat) (K : Value → Heap → Prop) (h0 : Heap) : Prop := (
  newW (.cells #[.int .i64 g_1_0, .int .i64 g_1_1, .int .i64 g_1_2] 85) (fun a1 h2 =>
  newW (.cells #[.int .u8 h_3_0, .int .u32 h_3_1, .int .u32 h_3_2, .int .u32 h_3_3] 24) (fun a3 h4 =>
  ldAggW [.int .i64, .int .i64, .int .i64] a1 (fun (x5 : Int × Int × Int) =>
  callT Tryd.prog 51 [.agg #[.int .i64 x5.1, .int .i64 x5.2.1, .int .i64 x5.2.2], .int .i64 zone_2, .int .i64 0] [.sc (.int .u32)] (fun (r6 : Int) h7 =>
  br (r6 == (0 : Int))
  (callT Tryd.prog 86 [.string ((⟨#[112, 117, 116]⟩ : ByteArray)), .int .i64 zone_2, .iface 31 (.int .i64 1)] [.sc .any] (fun (r8 : Value) h9 =>
  K (.tuple #[.int .u32 0, r8]) h9) h7)
  (ldAggW [.int .u8, .int .u32, .int .u32, .int .u32] a3 (fun (x10 : Int × Int × Int × Int) =>
  callT Tryd.prog 15 [.agg #[.int .u8 x10.1, .int .u32 x10.2.1, .int .u32 x10.2.2.1, .int .u32 x10.2.2.2], .slice block_4 block_4l block_4c] [.sc .slice, .sc .any] (fun (r11 : (Option Addr × Nat × Nat) × Value) h12 =>
  ifW r11.2 (br (!(isNilV r11.2))
  (callT Tryd.prog 86 [.string ((⟨#[112, 117, 116]⟩ : ByteArray)), .int .i64 zone_2, r11.2] [.sc .any] (fun (r13 : Value) h14 =>
  K (.tuple #[.int .u32 0, r13]) h14) h12)
  (callT Tryd.prog 63 [.pointer (some d_0), .int .i64 zone_2, .slice r11.1.1 r11.1.2.1 r11.1.2.2] [.sc (.int .i64), .sc .any] (fun (r15 : Int × Value) h16 =>
  ifW r15.2 (br (!(isNilV r15.2))
  (callT Tryd.prog 86 [.string ((⟨#[112, 117, 116]⟩ : ByteArray)), .int .i64 zone_2, r15.2] [.sc .any] (fun (r17 : Value) h18 =>
  K (.tuple #[.int .u32 0, r17]) h18) h16)
  (ldAggW [.int .i64, .int .i64, .int .i64] a1 (fun (x19 : Int × Int × Int) =>
  callT Tryd.prog 51 [.agg #[.int .i64 x19.1, .int .i64 x19.2.1, .int .i64 x19.2.2], .int .i64 zone_2, .int .i64 r15.1] [.sc (.int .u32)] (fun (r20 : Int) h21 =>
  K (.tuple #[.int .u32 r20, .nilIface]) h21) h16) h16))) h12))) h7) h7)) h4) h4) h2) h0)
set_option maxRecDepth 100000 in
theorem F47_eq (d_0 : Addr) (g_1_0 : Int) (g_1_1 : Int) (g_1_2 : Int) (zone_2 : Int) (h_3_0 : Int) (h_3_1 : Int) (h_3_2 : Int) (h_3_3 : Int) (block_4 : Option Addr) (block_4l block_4c : Nat) (K : Value → Heap → Prop) (h0 : Heap) : funWE Tryd.prog 47 (.seq (.leaf) (.seq (.seq (.leaf) (.cond (.seq (.leaf) (.leaf)) (.leaf))) (.seq (.leaf) (.seq (.seq (.leaf) (.cond (.seq (.leaf) (.leaf)) (.leaf))) (.seq (.leaf) (.seq (.seq (.leaf) (.cond (.seq (.leaf) (.leaf)) (.leaf))) (.seq (.leaf) (.leaf)))))))) [.pointer (some d_0), .agg #[.int .i64 g_1_0, .int .i64 g_1_1, .int .i64 g_1_2], .int .i64 zone_2, .agg #[.int .u8 h_3_0, .int .u32 h_3_1, .int .u32 h_3_2, .int .u32 h_3_3], .slice block_4 block_4l block_4c] K h0 = F47 d_0 g_1_0 g_1_1 g_1_2 zone_2 h_3_0 h_3_1 h_3_2 h_3_3 block_4 block_4l block_4c K h0 := by kernel_rfl

-- function 52
set_option maxRecDepth 100000 in
def F52 (d_0 : Addr) (g_1_0 : Int) (g_1_1 : Int) (g_1_2 : Int) (a_2 : Int) (K : Value → Heap → Prop) (h0 : Heap) : Prop := (
  newW (.cells #[.int .i64 g_1_0, .int .i64 g_1_1, .int .i64 g_1_2] 85) (fun a1 h2 =>
  newW (.cells (zeroC Tryd.prog 24) 24) (fun a3 h4 =>
  ldAggW [.int .i64, .int .i64, .int .i64] a1 (fun (x5 : Int × Int × Int) =>
  callT Tryd.prog 88 [.agg #[.int .i64 x5.1, .int .i64 x5.2.1, .int .i64 x5.2.2], .int .u32 a_2] [.sc (.int .i64), .sc (.int .i64), .sc .bool] (fun (r6 : Int × Int × Bool) h7 =>
  br (!r6.2.2)
  (callT Tryd.prog 86 [.string ((⟨#[103, 101, 116]⟩ : ByteArray)), .int .i64 (IntKind.wrap .i64 a_2), .iface 31 (.int .i64 1)] [.sc .any] (fun (r8 : Value) h9 =>
  stLW a3 [.int .u8 0, .int .u32 0, .int .u32 0, .int .u32 0] (fun h10 =>
  ldAggW [.int .u8, .int .u32, .int .u32, .int .u32] a3 (fun (x11 : Int × Int × Int × Int) =>
  K (.tuple #[.agg #[.int .u8 x11.1, .int .u32 x11.2.1, .int .u32 x11.2.2.1, .int .u32 x11.2.2.2], .slice none 0 0, r8]) h10) h10) h9) h7)
  (callT Tryd.prog 33 [.pointer (some d_0), .int .i64 r6.1, .int .i64 r6.2.1] [.sc .slice, .sc .any] (fun (r12 : (Option Addr × Nat × Nat) × Value) h13 =>
  ifW r12.2 (br (!(isNilV r12.2))
  (callT Tryd.prog 86 [.string ((⟨#[103, 101, 116]⟩ : ByteArray)), .int .i64 (IntKind.wrap .i64 a_2), r12.2] [.sc .any] (fun (r14 : Value) h15 =>
  stLW a3 [.int .u8 0, .int .u32 0, .int .u32 0, .int .u32 0] (fun h16 =>
  ldAggW [.int .u8, .int .u32, .int .u32, .int .u32] a3 (fun (x17 : Int × Int × Int × Int) =>
  K (.tuple #[.agg #[.int .u8 x17.1, .int .u32 x17.2.1, .int .u32 x17.2.2.1, .int .u32 x17.2.2.2], .slice none 0 0, r14]) h16) h16) h15) h13)
  (callT Tryd.prog 17 [.slice r12.1.1 r12.1.2.1 r12.1.2.2] [.agg [.int .u8, .int .u32, .int .u32, .int .u32], .sc .slice, .sc .any] (fun (r18 : (Int × Int × Int × Int) × (Option Addr × Nat × Nat) × Value) h19 =>
  newW (.cells (zeroC Tryd.prog 24) 24) (fun a20 h21 =>
  stLW a20 [.int .u8 r18.1.1, .int .u32 r18.1.2.1, .int .u32 r18.1.2.2.1, .int .u32 r18.1.2.2.2] (fun h22 =>
  ldAggW [.int .u8, .int .u32, .int .u32, .int .u32] a20 (fun (x23 : Int × Int × Int × Int) =>
  callT Tryd.prog 86 [.string ((⟨#[103, 101, 116]⟩ : ByteArray)), .int .i64 (IntKind.wrap .i64 a_2), r18.2.2] [.sc .any] (fun (r24 : Value) h25 =>
  (cellH h25 (Addr.add a20 0) = some (.int .u8 x23.1) ∧ (cellH h25 (Addr.add a20 1) = some (.int .u32 x23.2.1) ∧ (cellH h25 (Addr.add a20 2) = some (.int .u32 x23.2.2.1) ∧ (cellH h25 (Addr.add a20 3) = some (.int .u32 x23.2.2.2) ∧ stLW a3 [.int .u8 x23.1, .int .u32 x23.2.1, .int .u32 x23.2.2.1, .int .u32 x23.2.2.2] (fun h26 =>
  ldAggW [.int .u8, .int .u32, .int .u32, .int .u32] a3 (fun (x27 : Int × Int × Int × Int) =>
  K (.tuple #[.agg #[.int .u8 x27.1, .int .u32 x27.2.1, .int .u32 x27.2.2.1, .int .u32 x27.2.2.2], .slice r18.2.1.1 r18.2.1.2.1 r18.2.1.2.2, r24]) h26) h26) h25))))) h22) h22) h21) h19) h13))) h7)) h4) h4) h2) h0)
set_option maxRecDepth 100000 in
theorem F52_eq (d_0 : Addr) (g_1_0 : Int) (g_1_1 : Int) (g_1_2 : Int) (a_2 : Int) (K : Value → Heap → Prop) (h0 : Heap) : funWE Tryd.prog 52 (.seq (.leaf) (.seq (.leaf) (.seq (.seq (.leaf) (.cond (.seq (.leaf) (.leaf)) (.leaf))) (.seq (.leaf) (.seq (.seq (.leaf) (.cond (.seq (.leaf) (.leaf)) (.leaf))) (.seq (.leaf) (.seq (.draw (odp [0, 1, 2, 3, 4, 5, 6, 7, 8] .nil) [200000]) (.leaf)))))))) [.pointer (some d_0), .agg #[.int .i64 g_1_0, .int .i64 g_1_1, .int .i64 g_1_2], .int .u32 a_2] K h0 = F52 d_0 g_1_0 g_1_1 g_1_2 a_2 K h0 := by kernel_rfl

-- function 85
set_option maxRecDepth 100000 in
def F85 (d_0 : Addr) (g_1_0 : Int) (g_1_1 : Int) (g_1_2 : Int) (K : Value → Heap → Prop) (h0 : Heap) : Prop := (
  newW (.cells #[.pointer (some d_0)] 47) (fun a1 h2 =>
  newW (.cells #[.int .i64 g_1_0, .int .i64 g_1_1, .int .i64 g_1_2] 85) (fun a3 h4 =>
  K (.func (.func 104) #[] #[.pointer (some a3), .pointer (some a1)]) h4) h2) h0)
set_option maxRecDepth 100000 in
theorem F85_eq (d_0 : Addr) (g_1_0 : Int) (g_1_1 : Int) (g_1_2 : Int) (K : Value → Heap → Prop) (h0 : Heap) : funWE Tryd.prog 85 (.seq (.leaf) (.seq (.leaf) (.leaf))) [.pointer (some d_0), .agg #[.int .i64 g_1_0, .int .i64 g_1_1, .int .i64 g_1_2]] K h0 = F85 d_0 g_1_0 g_1_1 g_1_2 K h0 := by kernel_rfl

-- function 104
set_option maxRecDepth 100000 in
def F104 (yield_0 : Nat) (cap_0 : Addr) (cap_1 : Addr) (K : Value → Heap → Prop) (h0 : Heap) : Prop := (
  ldAggW [.int .i64, .int .i64, .int .i64] cap_0 (fun (x1 : Int × Int × Int) =>
  callT Tryd.prog 50 [.agg #[.int .i64 x1.1, .int .i64 x1.2.1, .int .i64 x1.2.2]] [.sc (.int .i64)] (fun (r2 : Int) h3 =>
  loopT [.sc (.int .i64)] (fun (s5 : Int) _ (K4 : Int → Heap → Prop) h6 =>
  br (decide (s5 < r2))
  (ldW .ptr cap_1 (fun (x7 : Option Addr) =>
  callT Tryd.prog 32 [.pointer x7, .int .i64 s5] [.sc (.int .i64)] (fun (r8 : Int) h9 =>
  loopT [.sc (.int .i64)] (fun (s11 : Int) _ (K10 : Int → Heap → Prop) h12 =>
  br (decide (s11 < r8))
  (ldAggW [.int .i64, .int .i64, .int .i64] cap_0 (fun (x13 : Int × Int × Int) =>
  callT Tryd.prog 51 [.agg #[.int .i64 x13.1, .int .i64 x13.2.1, .int .i64 x13.2.2], .int .i64 s5, .int .i64 s11] [.sc (.int .u32)] (fun (r14 : Int) h15 =>
  callW Tryd.prog (.sc .bool) (.func (.yield yield_0) #[] #[]) [.int .u32 r14] (fun (x16 : Bool) h17 =>
  br (!x16)
  (K (.tuple #[]) h17)
  (K10 (IntKind.wrap .i64 (s11 + (1 : Int))) h17)) h15) h12) h12)
  (K4 (IntKind.wrap .i64 (s5 + (1 : Int))) h12)) (0 : Int) h9) h6) h6)
  (K (.tuple #[]) h6)) (0 : Int) h3) h0) h0)
set_option maxRecDepth 100000 in
theorem F104_eq (yield_0 : Nat) (cap_0 : Addr) (cap_1 : Addr) (K : Value → Heap → Prop) (h0 : Heap) : funWE Tryd.prog 104 (.seq (.leaf) (.block (.loop [(8, .sc (.int .i64))] (.seq (.leaf) (.seq (.cond (.leaf) (.leaf)) (.seq (.block (.seq (.leaf) (.seq (.leaf) (.block (.loop [(14, .sc (.int .i64))] (.seq (.leaf) (.seq (.cond (.leaf) (.leaf)) (.seq (.block (.seq (.leaf) (.seq (.leaf) (.cond (.leaf) (.leaf))))) (.leaf))))))))) (.leaf))))))) [.func (.yield yield_0) #[] #[], .pointer (some cap_0), .pointer (some cap_1)] K h0 = F104 yield_0 cap_0 cap_1 K h0 := by kernel_rfl

-- function 46
set_option maxRecDepth 100000 in
def F46 (d_0 : Addr) (g_1_0 : Int) (g_1_1 : Int) (g_1_2 : Int) (K : Value → Heap → Prop) (h0 : Heap) : Prop := (
  newW (.cells #[.pointer (some d_0)] 47) (fun a1 h2 =>
  newW (.cells #[.int .i64 g_1_0, .int .i64 g_1_1, .int .i64 g_1_2] 85) (fun a3 h4 =>
  newW (.cells (zeroC Tryd.prog 95) 95) (fun a5 h6 =>
  ldW .ptr a1 (fun (x7 : Option Addr) =>
  ldAggW [.int .i64, .int .i64, .int .i64] a3 (fun (x8 : Int × Int × Int) =>
  callT Tryd.prog 85 [.pointer x7, .agg #[.int .i64 x8.1, .int .i64 x8.2.1, .int .i64 x8.2.2]] [.sc .any] (fun (r9 : Value) h10 =>
  rfW r9 (fun n42 x43 x44 =>
  rangeW Tryd.prog n42 x43 x44 [.sc (.int .u32)] (fun l11 o12 (s13 : Int) Y14 h15 =>
  roundIn l11 o12 (fun h17 =>
  ldW .ptr a1 (fun (x19 : Option Addr) =>
  ldAggW [.int .i64, .int .i64, .int .i64] a3 (fun (x20 : Int × Int × Int) =>
  callT Tryd.prog 52 [.pointer x19, .agg #[.int .i64 x20.1, .int .i64 x20.2.1, .int .i64 x20.2.2], .int .u32 s13] [.agg [.int .u8, .int .u32, .int .u32, .int .u32], .sc .slice, .sc .any] (fun (r21 : (Int × Int × Int × Int) × (Option Addr × Nat × Nat) × Value) h22 =>
  newW (.cells (zeroC Tryd.prog 24) 24) (fun a23 h24 =>
  stLW a23 [.int .u8 r21.1.1, .int .u32 r21.1.2.1, .int .u32 r21.1.2.2.1, .int .u32 r21.1.2.2.2] (fun h25 =>
  ifW r21.2.2 (br (isNilV r21.2.2)
  (ldW .slice a5 (fun (x26 : Option Addr × Nat × Nat) =>
  ldAggW [.int .u8, .int .u32, .int .u32, .int .u32] a23 (fun (x27 : Int × Int × Int × Int) =>
  newW (.cells #[.int .u32 s13, .int .u8 x27.1, .int .u32 x27.2.1, .int .u32 x27.2.2.1, .int .u32 x27.2.2.2] 109) (fun a28 h29 =>
  apW Tryd.prog #[95, 95] #[.slice x26.1 x26.2.1 x26.2.2, .slice (some a28) 1 1] (fun b30 n31 c32 h33 =>
  stW a5 (.slice b30 n31 c32) (fun h34 =>
  roundEnd l11 o12.rdy (Y14 true) h34) h33) h29) h25) h25) h25)
  (roundEnd l11 o12.rdy (Y14 true) h25))) h24) h22) h17) h17) h17) h15) (fun l40 o41 h35 =>
  (roundDone l40 o41.rdy (fun h36 =>
  ldW .slice a5 (fun (x37 : Option Addr × Nat × Nat) =>
  (∀ h38, Taken h0.size h36 h38 →
  K (.slice x37.1 x37.2.1 x37.2.2) h38)) h36) h35) ∨
  (roundDone l40 (o41.dn .ret) (fun h36 =>
  (∀ h39, Taken h0.size h36 h39 →
  K (.slice none 0 0) h39)) h35) ∨ False) h10)) h6) h6) h6) h4) h2) h0)
set_option maxRecDepth 100000 in
theorem F46_eq (d_0 : Addr) (g_1_0 : Int) (g_1_1 : Int) (g_1_2 : Int) (K : Value → Heap → Prop) (h0 : Heap) : funWE Tryd.prog 46 (.seq (.leaf) (.seq (.leaf) (.seq (.seq (.leaf) (.block (.range [.sc (.int .u32)] [] (.leaf) (.block (.seq (.leaf) (.seq (.leaf) (.cond (.leaf) (.leaf)))))))) (.seq (.leaf) (.leaf))))) [.pointer (some d_0), .agg #[.int .i64 g_1_0, .int .i64 g_1_1, .int .i64 g_1_2]] K h0 = F46 d_0 g_1_0 g_1_1 g_1_2 K h0 := by kernel_rfl

end Go.Proofs.YtgohecjnjadnpaaDoor.W
