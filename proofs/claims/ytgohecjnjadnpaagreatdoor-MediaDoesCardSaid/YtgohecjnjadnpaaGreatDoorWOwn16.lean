/-
  The formula of an act of the reference of media. Each formula checked by the kernel. Printed by a program of this repo.
-/
import Derived.Test.YtgohecjnjadnpaaGreatDoorProg
import Derived.Test.YtgohecjnjadnpaaGreatDoorPl
namespace Go.Proofs.YtgohecjnjadnpaaGreatDoor.W
open Go.Pl

-- function 12
set_option maxRecDepth 100000 in
def F12 (d_0 : Addr) (g_1_0 : Int) (g_1_1 : Int) (g_1_2 : Int) (x_2_0 : Int) (x_2_1 : Int) (x_2_2 : Int) (x_2_3 : Int) (x_2_4 : Int) (x_2_5 : Int) (x_2_6 : Int) (x_2_7 : Option Addr) (x_2_7l x_2_7c : Nat) (x_2_8 : Option Addr) (x_2_8l x_2_8c : Nat) (x_2_9 : Option Addr) (x_2_9l x_2_9c : Nat) (K : Value → Heap → Prop) (h0 : Heap) : Prop := (
  newW (.cells #[.int .i64 g_1_0, .int .i64 g_1_1, .int .i64 g_1_2] 27) (fun a1 h2 =>
  newW (.cells #[.int .i64 x_2_0, .int .i64 x_2_1, .int .u32 x_2_2, .int .u8 x_2_3, .int .u32 x_2_4, .int .u32 x_2_5, .int .u32 x_2_6, .slice x_2_7 x_2_7l x_2_7c, .slice x_2_8 x_2_8l x_2_8c, .slice x_2_9 x_2_9l x_2_9c] 47) (fun a3 h4 =>
  newW (.cells (zeroC Tryz.prog 50) 50) (fun a5 h6 =>
  newW (.cells (zeroC Tryz.prog 50) 50) (fun a7 h8 =>
  cutT [] (fun (K9 : Unit → Heap → Prop) h40 =>
  ldW (.int .i64) (Addr.add a3 0) (fun (x10 : Int) =>
  br (x10 == (0 : Int))
  (ldAggW [.int .i64, .int .i64, .int .i64] a1 (fun (x11 : Int × Int × Int) =>
  ldW (.int .i64) (Addr.add a3 1) (fun (x12 : Int) =>
  ldAggW [.int .u8, .int .u32, .int .u32, .int .u32] (Addr.add a3 3) (fun (x13 : Int × Int × Int × Int) =>
  ldW .slice (Addr.add a3 7) (fun (x14 : Option Addr × Nat × Nat) =>
  callT Tryz.prog 30 [.pointer (some d_0), .agg #[.int .i64 x11.1, .int .i64 x11.2.1, .int .i64 x11.2.2], .int .i64 x12, .agg #[.int .u8 x13.1, .int .u32 x13.2.1, .int .u32 x13.2.2.1, .int .u32 x13.2.2.2], .slice x14.1 x14.2.1 x14.2.2] [.sc (.int .u32), .sc (.int .i64)] (fun (r15 : Int × Int) h16 =>
  stW (Addr.add a7 0) (.int .u32 r15.1) (fun h17 =>
  stW (Addr.add a7 6) (.int .i64 r15.2) (fun h18 =>
  K9 () h18) h17) h16) h40) h40) h40) h40) h40)
  (br (x10 == (1 : Int))
  (ldAggW [.int .i64, .int .i64, .int .i64] a1 (fun (x19 : Int × Int × Int) =>
  ldW (.int .u32) (Addr.add a3 2) (fun (x20 : Int) =>
  callT Tryz.prog 31 [.pointer (some d_0), .agg #[.int .i64 x19.1, .int .i64 x19.2.1, .int .i64 x19.2.2], .int .u32 x20] [.agg [.int .u8, .int .u32, .int .u32, .int .u32], .sc .slice, .sc (.int .i64)] (fun (r21 : (Int × Int × Int × Int) × (Option Addr × Nat × Nat) × Int) h22 =>
  stLW (Addr.add a7 1) [.int .u8 r21.1.1, .int .u32 r21.1.2.1, .int .u32 r21.1.2.2.1, .int .u32 r21.1.2.2.2] (fun h23 =>
  stW (Addr.add a7 5) (.slice r21.2.1.1 r21.2.1.2.1 r21.2.1.2.2) (fun h24 =>
  stW (Addr.add a7 6) (.int .i64 r21.2.2) (fun h25 =>
  K9 () h25) h24) h23) h22) h40) h40) h40)
  (br (x10 == (2 : Int))
  (ldW (.int .i64) (Addr.add a3 1) (fun (x26 : Int) =>
  callT Tryz.prog 32 [.pointer (some d_0), .int .i64 x26] [.sc (.int .i64)] (fun (r27 : Int) h28 =>
  stW (Addr.add a7 6) (.int .i64 r27) (fun h29 =>
  K9 () h29) h28) h40) h40)
  (br (x10 == (3 : Int))
  (callT Tryz.prog 33 [.pointer (some d_0)] [.sc (.int .i64)] (fun (r30 : Int) h31 =>
  stW (Addr.add a7 6) (.int .i64 r30) (fun h32 =>
  K9 () h32) h31) h40)
  (br (x10 == (4 : Int))
  (ldW (.int .i64) (Addr.add a3 1) (fun (x33 : Int) =>
  callT Tryz.prog 34 [.pointer (some d_0), .int .i64 x33] [] (fun (_r34 : Unit) h35 =>
  K9 () h35) h40) h40)
  (br (x10 == (5 : Int))
  (ldW .slice (Addr.add a3 8) (fun (x36 : Option Addr × Nat × Nat) =>
  ldW .slice (Addr.add a3 9) (fun (x37 : Option Addr × Nat × Nat) =>
  callT Tryz.prog 35 [.pointer (some d_0), .slice x36.1 x36.2.1 x36.2.2, .slice x37.1 x37.2.1 x37.2.2] [] (fun (_r38 : Unit) h39 =>
  K9 () h39) h40) h40) h40)
  (K9 () h40))))))) h40) (fun (_s41 : Unit) _ h42 =>
  ldAggW [.int .u32, .int .u8, .int .u32, .int .u32, .int .u32, .slice, .int .i64] a7 (fun (x43 : Int × Int × Int × Int × Int × (Option Addr × Nat × Nat) × Int) =>
  stLW a5 [.int .u32 x43.1, .int .u8 x43.2.1, .int .u32 x43.2.2.1, .int .u32 x43.2.2.2.1, .int .u32 x43.2.2.2.2.1, .slice x43.2.2.2.2.2.1.1 x43.2.2.2.2.2.1.2.1 x43.2.2.2.2.2.1.2.2, .int .i64 x43.2.2.2.2.2.2] (fun h44 =>
  ldAggW [.int .u32, .int .u8, .int .u32, .int .u32, .int .u32, .slice, .int .i64] a5 (fun (x45 : Int × Int × Int × Int × Int × (Option Addr × Nat × Nat) × Int) =>
  K (.agg #[.int .u32 x45.1, .int .u8 x45.2.1, .int .u32 x45.2.2.1, .int .u32 x45.2.2.2.1, .int .u32 x45.2.2.2.2.1, .slice x45.2.2.2.2.2.1.1 x45.2.2.2.2.2.1.2.1 x45.2.2.2.2.2.1.2.2, .int .i64 x45.2.2.2.2.2.2]) h44) h44) h42) h42) h8) h6) h4) h2) h0)
set_option maxRecDepth 100000 in
theorem F12_eq (d_0 : Addr) (g_1_0 : Int) (g_1_1 : Int) (g_1_2 : Int) (x_2_0 : Int) (x_2_1 : Int) (x_2_2 : Int) (x_2_3 : Int) (x_2_4 : Int) (x_2_5 : Int) (x_2_6 : Int) (x_2_7 : Option Addr) (x_2_7l x_2_7c : Nat) (x_2_8 : Option Addr) (x_2_8l x_2_8c : Nat) (x_2_9 : Option Addr) (x_2_9l x_2_9c : Nat) (K : Value → Heap → Prop) (h0 : Heap) : funWE Tryz.prog 12 (.seq (.leaf) (.seq (.leaf) (.cut [] (.seq (.leaf) (.block (.seq (.leaf) (.cond (.leaf) (.seq (.leaf) (.cond (.leaf) (.seq (.leaf) (.cond (.leaf) (.seq (.leaf) (.cond (.leaf) (.seq (.leaf) (.cond (.leaf) (.seq (.leaf) (.cond (.leaf) (.leaf))))))))))))))) (.seq (.leaf) (.leaf))))) [.pointer (some d_0), .agg #[.int .i64 g_1_0, .int .i64 g_1_1, .int .i64 g_1_2], .agg #[.int .i64 x_2_0, .int .i64 x_2_1, .int .u32 x_2_2, .int .u8 x_2_3, .int .u32 x_2_4, .int .u32 x_2_5, .int .u32 x_2_6, .slice x_2_7 x_2_7l x_2_7c, .slice x_2_8 x_2_8l x_2_8c, .slice x_2_9 x_2_9l x_2_9c]] K h0 = F12 d_0 g_1_0 g_1_1 g_1_2 x_2_0 x_2_1 x_2_2 x_2_3 x_2_4 x_2_5 x_2_6 x_2_7 x_2_7l x_2_7c x_2_8 x_2_8l x_2_8c x_2_9 x_2_9l x_2_9c K h0 := by kernel_rfl

end Go.Proofs.YtgohecjnjadnpaaGreatDoor.W
