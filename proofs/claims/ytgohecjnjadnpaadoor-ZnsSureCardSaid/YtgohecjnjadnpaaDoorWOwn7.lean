/-
  The formula of an act of the reference of zns. Each formula checked by the kernel. Printed by a program of this repo.
-/
import Derived.Test.YtgohecjnjadnpaaDoorProg
import Derived.Test.YtgohecjnjadnpaaDoorPl
namespace Go.Proofs.YtgohecjnjadnpaaDoor.W
open Go.Pl

-- function 28
set_option maxRecDepth 100000 in
def F28 (d_0 : Addr) (x_1_0 : Int) (x_1_1 : Int) (x_1_2 : Int) (x_1_3 : Option Addr) (x_1_3l x_1_3c : Nat) (x_1_4 : Option Addr) (x_1_4l x_1_4c : Nat) (x_1_5 : Option Addr) (x_1_5l x_1_5c : Nat) (K : Value → Heap → Prop) (h0 : Heap) : Prop := (
  newW (.cells #[.int .i64 x_1_0, .int .i64 x_1_1, .int .i64 x_1_2, .slice x_1_3 x_1_3l x_1_3c, .slice x_1_4 x_1_4l x_1_4c, .slice x_1_5 x_1_5l x_1_5c] 56) (fun a1 h2 =>
  newW (.cells (zeroC Tryd.prog 58) 58) (fun a3 h4 =>
  newW (.cells (zeroC Tryd.prog 58) 58) (fun a5 h6 =>
  cutT [] (fun (K7 : Unit → Heap → Prop) h39 =>
  ldW (.int .i64) (Addr.add a1 0) (fun (x8 : Int) =>
  br (x8 == (0 : Int))
  (ldW (.int .i64) (Addr.add a1 1) (fun (x9 : Int) =>
  ldW .slice (Addr.add a1 3) (fun (x10 : Option Addr × Nat × Nat) =>
  callT Tryd.prog 69 [.pointer (some d_0), .int .i64 x9, .slice x10.1 x10.2.1 x10.2.2] [.sc (.int .i64), .sc (.int .i64)] (fun (r11 : Int × Int) h12 =>
  stW (Addr.add a5 0) (.int .i64 r11.1) (fun h13 =>
  stW (Addr.add a5 1) (.int .i64 r11.2) (fun h14 =>
  K7 () h14) h13) h12) h39) h39) h39)
  (br (x8 == (1 : Int))
  (ldW (.int .i64) (Addr.add a1 1) (fun (x15 : Int) =>
  ldW (.int .i64) (Addr.add a1 2) (fun (x16 : Int) =>
  callT Tryd.prog 70 [.pointer (some d_0), .int .i64 x15, .int .i64 x16] [.sc .slice, .sc (.int .i64)] (fun (r17 : (Option Addr × Nat × Nat) × Int) h18 =>
  stW (Addr.add a5 2) (.slice r17.1.1 r17.1.2.1 r17.1.2.2) (fun h19 =>
  stW (Addr.add a5 1) (.int .i64 r17.2) (fun h20 =>
  K7 () h20) h19) h18) h39) h39) h39)
  (br (x8 == (2 : Int))
  (ldW (.int .i64) (Addr.add a1 1) (fun (x21 : Int) =>
  callT Tryd.prog 71 [.pointer (some d_0), .int .i64 x21] [.sc (.int .i64)] (fun (r22 : Int) h23 =>
  stW (Addr.add a5 1) (.int .i64 r22) (fun h24 =>
  K7 () h24) h23) h39) h39)
  (br (x8 == (3 : Int))
  (ldW (.int .i64) (Addr.add a1 1) (fun (x25 : Int) =>
  callT Tryd.prog 72 [.pointer (some d_0), .int .i64 x25] [.sc (.int .i64)] (fun (r26 : Int) h27 =>
  stW (Addr.add a5 1) (.int .i64 r26) (fun h28 =>
  K7 () h28) h27) h39) h39)
  (br (x8 == (4 : Int))
  (callT Tryd.prog 73 [.pointer (some d_0)] [.sc (.int .i64)] (fun (r29 : Int) h30 =>
  stW (Addr.add a5 1) (.int .i64 r29) (fun h31 =>
  K7 () h31) h30) h39)
  (br (x8 == (5 : Int))
  (ldW (.int .i64) (Addr.add a1 2) (fun (x32 : Int) =>
  callT Tryd.prog 74 [.pointer (some d_0), .int .i64 x32] [] (fun (_r33 : Unit) h34 =>
  K7 () h34) h39) h39)
  (br (x8 == (6 : Int))
  (ldW .slice (Addr.add a1 4) (fun (x35 : Option Addr × Nat × Nat) =>
  ldW .slice (Addr.add a1 5) (fun (x36 : Option Addr × Nat × Nat) =>
  callT Tryd.prog 75 [.pointer (some d_0), .slice x35.1 x35.2.1 x35.2.2, .slice x36.1 x36.2.1 x36.2.2] [] (fun (_r37 : Unit) h38 =>
  K7 () h38) h39) h39) h39)
  (K7 () h39)))))))) h39) (fun (_s40 : Unit) _ h41 =>
  ldAggW [.int .i64, .int .i64, .slice] a5 (fun (x42 : Int × Int × (Option Addr × Nat × Nat)) =>
  stLW a3 [.int .i64 x42.1, .int .i64 x42.2.1, .slice x42.2.2.1 x42.2.2.2.1 x42.2.2.2.2] (fun h43 =>
  ldAggW [.int .i64, .int .i64, .slice] a3 (fun (x44 : Int × Int × (Option Addr × Nat × Nat)) =>
  K (.agg #[.int .i64 x44.1, .int .i64 x44.2.1, .slice x44.2.2.1 x44.2.2.2.1 x44.2.2.2.2]) h43) h43) h41) h41) h6) h4) h2) h0)
set_option maxRecDepth 100000 in
theorem F28_eq (d_0 : Addr) (x_1_0 : Int) (x_1_1 : Int) (x_1_2 : Int) (x_1_3 : Option Addr) (x_1_3l x_1_3c : Nat) (x_1_4 : Option Addr) (x_1_4l x_1_4c : Nat) (x_1_5 : Option Addr) (x_1_5l x_1_5c : Nat) (K : Value → Heap → Prop) (h0 : Heap) : funWE Tryd.prog 28 (.seq (.leaf) (.seq (.leaf) (.cut [] (.seq (.leaf) (.block (.seq (.leaf) (.cond (.leaf) (.seq (.leaf) (.cond (.leaf) (.seq (.leaf) (.cond (.leaf) (.seq (.leaf) (.cond (.leaf) (.seq (.leaf) (.cond (.leaf) (.seq (.leaf) (.cond (.leaf) (.seq (.leaf) (.cond (.leaf) (.leaf))))))))))))))))) (.seq (.leaf) (.leaf))))) [.pointer (some d_0), .agg #[.int .i64 x_1_0, .int .i64 x_1_1, .int .i64 x_1_2, .slice x_1_3 x_1_3l x_1_3c, .slice x_1_4 x_1_4l x_1_4c, .slice x_1_5 x_1_5l x_1_5c]] K h0 = F28 d_0 x_1_0 x_1_1 x_1_2 x_1_3 x_1_3l x_1_3c x_1_4 x_1_4l x_1_4c x_1_5 x_1_5l x_1_5c K h0 := by kernel_rfl

end Go.Proofs.YtgohecjnjadnpaaDoor.W
