/-
  The formula of the law of valid. Each formula checked by the kernel. Printed by a program of this repo.
-/
import Derived.Test.YticppjmldlhbiaaDoorProg
import Derived.Test.YticppjmldlhbiaaDoorPl
namespace Go.Proofs.YticppjmldlhbiaaDoor.W
open Go.Pl

-- function 3
set_option maxRecDepth 100000 in
def F3 (g_0_0 : Int) (g_0_1 : Int) (g_0_2 : Int) (l_1 : Option Addr) (l_1l _l_1c : Nat) (a_2 : Int) (zone_3 : Int) (K : Value → Heap → Prop) (h0 : Heap) : Prop := (
  newW (.cells #[.int .i64 g_0_0, .int .i64 g_0_1, .int .i64 g_0_2] 23) (fun a1 h2 =>
  callT Tryd.prog 5 [] [.sc .bool] (fun (r3 : Bool) h4 =>
  br (!r3)
  (K (.bool false) h4)
  (br (decide ((((l_1l : Nat) : Int)) > (300 : Int)))
  (K (.bool true) h4)
  (ldAggW [.int .i64, .int .i64, .int .i64] a1 (fun (x5 : Int × Int × Int) =>
  callT Tryd.prog 6 [.agg #[.int .i64 x5.1, .int .i64 x5.2.1, .int .i64 x5.2.2]] [.sc .ptr, .sc .any] (fun (r6 : (Option Addr) × Value) h7 =>
  ldAggW [.int .i64, .int .i64, .int .i64] a1 (fun (x8 : Int × Int × Int) =>
  callT Tryd.prog 7 [.agg #[.int .i64 x8.1, .int .i64 x8.2.1, .int .i64 x8.2.2]] [.sc .ptr, .sc (.int .i64)] (fun (r9 : (Option Addr) × Int) h10 =>
  cutT [] (fun (K11 : Unit → Heap → Prop) h14 =>
  callT Tryd.prog 8 [r6.2] [.sc (.int .i64)] (fun (r12 : Int) h13 =>
  br (r12 != r9.2)
  (K (.bool false) h13)
  (br (!((Option.isNone r6.1) == (Option.isNone r9.1)))
  (K (.bool false) h13)
  (K11 () h13))) h14) (fun (_s15 : Unit) _ h16 =>
  br (Option.isNone r6.1)
  (K (.bool true) h16)
  (loopT [.sc (.int .i64)] (fun (s18 : Int) _ (K17 : Int → Heap → Prop) h19 =>
  br (decide (s18 < (((l_1l : Nat) : Int))))
  (ptrW l_1 (fun a20 =>
  idxW s18 l_1l true (ldAggW [.int .i64, .int .u32] (Addr.add a20 (Int.toNat s18 * 2)) (fun (x21 : Int × Int) =>
  newW (.cells (zeroC Tryd.prog 39) 39) (fun a22 h23 =>
  stLW a22 [.int .i64 x21.1, .int .u32 x21.2] (fun h24 =>
  cutT [.sc .bool] (fun (K25 : Bool → Heap → Prop) h39 =>
  ldW (.int .i64) (Addr.add a22 0) (fun (x26 : Int) =>
  br (x26 == (0 : Int))
  (ldW (.int .u32) (Addr.add a22 1) (fun (x27 : Int) =>
  ldW (.int .u32) (Addr.add a22 1) (fun (x28 : Int) =>
  callT Tryd.prog 9 [.pointer r6.1, .int .u32 x27] [.sc .bool] (fun (r29 : Bool) h30 =>
  (cellH h30 (Addr.add a22 1) = some (.int .u32 x28) ∧ callT Tryd.prog 10 [.pointer r9.1, .int .u32 x28] [.sc .bool] (fun (r31 : Bool) h32 =>
  K25 (r29 == r31) h32) h30)) h39) h39) h39)
  (br (x26 == (1 : Int))
  (ldW (.int .u32) (Addr.add a22 1) (fun (x33 : Int) =>
  ldW (.int .u32) (Addr.add a22 1) (fun (x34 : Int) =>
  callT Tryd.prog 11 [.pointer r6.1, .int .u32 x33] [.sc .bool] (fun (r35 : Bool) h36 =>
  (cellH h36 (Addr.add a22 1) = some (.int .u32 x34) ∧ callT Tryd.prog 12 [.pointer r9.1, .int .u32 x34] [.sc .bool] (fun (r37 : Bool) h38 =>
  K25 (r35 == r37) h38) h36)) h39) h39) h39)
  (K25 true h39))) h39) (fun (s40 : Bool) _ h41 =>
  br (!s40)
  (K (.bool false) h41)
  (callT Tryd.prog 13 [.pointer r6.1, .int .u32 a_2] [.sc .bool] (fun (r42 : Bool) h43 =>
  callT Tryd.prog 14 [.pointer r9.1, .int .u32 a_2] [.sc .bool] (fun (r44 : Bool) h45 =>
  br (!(r42 == r44))
  (K (.bool false) h45)
  (ldW (.int .u32) (Addr.add a22 1) (fun (x46 : Int) =>
  ldW (.int .u32) (Addr.add a22 1) (fun (x47 : Int) =>
  callT Tryd.prog 13 [.pointer r6.1, .int .u32 x46] [.sc .bool] (fun (r48 : Bool) h49 =>
  (cellH h49 (Addr.add a22 1) = some (.int .u32 x47) ∧ callT Tryd.prog 14 [.pointer r9.1, .int .u32 x47] [.sc .bool] (fun (r50 : Bool) h51 =>
  br (!(r48 == r50))
  (K (.bool false) h51)
  (ptrW r9.1 (fun a52 =>
  ldW .slice (Addr.add a52 3) (fun (x53 : Option Addr × Nat × Nat) =>
  callT Tryd.prog 15 [.pointer r6.1] [.sc (.int .i64)] (fun (r54 : Int) h55 =>
  (cellH h55 (Addr.add a52 3) = some (.slice x53.1 x53.2.1 x53.2.2) ∧ br (r54 != (((x53.2.1 : Nat) : Int)))
  (K (.bool false) h55)
  (K17 (IntKind.wrap .i64 (s18 + (1 : Int))) h55))) h51) h51))) h49)) h45) h45) h45)) h43) h41)) h24) h23) h19) h19)))
  (callT Tryd.prog 16 [.pointer r6.1, .int .i64 zone_3] [.sc (.int .i64)] (fun (r56 : Int) h57 =>
  callT Tryd.prog 17 [.pointer r9.1, .int .i64 zone_3] [.sc .slice] (fun (r58 : (Option Addr × Nat × Nat)) h59 =>
  br (r56 == (((r58.2.1 : Nat) : Int)))
  (callT Tryd.prog 19 [.pointer r6.1, .int .i64 zone_3] [.sc .slice] (fun (r60 : (Option Addr × Nat × Nat)) h61 =>
  callT Tryd.prog 17 [.pointer r9.1, .int .i64 zone_3] [.sc .slice] (fun (r62 : (Option Addr × Nat × Nat)) h63 =>
  callT Tryd.prog 18 [.slice r60.1 r60.2.1 r60.2.2, .slice r62.1 r62.2.1 r62.2.2] [.sc .bool] (fun (r64 : Bool) h65 =>
  br r64
  (callT Tryd.prog 21 [.pointer r6.1] [.sc .slice] (fun (r66 : (Option Addr × Nat × Nat)) h67 =>
  callT Tryd.prog 22 [.pointer r9.1] [.sc .slice] (fun (r68 : (Option Addr × Nat × Nat)) h69 =>
  callT Tryd.prog 20 [.slice r66.1 r66.2.1 r66.2.2, .slice r68.1 r68.2.1 r68.2.2] [.sc .bool] (fun (r70 : Bool) h71 =>
  K (.bool r70) h71) h69) h67) h65)
  (K (.bool false) h65)) h63) h61) h59)
  (K (.bool false) h59)) h57) h19)) (0 : Int) h16)) h10) h7) h7) h4) h4))) h2) h0)
set_option maxRecDepth 100000 in
theorem F3_eq (g_0_0 : Int) (g_0_1 : Int) (g_0_2 : Int) (l_1 : Option Addr) (l_1l l_1c : Nat) (a_2 : Int) (zone_3 : Int) (K : Value → Heap → Prop) (h0 : Heap) : funWE Tryd.prog 3 (.seq (.leaf) (.seq (.seq (.leaf) (.cond (.seq (.leaf) (.leaf)) (.leaf))) (.seq (.seq (.leaf) (.cond (.seq (.leaf) (.leaf)) (.leaf))) (.seq (.leaf) (.seq (.leaf) (.cut [] (.seq (.leaf) (.cond (.seq (.leaf) (.leaf)) (.leaf))) (.seq (.seq (.leaf) (.cond (.seq (.leaf) (.leaf)) (.leaf))) (.seq (.seq (.leaf) (.block (.loop [(46, .sc (.int .i64))] (.seq (.leaf) (.seq (.cond (.leaf) (.leaf)) (.seq (.block (.seq (.leaf) (.seq (.leaf) (.cut [(15, .sc .bool)] (.seq (.leaf) (.block (.seq (.leaf) (.cond (.draw (odp [0, 1, 2, 4, 5, 6, 3, 7, 8, 9] .nil) [200006]) (.seq (.leaf) (.cond (.draw (odp [0, 1, 2, 4, 5, 6, 3, 7, 8, 9] .nil) [200006]) (.leaf))))))) (.seq (.draw (odp [0, 1, 2, 3, 4, 6, 7, 5, 8, 9, 10, 11, 12, 13, 14, 16, 17, 18, 15, 19, 20, 21, 22, 23, 25, 26, 27, 28, 29, 24, 30, 31] .nil) [200018, 200028]) (.cond (.seq (.leaf) (.leaf)) (.leaf))))))) (.leaf))))))) (.seq (.leaf) (.leaf)))))))))) [.agg #[.int .i64 g_0_0, .int .i64 g_0_1, .int .i64 g_0_2], .slice l_1 l_1l l_1c, .int .u32 a_2, .int .i64 zone_3] K h0 = F3 g_0_0 g_0_1 g_0_2 l_1 l_1l l_1c a_2 zone_3 K h0 := by kernel_rfl

end Go.Proofs.YticppjmldlhbiaaDoor.W
