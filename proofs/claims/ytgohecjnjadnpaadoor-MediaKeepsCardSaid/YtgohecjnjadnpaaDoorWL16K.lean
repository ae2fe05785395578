/-
  The formula of MediaKeeps. Each formula checked by the kernel. Printed by a program of this repo.
-/
import Derived.Test.YtgohecjnjadnpaaDoorProg
import Derived.Test.YtgohecjnjadnpaaDoorPl
namespace Go.Proofs.YtgohecjnjadnpaaDoor.W
open Go.Pl

-- function 13
set_option maxRecDepth 100000 in
def F13 (g_0_0 : Int) (g_0_1 : Int) (g_0_2 : Int) (l_1 : Option Addr) (l_1l l_1c : Nat) (K : Value → Heap → Prop) (h0 : Heap) : Prop := (
  newW (.cells #[.int .i64 g_0_0, .int .i64 g_0_1, .int .i64 g_0_2] 85) (fun a1 h2 =>
  callT Tryd.prog 42 [] [.sc .bool] (fun (r3 : Bool) h4 =>
  br (!r3)
  (K (.bool false) h4)
  (cutT [] (fun (K5 : Unit → Heap → Prop) h11 =>
  ldAggW [.int .i64, .int .i64, .int .i64] a1 (fun (x6 : Int × Int × Int) =>
  callT Tryd.prog 43 [.agg #[.int .i64 x6.1, .int .i64 x6.2.1, .int .i64 x6.2.2]] [.sc .bool] (fun (r7 : Bool) h8 =>
  br (!r7)
  (K (.bool true) h8)
  (callT Tryd.prog 44 [.slice l_1 l_1l l_1c] [.sc .bool] (fun (r9 : Bool) h10 =>
  br r9
  (K (.bool true) h10)
  (K5 () h10)) h8)) h11) h11) (fun (_s12 : Unit) _ h13 =>
  ldW (.int .i64) (Addr.add a1 0) (fun (x14 : Int) =>
  ldW (.int .i64) (Addr.add a1 1) (fun (x15 : Int) =>
  callT Tryd.prog 25 [.int .i64 x14, .int .i64 x15] [.sc .ptr, .sc .any] (fun (r16 : (Option Addr) × Value) h17 =>
  br (Option.isNone r16.1)
  (K (.bool false) h17)
  (mkmW Tryd.prog 105 (fun r18 h19 =>
  loopT [.sc (.int .i64)] (fun (s21 : Int) _ (K20 : Int → Heap → Prop) h22 =>
  br (decide (s21 < (((l_1l : Nat) : Int))))
  (ptrW l_1 (fun a23 =>
  idxW s21 l_1l true (ldAggW [.int .i64, .int .i64, .int .u32, .int .u8, .int .u32, .int .u32, .int .u32, .slice, .slice, .slice] (Addr.add a23 (Int.toNat s21 * 10)) (fun (x24 : Int × Int × Int × Int × Int × Int × Int × (Option Addr × Nat × Nat) × (Option Addr × Nat × Nat) × (Option Addr × Nat × Nat)) =>
  newW (.cells (zeroC Tryd.prog 88) 88) (fun a25 h26 =>
  stLW a25 [.int .i64 x24.1, .int .i64 x24.2.1, .int .u32 x24.2.2.1, .int .u8 x24.2.2.2.1, .int .u32 x24.2.2.2.2.1, .int .u32 x24.2.2.2.2.2.1, .int .u32 x24.2.2.2.2.2.2.1, .slice x24.2.2.2.2.2.2.2.1.1 x24.2.2.2.2.2.2.2.1.2.1 x24.2.2.2.2.2.2.2.1.2.2, .slice x24.2.2.2.2.2.2.2.2.1.1 x24.2.2.2.2.2.2.2.2.1.2.1 x24.2.2.2.2.2.2.2.2.1.2.2, .slice x24.2.2.2.2.2.2.2.2.2.1 x24.2.2.2.2.2.2.2.2.2.2.1 x24.2.2.2.2.2.2.2.2.2.2.2] (fun h27 =>
  ldAggW [.int .i64, .int .i64, .int .i64] a1 (fun (x28 : Int × Int × Int) =>
  ldAggW [.int .i64, .int .i64, .int .u32, .int .u8, .int .u32, .int .u32, .int .u32, .slice, .slice, .slice] a25 (fun (x29 : Int × Int × Int × Int × Int × Int × Int × (Option Addr × Nat × Nat) × (Option Addr × Nat × Nat) × (Option Addr × Nat × Nat)) =>
  callT Tryd.prog 45 [.pointer r16.1, .agg #[.int .i64 x28.1, .int .i64 x28.2.1, .int .i64 x28.2.2], .agg #[.int .i64 x29.1, .int .i64 x29.2.1, .int .u32 x29.2.2.1, .int .u8 x29.2.2.2.1, .int .u32 x29.2.2.2.2.1, .int .u32 x29.2.2.2.2.2.1, .int .u32 x29.2.2.2.2.2.2.1, .slice x29.2.2.2.2.2.2.2.1.1 x29.2.2.2.2.2.2.2.1.2.1 x29.2.2.2.2.2.2.2.1.2.2, .slice x29.2.2.2.2.2.2.2.2.1.1 x29.2.2.2.2.2.2.2.2.1.2.1 x29.2.2.2.2.2.2.2.2.1.2.2, .slice x29.2.2.2.2.2.2.2.2.2.1 x29.2.2.2.2.2.2.2.2.2.2.1 x29.2.2.2.2.2.2.2.2.2.2.2]] [.agg [.int .u32, .int .u8, .int .u32, .int .u32, .int .u32, .slice, .int .i64]] (fun (r30 : (Int × Int × Int × Int × Int × (Option Addr × Nat × Nat) × Int)) h31 =>
  newW (.cells (zeroC Tryd.prog 93) 93) (fun a32 h33 =>
  stLW a32 [.int .u32 r30.1, .int .u8 r30.2.1, .int .u32 r30.2.2.1, .int .u32 r30.2.2.2.1, .int .u32 r30.2.2.2.2.1, .slice r30.2.2.2.2.2.1.1 r30.2.2.2.2.2.1.2.1 r30.2.2.2.2.2.1.2.2, .int .i64 r30.2.2.2.2.2.2] (fun h34 =>
  cutT [] (fun (K35 : Unit → Heap → Prop) h41 =>
  ldW (.int .i64) (Addr.add a25 0) (fun (x36 : Int) =>
  br (x36 == (0 : Int))
  (ldW (.int .i64) (Addr.add a32 6) (fun (x37 : Int) =>
  br (x37 == (0 : Int))
  (ldW (.int .u32) (Addr.add a32 0) (fun (x38 : Int) =>
  ldAggW [.int .i64, .int .i64, .int .u32, .int .u8, .int .u32, .int .u32, .int .u32, .slice, .slice, .slice] a25 (fun (x39 : Int × Int × Int × Int × Int × Int × Int × (Option Addr × Nat × Nat) × (Option Addr × Nat × Nat) × (Option Addr × Nat × Nat)) =>
  muW Tryd.prog 105 (.map r18) (.int .u32 x38) (.agg #[.int .i64 x39.1, .int .i64 x39.2.1, .int .u32 x39.2.2.1, .int .u8 x39.2.2.2.1, .int .u32 x39.2.2.2.2.1, .int .u32 x39.2.2.2.2.2.1, .int .u32 x39.2.2.2.2.2.2.1, .slice x39.2.2.2.2.2.2.2.1.1 x39.2.2.2.2.2.2.2.1.2.1 x39.2.2.2.2.2.2.2.1.2.2, .slice x39.2.2.2.2.2.2.2.2.1.1 x39.2.2.2.2.2.2.2.2.1.2.1 x39.2.2.2.2.2.2.2.2.1.2.2, .slice x39.2.2.2.2.2.2.2.2.2.1 x39.2.2.2.2.2.2.2.2.2.2.1 x39.2.2.2.2.2.2.2.2.2.2.2]) (fun h40 =>
  K35 () h40) h41) h41) h41)
  (K35 () h41)) h41)
  (K35 () h41)) h41) (fun (_s42 : Unit) _ h43 =>
  cutT [] (fun (K44 : Unit → Heap → Prop) h49 =>
  callT Tryd.prog 34 [.pointer r16.1] [.sc .bool] (fun (r45 : Bool) h46 =>
  br r45
  (callT Tryd.prog 37 [.pointer r16.1, .slice none 0 0, .slice none 0 0] [] (fun (_r47 : Unit) h48 =>
  K44 () h48) h46)
  (K44 () h46)) h49) (fun (_s50 : Unit) _ h51 =>
  ldAggW [.int .i64, .int .i64, .int .i64] a1 (fun (x52 : Int × Int × Int) =>
  callT Tryd.prog 50 [.agg #[.int .i64 x52.1, .int .i64 x52.2.1, .int .i64 x52.2.2]] [.sc (.int .i64)] (fun (r53 : Int) h54 =>
  loopT [.sc (.int .i64)] (fun (s56 : Int) _ (K55 : Int → Heap → Prop) h57 =>
  br (decide (s56 < r53))
  (callT Tryd.prog 32 [.pointer r16.1, .int .i64 s56] [.sc (.int .i64)] (fun (r58 : Int) h59 =>
  loopT [.sc (.int .i64)] (fun (s61 : Int) _ (K60 : Int → Heap → Prop) h62 =>
  ldW (.int .i64) (Addr.add a1 1) (fun (x63 : Int) =>
  br (decide (s61 < x63))
  (ldAggW [.int .i64, .int .i64, .int .i64] a1 (fun (x64 : Int × Int × Int) =>
  callT Tryd.prog 51 [.agg #[.int .i64 x64.1, .int .i64 x64.2.1, .int .i64 x64.2.2], .int .i64 s56, .int .i64 s61] [.sc (.int .u32)] (fun (r65 : Int) h66 =>
  dlW Tryd.prog #[105, 22] #[.map r18, .int .u32 r65] (fun h67 =>
  K60 (IntKind.wrap .i64 (s61 + (1 : Int))) h67) h66) h62) h62)
  (K55 (IntKind.wrap .i64 (s56 + (1 : Int))) h62)) h62) r58 h59) h57)
  (K20 (IntKind.wrap .i64 (s21 + (1 : Int))) h57)) (0 : Int) h54) h51) h51) h43) h34) h33) h31) h27) h27) h27) h26) h22) h22)))
  (ldAggW [.int .i64, .int .i64, .int .i64] a1 (fun (x68 : Int × Int × Int) =>
  callT Tryd.prog 46 [.pointer r16.1, .agg #[.int .i64 x68.1, .int .i64 x68.2.1, .int .i64 x68.2.2]] [.sc .slice] (fun (r69 : (Option Addr × Nat × Nat)) h70 =>
  loopT [.sc (.int .i64), .sc (.int .u32), .sc (.int .i64)] (fun (s72 : Int × Int × Int) _ (K71 : (Int × Int × Int) → Heap → Prop) h73 =>
  br (decide (s72.2.2 < (((r69.2.1 : Nat) : Int))))
  (ptrW r69.1 (fun a74 =>
  idxW s72.2.2 r69.2.1 true (ldAggW [.int .u32, .int .u8, .int .u32, .int .u32, .int .u32] (Addr.add a74 (Int.toNat s72.2.2 * 5)) (fun (x75 : Int × Int × Int × Int × Int) =>
  newW (.cells (zeroC Tryd.prog 109) 109) (fun a76 h77 =>
  stLW a76 [.int .u32 x75.1, .int .u8 x75.2.1, .int .u32 x75.2.2.1, .int .u32 x75.2.2.2.1, .int .u32 x75.2.2.2.2] (fun h78 =>
  ldW (.int .u32) (Addr.add a76 0) (fun (x79 : Int) =>
  lk2W Tryd.prog 105 (.agg [.int .i64, .int .i64, .int .u32, .int .u8, .int .u32, .int .u32, .int .u32, .slice, .slice, .slice]) (.map r18) (.int .u32 x79) (fun (x80 : Int × Int × Int × Int × Int × Int × Int × (Option Addr × Nat × Nat) × (Option Addr × Nat × Nat) × (Option Addr × Nat × Nat)) b81 =>
  newW (.cells (zeroC Tryd.prog 88) 88) (fun a82 h83 =>
  stLW a82 [.int .i64 x80.1, .int .i64 x80.2.1, .int .u32 x80.2.2.1, .int .u8 x80.2.2.2.1, .int .u32 x80.2.2.2.2.1, .int .u32 x80.2.2.2.2.2.1, .int .u32 x80.2.2.2.2.2.2.1, .slice x80.2.2.2.2.2.2.2.1.1 x80.2.2.2.2.2.2.2.1.2.1 x80.2.2.2.2.2.2.2.1.2.2, .slice x80.2.2.2.2.2.2.2.2.1.1 x80.2.2.2.2.2.2.2.2.1.2.1 x80.2.2.2.2.2.2.2.2.1.2.2, .slice x80.2.2.2.2.2.2.2.2.2.1 x80.2.2.2.2.2.2.2.2.2.2.1 x80.2.2.2.2.2.2.2.2.2.2.2] (fun h84 =>
  ldAggW [.int .i64, .int .i64, .int .i64] a1 (fun (x85 : Int × Int × Int) =>
  ldW (.int .u32) (Addr.add a76 0) (fun (x86 : Int) =>
  callT Tryd.prog 52 [.pointer r16.1, .agg #[.int .i64 x85.1, .int .i64 x85.2.1, .int .i64 x85.2.2], .int .u32 x86] [.agg [.int .u8, .int .u32, .int .u32, .int .u32], .sc .slice, .sc .any] (fun (r87 : (Int × Int × Int × Int) × (Option Addr × Nat × Nat) × Value) h88 =>
  newW (.cells (zeroC Tryd.prog 24) 24) (fun a89 h90 =>
  stLW a89 [.int .u8 r87.1.1, .int .u32 r87.1.2.1, .int .u32 r87.1.2.2.1, .int .u32 r87.1.2.2.2] (fun h91 =>
  cutT [] (fun (K92 : Unit → Heap → Prop) h103 =>
  br (!b81)
  (K (.bool false) h103)
  (ifW r87.2.2 (br (!(isNilV r87.2.2))
  (K (.bool false) h103)
  (ldAggW [.int .u8, .int .u32, .int .u32, .int .u32] a89 (fun (x93 : Int × Int × Int × Int) =>
  ldAggW [.int .u8, .int .u32, .int .u32, .int .u32] (Addr.add a76 1) (fun (x94 : Int × Int × Int × Int) =>
  eqGen Tryd.prog 24 (.agg #[.int .u8 x93.1, .int .u32 x93.2.1, .int .u32 x93.2.2.1, .int .u32 x93.2.2.2]) (.agg #[.int .u8 x94.1, .int .u32 x94.2.1, .int .u32 x94.2.2.1, .int .u32 x94.2.2.2]) (fun b95 =>
  br (!b95)
  (K (.bool false) h103)
  (ldAggW [.int .u8, .int .u32, .int .u32, .int .u32] a89 (fun (x96 : Int × Int × Int × Int) =>
  ldAggW [.int .u8, .int .u32, .int .u32, .int .u32] (Addr.add a82 3) (fun (x97 : Int × Int × Int × Int) =>
  eqGen Tryd.prog 24 (.agg #[.int .u8 x96.1, .int .u32 x96.2.1, .int .u32 x96.2.2.1, .int .u32 x96.2.2.2]) (.agg #[.int .u8 x97.1, .int .u32 x97.2.1, .int .u32 x97.2.2.1, .int .u32 x97.2.2.2]) (fun b98 =>
  br (!b98)
  (K (.bool false) h103)
  (ldW .slice (Addr.add a82 7) (fun (x99 : Option Addr × Nat × Nat) =>
  callT Tryd.prog 19 [.slice r87.2.1.1 r87.2.1.2.1 r87.2.1.2.2, .slice x99.1 x99.2.1 x99.2.2] [.sc .bool] (fun (r100 : Bool) h101 =>
  br (!r100)
  (K (.bool false) h101)
  (ldW (.int .u32) (Addr.add a76 0) (fun (x102 : Int) =>
  br (decide (x102 ≤ s72.2.1))
  (K (.bool false) h101)
  (K92 () h101)) h101)) h103) h103))) h103) h103))) h103) h103)))) (fun (_s104 : Unit) _ h105 =>
  ldW (.int .u32) (Addr.add a76 0) (fun (x106 : Int) =>
  K71 ((IntKind.wrap .i64 (s72.1 + (1 : Int))), x106, (IntKind.wrap .i64 (s72.2.2 + (1 : Int)))) h105) h105) h91) h90) h88) h84) h84) h84) h83) h78) h78) h78) h77) h73) h73)))
  (rgW Tryd.prog 105 (.map r18) (fun a107 h108 =>
  loopT [.sc (.int .i64)] (fun (s110 : Int) _ (K109 : Int → Heap → Prop) h111 =>
  nxW Tryd.prog 0 (.pointer (some a107)) (fun h112 =>
  lnW Tryd.prog #[105] 3 #[.map r18] (fun n116 =>
  K (.bool ((IntKind.wrap .i64 (s72.1 + s110)) == n116)) h112) h112) (fun _k113 _x114 h115 =>
  enW Tryd.prog (.pointer (some a107)) (fun k117 _x118 =>
  ldAggW [.int .i64, .int .i64, .int .i64] a1 (fun (x119 : Int × Int × Int) =>
  callT Tryd.prog 52 [.pointer r16.1, .agg #[.int .i64 x119.1, .int .i64 x119.2.1, .int .i64 x119.2.2], k117] [.agg [.int .u8, .int .u32, .int .u32, .int .u32], .sc .slice, .sc .any] (fun (r120 : (Int × Int × Int × Int) × (Option Addr × Nat × Nat) × Value) h121 =>
  newW (.cells (zeroC Tryd.prog 24) 24) (fun a122 h123 =>
  stLW a122 [.int .u8 r120.1.1, .int .u32 r120.1.2.1, .int .u32 r120.1.2.2.1, .int .u32 r120.1.2.2.2] (fun h124 =>
  callT Tryd.prog 53 [r120.2.2, .int .i64 6] [.sc .bool] (fun (r125 : Bool) h126 =>
  br r125
  (K109 (IntKind.wrap .i64 (s110 + (1 : Int))) h126)
  (K109 s110 h126)) h124) h123) h121) h115) h115) h115) h111) (0 : Int) h108) h73)) ((0 : Int), (0 : Int), (0 : Int)) h70) h22) h22)) (0 : Int) h19) h17)) h13) h13) h13) h4)) h2) h0)
set_option maxRecDepth 100000 in
theorem F13_eq (g_0_0 : Int) (g_0_1 : Int) (g_0_2 : Int) (l_1 : Option Addr) (l_1l l_1c : Nat) (K : Value → Heap → Prop) (h0 : Heap) : funWE Tryd.prog 13 (.seq (.leaf) (.seq (.seq (.leaf) (.cond (.seq (.leaf) (.leaf)) (.leaf))) (.cut [] (.seq (.leaf) (.cond (.seq (.leaf) (.leaf)) (.leaf))) (.seq (.leaf) (.seq (.seq (.leaf) (.cond (.seq (.leaf) (.leaf)) (.leaf))) (.seq (.leaf) (.seq (.seq (.leaf) (.block (.loop [(49, .sc (.int .i64))] (.seq (.leaf) (.seq (.cond (.leaf) (.leaf)) (.seq (.block (.seq (.leaf) (.seq (.leaf) (.cut [] (.seq (.leaf) (.cond (.leaf) (.leaf))) (.cut [] (.seq (.leaf) (.cond (.leaf) (.leaf))) (.seq (.leaf) (.block (.loop [(75, .sc (.int .i64))] (.seq (.leaf) (.seq (.cond (.leaf) (.leaf)) (.seq (.block (.seq (.leaf) (.seq (.leaf) (.block (.loop [(12, .sc (.int .i64))] (.seq (.seq (.leaf) (.cond (.leaf) (.leaf))) (.seq (.block (.leaf)) (.leaf)))))))) (.leaf)))))))))))) (.leaf))))))) (.seq (.leaf) (.seq (.leaf) (.seq (.seq (.leaf) (.block (.loop [(13, .sc (.int .i64)), (14, .sc (.int .u32)), (98, .sc (.int .i64))] (.seq (.leaf) (.seq (.cond (.leaf) (.leaf)) (.seq (.block (.seq (.leaf) (.seq (.leaf) (.seq (.leaf) (.cut [] (.seq (.leaf) (.cond (.seq (.leaf) (.leaf)) (.leaf))) (.seq (.leaf) (.leaf))))))) (.leaf))))))) (.seq (.leaf) (.seq (.seq (.leaf) (.block (.loop [(22, .sc (.int .i64))] (.seq (.leaf) (.seq (.cond (.leaf) (.leaf)) (.block (.seq (.leaf) (.seq (.leaf) (.seq (.leaf) (.cond (.leaf) (.leaf))))))))))) (.seq (.leaf) (.leaf)))))))))))))) [.agg #[.int .i64 g_0_0, .int .i64 g_0_1, .int .i64 g_0_2], .slice l_1 l_1l l_1c] K h0 = F13 g_0_0 g_0_1 g_0_2 l_1 l_1l l_1c K h0 := by kernel_rfl

end Go.Proofs.YtgohecjnjadnpaaDoor.W
