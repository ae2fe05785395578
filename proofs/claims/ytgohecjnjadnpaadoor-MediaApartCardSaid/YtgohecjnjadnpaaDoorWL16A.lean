/-
  The formula of MediaApart. Each formula checked by the kernel. Printed by a program of this repo.
-/
import Derived.Test.YtgohecjnjadnpaaDoorProg
import Derived.Test.YtgohecjnjadnpaaDoorPl
namespace Go.Proofs.YtgohecjnjadnpaaDoor.W
open Go.Pl

-- function 12
set_option maxRecDepth 100000 in
def F12 (g_0_0 : Int) (g_0_1 : Int) (g_0_2 : Int) (l_1 : Option Addr) (l_1l l_1c : Nat) (x_2_0 : Int) (x_2_1 : Int) (x_2_2 : Int) (x_2_3 : Int) (x_2_4 : Int) (x_2_5 : Int) (x_2_6 : Int) (x_2_7 : Option Addr) (x_2_7l x_2_7c : Nat) (x_2_8 : Option Addr) (x_2_8l x_2_8c : Nat) (x_2_9 : Option Addr) (x_2_9l x_2_9c : Nat) (K : Value → Heap → Prop) (h0 : Heap) : Prop := (
  newW (.cells #[.int .i64 g_0_0, .int .i64 g_0_1, .int .i64 g_0_2] 85) (fun a1 h2 =>
  newW (.cells #[.int .i64 x_2_0, .int .i64 x_2_1, .int .u32 x_2_2, .int .u8 x_2_3, .int .u32 x_2_4, .int .u32 x_2_5, .int .u32 x_2_6, .slice x_2_7 x_2_7l x_2_7c, .slice x_2_8 x_2_8l x_2_8c, .slice x_2_9 x_2_9l x_2_9c] 88) (fun a3 h4 =>
  callT Tryd.prog 42 [] [.sc .bool] (fun (r5 : Bool) h6 =>
  br (!r5)
  (K (.bool false) h6)
  (cutT [] (fun (K7 : Unit → Heap → Prop) h14 =>
  ldAggW [.int .i64, .int .i64, .int .i64] a1 (fun (x8 : Int × Int × Int) =>
  callT Tryd.prog 43 [.agg #[.int .i64 x8.1, .int .i64 x8.2.1, .int .i64 x8.2.2]] [.sc .bool] (fun (r9 : Bool) h10 =>
  br (!r9)
  (K (.bool true) h10)
  (callT Tryd.prog 44 [.slice l_1 l_1l l_1c] [.sc .bool] (fun (r11 : Bool) h12 =>
  br r11
  (K (.bool true) h12)
  (ldW .slice (Addr.add a3 7) (fun (x13 : Option Addr × Nat × Nat) =>
  br (decide ((((x13.2.1 : Nat) : Int)) > (100 : Int)))
  (K (.bool true) h12)
  (K7 () h12)) h12)) h10)) h14) h14) (fun (_s15 : Unit) _ h16 =>
  ldW (.int .i64) (Addr.add a1 0) (fun (x17 : Int) =>
  ldW (.int .i64) (Addr.add a1 1) (fun (x18 : Int) =>
  callT Tryd.prog 25 [.int .i64 x17, .int .i64 x18] [.sc .ptr, .sc .any] (fun (r19 : (Option Addr) × Value) h20 =>
  br (Option.isNone r19.1)
  (K (.bool false) h20)
  (loopT [.sc (.int .i64)] (fun (s22 : Int) _ (K21 : Int → Heap → Prop) h23 =>
  br (decide (s22 < (((l_1l : Nat) : Int))))
  (ptrW l_1 (fun a24 =>
  idxW s22 l_1l true (ldAggW [.int .i64, .int .i64, .int .u32, .int .u8, .int .u32, .int .u32, .int .u32, .slice, .slice, .slice] (Addr.add a24 (Int.toNat s22 * 10)) (fun (x25 : Int × Int × Int × Int × Int × Int × Int × (Option Addr × Nat × Nat) × (Option Addr × Nat × Nat) × (Option Addr × Nat × Nat)) =>
  newW (.cells (zeroC Tryd.prog 88) 88) (fun a26 h27 =>
  stLW a26 [.int .i64 x25.1, .int .i64 x25.2.1, .int .u32 x25.2.2.1, .int .u8 x25.2.2.2.1, .int .u32 x25.2.2.2.2.1, .int .u32 x25.2.2.2.2.2.1, .int .u32 x25.2.2.2.2.2.2.1, .slice x25.2.2.2.2.2.2.2.1.1 x25.2.2.2.2.2.2.2.1.2.1 x25.2.2.2.2.2.2.2.1.2.2, .slice x25.2.2.2.2.2.2.2.2.1.1 x25.2.2.2.2.2.2.2.2.1.2.1 x25.2.2.2.2.2.2.2.2.1.2.2, .slice x25.2.2.2.2.2.2.2.2.2.1 x25.2.2.2.2.2.2.2.2.2.2.1 x25.2.2.2.2.2.2.2.2.2.2.2] (fun h28 =>
  ldAggW [.int .i64, .int .i64, .int .i64] a1 (fun (x29 : Int × Int × Int) =>
  ldAggW [.int .i64, .int .i64, .int .u32, .int .u8, .int .u32, .int .u32, .int .u32, .slice, .slice, .slice] a26 (fun (x30 : Int × Int × Int × Int × Int × Int × Int × (Option Addr × Nat × Nat) × (Option Addr × Nat × Nat) × (Option Addr × Nat × Nat)) =>
  callT Tryd.prog 45 [.pointer r19.1, .agg #[.int .i64 x29.1, .int .i64 x29.2.1, .int .i64 x29.2.2], .agg #[.int .i64 x30.1, .int .i64 x30.2.1, .int .u32 x30.2.2.1, .int .u8 x30.2.2.2.1, .int .u32 x30.2.2.2.2.1, .int .u32 x30.2.2.2.2.2.1, .int .u32 x30.2.2.2.2.2.2.1, .slice x30.2.2.2.2.2.2.2.1.1 x30.2.2.2.2.2.2.2.1.2.1 x30.2.2.2.2.2.2.2.1.2.2, .slice x30.2.2.2.2.2.2.2.2.1.1 x30.2.2.2.2.2.2.2.2.1.2.1 x30.2.2.2.2.2.2.2.2.1.2.2, .slice x30.2.2.2.2.2.2.2.2.2.1 x30.2.2.2.2.2.2.2.2.2.2.1 x30.2.2.2.2.2.2.2.2.2.2.2]] [.agg [.int .u32, .int .u8, .int .u32, .int .u32, .int .u32, .slice, .int .i64]] (fun (_r31 : (Int × Int × Int × Int × Int × (Option Addr × Nat × Nat) × Int)) h32 =>
  K21 (IntKind.wrap .i64 (s22 + (1 : Int))) h32) h28) h28) h28) h27) h23) h23)))
  (callT Tryd.prog 37 [.pointer r19.1, .slice none 0 0, .slice none 0 0] [] (fun (_r33 : Unit) h34 =>
  ldAggW [.int .i64, .int .i64, .int .i64] a1 (fun (x35 : Int × Int × Int) =>
  callT Tryd.prog 46 [.pointer r19.1, .agg #[.int .i64 x35.1, .int .i64 x35.2.1, .int .i64 x35.2.2]] [.sc .slice] (fun (r36 : (Option Addr × Nat × Nat)) h37 =>
  ldAggW [.int .i64, .int .i64, .int .i64] a1 (fun (x38 : Int × Int × Int) =>
  ldW (.int .i64) (Addr.add a3 1) (fun (x39 : Int) =>
  ldAggW [.int .u8, .int .u32, .int .u32, .int .u32] (Addr.add a3 3) (fun (x40 : Int × Int × Int × Int) =>
  ldW .slice (Addr.add a3 7) (fun (x41 : Option Addr × Nat × Nat) =>
  callT Tryd.prog 47 [.pointer r19.1, .agg #[.int .i64 x38.1, .int .i64 x38.2.1, .int .i64 x38.2.2], .int .i64 x39, .agg #[.int .u8 x40.1, .int .u32 x40.2.1, .int .u32 x40.2.2.1, .int .u32 x40.2.2.2], .slice x41.1 x41.2.1 x41.2.2] [.sc (.int .u32), .sc .any] (fun (r42 : Int × Value) h43 =>
  newW (.cells #[] 102) (fun a44 h45 =>
  callT Tryd.prog 48 [.slice r36.1 r36.2.1 r36.2.2] [.sc .slice] (fun (r46 : (Option Addr × Nat × Nat)) h47 =>
  loopT [.sc .slice, .sc (.int .i64)] (fun (s49 : (Option Addr × Nat × Nat) × Int) _ (K48 : ((Option Addr × Nat × Nat) × Int) → Heap → Prop) h50 =>
  br (decide (s49.2 < (((r46.2.1 : Nat) : Int))))
  (ptrW r46.1 (fun a51 =>
  idxW s49.2 r46.2.1 true (ldAggW [.int .u32, .int .u8, .int .u32, .int .u32, .int .u32] (Addr.add a51 (Int.toNat s49.2 * 5)) (fun (x52 : Int × Int × Int × Int × Int) =>
  newW (.cells (zeroC Tryd.prog 102) 102) (fun a53 h54 =>
  stLW a53 [.int .u32 x52.1, .int .u8 x52.2.1, .int .u32 x52.2.2.1, .int .u32 x52.2.2.2.1, .int .u32 x52.2.2.2.2] (fun h55 =>
  cutT [.sc .slice] (fun (K56 : ((Option Addr × Nat × Nat)) → Heap → Prop) h78 =>
  cutT [.sc .bool] (fun (K57 : Bool → Heap → Prop) h68 =>
  ifW r42.2 (br (isNilV r42.2)
  (br ((((s49.1.2.1 : Nat) : Int)) == (0 : Int))
  (ldW (.int .u32) (Addr.add a53 0) (fun (x58 : Int) =>
  br (decide (r42.1 < x58))
  (K57 true h68)
  (ifW r42.2 (br (isNilV r42.2)
  (br (decide ((((s49.1.2.1 : Nat) : Int)) > (0 : Int)))
  (ptrW s49.1.1 (fun a59 =>
  idxW (IntKind.wrap .i64 ((((s49.1.2.1 : Nat) : Int)) - (1 : Int))) s49.1.2.1 true (ldW (.int .u32) (Addr.add (Addr.add a59 (Int.toNat (IntKind.wrap .i64 ((((s49.1.2.1 : Nat) : Int)) - (1 : Int))) * 5)) 0) (fun (x60 : Int) =>
  br (decide (x60 < r42.1))
  (ldW (.int .u32) (Addr.add a53 0) (fun (x61 : Int) =>
  K57 (decide (r42.1 < x61)) h68) h68)
  (K57 false h68)) h68)))
  (K57 false h68))
  (K57 false h68)))) h68)
  (ifW r42.2 (br (isNilV r42.2)
  (br (decide ((((s49.1.2.1 : Nat) : Int)) > (0 : Int)))
  (ptrW s49.1.1 (fun a62 =>
  idxW (IntKind.wrap .i64 ((((s49.1.2.1 : Nat) : Int)) - (1 : Int))) s49.1.2.1 true (ldW (.int .u32) (Addr.add (Addr.add a62 (Int.toNat (IntKind.wrap .i64 ((((s49.1.2.1 : Nat) : Int)) - (1 : Int))) * 5)) 0) (fun (x63 : Int) =>
  br (decide (x63 < r42.1))
  (ldW (.int .u32) (Addr.add a53 0) (fun (x64 : Int) =>
  K57 (decide (r42.1 < x64)) h68) h68)
  (K57 false h68)) h68)))
  (K57 false h68))
  (K57 false h68))))
  (ifW r42.2 (br (isNilV r42.2)
  (br (decide ((((s49.1.2.1 : Nat) : Int)) > (0 : Int)))
  (ptrW s49.1.1 (fun a65 =>
  idxW (IntKind.wrap .i64 ((((s49.1.2.1 : Nat) : Int)) - (1 : Int))) s49.1.2.1 true (ldW (.int .u32) (Addr.add (Addr.add a65 (Int.toNat (IntKind.wrap .i64 ((((s49.1.2.1 : Nat) : Int)) - (1 : Int))) * 5)) 0) (fun (x66 : Int) =>
  br (decide (x66 < r42.1))
  (ldW (.int .u32) (Addr.add a53 0) (fun (x67 : Int) =>
  K57 (decide (r42.1 < x67)) h68) h68)
  (K57 false h68)) h68)))
  (K57 false h68))
  (K57 false h68))))) (fun (s69 : Bool) _ h70 =>
  br s69
  (ldAggW [.int .u8, .int .u32, .int .u32, .int .u32] (Addr.add a3 3) (fun (x71 : Int × Int × Int × Int) =>
  newW (.cells #[.int .u32 r42.1, .int .u8 x71.1, .int .u32 x71.2.1, .int .u32 x71.2.2.1, .int .u32 x71.2.2.2] 102) (fun a72 h73 =>
  apW Tryd.prog #[99, 99] #[.slice s49.1.1 s49.1.2.1 s49.1.2.2, .slice (some a72) 1 1] (fun b74 n75 c76 h77 =>
  K56 (b74, n75, c76) h77) h73) h70) h70)
  (K56 (s49.1.1, s49.1.2.1, s49.1.2.2) h70)) h78) (fun (s79 : (Option Addr × Nat × Nat)) _ h80 =>
  ldAggW [.int .u32, .int .u8, .int .u32, .int .u32, .int .u32] a53 (fun (x81 : Int × Int × Int × Int × Int) =>
  newW (.cells #[.int .u32 x81.1, .int .u8 x81.2.1, .int .u32 x81.2.2.1, .int .u32 x81.2.2.2.1, .int .u32 x81.2.2.2.2] 102) (fun a82 h83 =>
  apW Tryd.prog #[99, 99] #[.slice s79.1 s79.2.1 s79.2.2, .slice (some a82) 1 1] (fun b84 n85 c86 h87 =>
  K48 ((b84, n85, c86), (IntKind.wrap .i64 (s49.2 + (1 : Int)))) h87) h83) h80) h80) h55) h54) h50) h50)))
  (cutT [.sc .slice] (fun (K88 : ((Option Addr × Nat × Nat)) → Heap → Prop) h102 =>
  cutT [.sc .bool] (fun (K89 : Bool → Heap → Prop) h92 =>
  ifW r42.2 (br (isNilV r42.2)
  (br ((((s49.1.2.1 : Nat) : Int)) == (0 : Int))
  (K89 true h92)
  (ptrW s49.1.1 (fun a90 =>
  idxW (IntKind.wrap .i64 ((((s49.1.2.1 : Nat) : Int)) - (1 : Int))) s49.1.2.1 true (ldW (.int .u32) (Addr.add (Addr.add a90 (Int.toNat (IntKind.wrap .i64 ((((s49.1.2.1 : Nat) : Int)) - (1 : Int))) * 5)) 0) (fun (x91 : Int) =>
  K89 (decide (x91 < r42.1)) h92) h92))))
  (K89 false h92))) (fun (s93 : Bool) _ h94 =>
  br s93
  (ldAggW [.int .u8, .int .u32, .int .u32, .int .u32] (Addr.add a3 3) (fun (x95 : Int × Int × Int × Int) =>
  newW (.cells #[.int .u32 r42.1, .int .u8 x95.1, .int .u32 x95.2.1, .int .u32 x95.2.2.1, .int .u32 x95.2.2.2] 102) (fun a96 h97 =>
  apW Tryd.prog #[99, 99] #[.slice s49.1.1 s49.1.2.1 s49.1.2.2, .slice (some a96) 1 1] (fun b98 n99 c100 h101 =>
  K88 (b98, n99, c100) h101) h97) h94) h94)
  (K88 (s49.1.1, s49.1.2.1, s49.1.2.2) h94)) h102) (fun (s103 : (Option Addr × Nat × Nat)) _ h104 =>
  ldAggW [.int .i64, .int .i64, .int .i64] a1 (fun (x105 : Int × Int × Int) =>
  callT Tryd.prog 46 [.pointer r19.1, .agg #[.int .i64 x105.1, .int .i64 x105.2.1, .int .i64 x105.2.2]] [.sc .slice] (fun (r106 : (Option Addr × Nat × Nat)) h107 =>
  callT Tryd.prog 48 [.slice r106.1 r106.2.1 r106.2.2] [.sc .slice] (fun (r108 : (Option Addr × Nat × Nat)) h109 =>
  callT Tryd.prog 49 [.slice r108.1 r108.2.1 r108.2.2, .slice s103.1 s103.2.1 s103.2.2] [.sc .bool] (fun (r110 : Bool) h111 =>
  K (.bool r110) h111) h109) h107) h104) h104) h50)) (((some a44), 0, 0), (0 : Int)) h47) h45) h43) h37) h37) h37) h37) h37) h34) h34) h23)) (0 : Int) h20)) h16) h16) h16) h6)) h4) h2) h0)
set_option maxRecDepth 100000 in
theorem F12_eq (g_0_0 : Int) (g_0_1 : Int) (g_0_2 : Int) (l_1 : Option Addr) (l_1l l_1c : Nat) (x_2_0 : Int) (x_2_1 : Int) (x_2_2 : Int) (x_2_3 : Int) (x_2_4 : Int) (x_2_5 : Int) (x_2_6 : Int) (x_2_7 : Option Addr) (x_2_7l x_2_7c : Nat) (x_2_8 : Option Addr) (x_2_8l x_2_8c : Nat) (x_2_9 : Option Addr) (x_2_9l x_2_9c : Nat) (K : Value → Heap → Prop) (h0 : Heap) : funWE Tryd.prog 12 (.seq (.leaf) (.seq (.seq (.leaf) (.cond (.seq (.leaf) (.leaf)) (.leaf))) (.cut [] (.seq (.leaf) (.cond (.seq (.leaf) (.leaf)) (.leaf))) (.seq (.leaf) (.seq (.seq (.leaf) (.cond (.seq (.leaf) (.leaf)) (.leaf))) (.seq (.seq (.leaf) (.block (.loop [(44, .sc (.int .i64))] (.seq (.leaf) (.seq (.cond (.leaf) (.leaf)) (.seq (.block (.seq (.leaf) (.leaf))) (.leaf))))))) (.seq (.leaf) (.seq (.leaf) (.seq (.leaf) (.seq (.leaf) (.seq (.seq (.leaf) (.block (.loop [(14, .sc .slice), (74, .sc (.int .i64))] (.seq (.leaf) (.seq (.cond (.leaf) (.leaf)) (.seq (.block (.seq (.leaf) (.cut [(14, .sc .slice)] (.cut [(116, .sc .bool)] (.leaf) (.cond (.leaf) (.leaf))) (.leaf)))) (.leaf))))))) (.cut [(14, .sc .slice)] (.cut [(146, .sc .bool)] (.leaf) (.cond (.leaf) (.leaf))) (.seq (.leaf) (.leaf)))))))))))))) [.agg #[.int .i64 g_0_0, .int .i64 g_0_1, .int .i64 g_0_2], .slice l_1 l_1l l_1c, .agg #[.int .i64 x_2_0, .int .i64 x_2_1, .int .u32 x_2_2, .int .u8 x_2_3, .int .u32 x_2_4, .int .u32 x_2_5, .int .u32 x_2_6, .slice x_2_7 x_2_7l x_2_7c, .slice x_2_8 x_2_8l x_2_8c, .slice x_2_9 x_2_9l x_2_9c]] K h0 = F12 g_0_0 g_0_1 g_0_2 l_1 l_1l l_1c x_2_0 x_2_1 x_2_2 x_2_3 x_2_4 x_2_5 x_2_6 x_2_7 x_2_7l x_2_7c x_2_8 x_2_8l x_2_8c x_2_9 x_2_9l x_2_9c K h0 := by kernel_rfl

end Go.Proofs.YtgohecjnjadnpaaDoor.W
