/-
  The formulas of errors.As. Each formula checked by the kernel. Printed by a program of this repo.
-/
import Derived.Test.YtgohecjnjadnpaaDoorProg
import Derived.Test.YtgohecjnjadnpaaDoorPl
namespace Go.Proofs.YtgohecjnjadnpaaDoor.W
open Go.Pl

-- function 62
set_option maxRecDepth 100000 in
def F62 (err_0 : Value) (target_1 : Value) (K : Value → Heap → Prop) (h0 : Heap) : Prop := (
  ifW err_0 (br (isNilV err_0)
  (K (.bool false) h0)
  (cutT [] (fun (K1 : Unit → Heap → Prop) h2 =>
  ifW target_1 (br (isNilV target_1)
  (False)
  (K1 () h2))) (fun (_s3 : Unit) _ h4 =>
  callT Tryd.prog 93 [target_1] [.agg [.ptr, .any, .int .u64]] (fun (r5 : ((Option Addr) × Value × Int)) h6 =>
  newW (.cells (zeroC Tryd.prog 163) 163) (fun a7 h8 =>
  oneC r5.2.1 (stLW a7 [.pointer r5.1, r5.2.1, .int .u64 r5.2.2] (fun h9 =>
  ldAggW [.ptr, .any, .int .u64] a7 (fun (x10 : (Option Addr) × Value × Int) =>
  callT Tryd.prog 94 [.agg #[.pointer x10.1, x10.2.1, .int .u64 x10.2.2]] [.sc .any] (fun (r11 : Value) h12 =>
  cutT [] (fun (K13 : Unit → Heap → Prop) h19 =>
  invW Tryd.prog (.sc (.int .u8)) r11 "Kind" [] (fun (x14 : Int) h15 =>
  br (x14 != (22 : Int))
  (False)
  (ldAggW [.ptr, .any, .int .u64] a7 (fun (x16 : (Option Addr) × Value × Int) =>
  callT Tryd.prog 95 [.agg #[.pointer x16.1, x16.2.1, .int .u64 x16.2.2]] [.sc .bool] (fun (r17 : Bool) h18 =>
  br r17
  (False)
  (K13 () h18)) h15) h15)) h19) (fun (_s20 : Unit) _ h21 =>
  invW Tryd.prog (.sc .any) r11 "Elem" [] (fun (x22 : Value) h23 =>
  cutT [] (fun (K24 : Unit → Heap → Prop) h30 =>
  invW Tryd.prog (.sc (.int .u8)) x22 "Kind" [] (fun (x25 : Int) h26 =>
  br (x25 != (20 : Int))
  (ldW .any (⟨0, 0, none⟩) (fun (x27 : Value) =>
  invW Tryd.prog (.sc .bool) x22 "Implements" [x27] (fun (x28 : Bool) h29 =>
  br (!x28)
  (False)
  (K24 () h29)) h26) h26)
  (K24 () h26)) h30) (fun (_s31 : Unit) _ h32 =>
  ldAggW [.ptr, .any, .int .u64] a7 (fun (x33 : (Option Addr) × Value × Int) =>
  callT Tryd.prog 96 [err_0, target_1, .agg #[.pointer x33.1, x33.2.1, .int .u64 x33.2.2], x22] [.sc .bool] (fun (r34 : Bool) h35 =>
  K (.bool r34) h35) h32) h32) h23) h21) h12) h9) h9) h8)) h6) h4) h0)))
set_option maxRecDepth 100000 in
theorem F62_eq (err_0 : Value) (target_1 : Value) (K : Value → Heap → Prop) (h0 : Heap) : funWE Tryd.prog 62 (.seq (.leaf) (.seq (.seq (.leaf) (.cond (.seq (.leaf) (.leaf)) (.leaf))) (.cut [] (.seq (.leaf) (.cond (.leaf) (.leaf))) (.seq (.leaf) (.seq (.leaf) (.cut [] (.seq (.leaf) (.cond (.leaf) (.leaf))) (.seq (.leaf) (.cut [] (.seq (.leaf) (.cond (.leaf) (.leaf))) (.seq (.leaf) (.leaf)))))))))) [err_0, target_1] K h0 = F62 err_0 target_1 K h0 := by kernel_rfl

-- function 96
set_option maxRecDepth 100000 in
def F96 (err_0 : Value) (target_1 : Value) (targetVal_2_0 : Option Addr) (targetVal_2_1 : Value) (targetVal_2_2 : Int) (targetType_3 : Value) (K : Value → Heap → Prop) (h0 : Heap) : Prop := (
  newW (.cells #[.pointer targetVal_2_0, targetVal_2_1, .int .u64 targetVal_2_2] 163) (fun a1 h2 =>
  loopT [.sc .any] (fun (s4 : Value) _ (K3 : Value → Heap → Prop) h5 =>
  callT Tryd.prog 105 [s4] [.sc .any] (fun (r6 : Value) h7 =>
  invW Tryd.prog (.sc .bool) r6 "AssignableTo" [targetType_3] (fun (x8 : Bool) h9 =>
  br x8
  (ldAggW [.ptr, .any, .int .u64] a1 (fun (x10 : (Option Addr) × Value × Int) =>
  callT Tryd.prog 107 [.agg #[.pointer x10.1, x10.2.1, .int .u64 x10.2.2]] [.agg [.ptr, .any, .int .u64]] (fun (r11 : ((Option Addr) × Value × Int)) h12 =>
  callT Tryd.prog 93 [s4] [.agg [.ptr, .any, .int .u64]] (fun (r13 : ((Option Addr) × Value × Int)) h14 =>
  callT Tryd.prog 108 [.agg #[.pointer r11.1, r11.2.1, .int .u64 r11.2.2], .agg #[.pointer r13.1, r13.2.1, .int .u64 r13.2.2]] [] (fun (_r15 : Unit) h16 =>
  K (.bool true) h16) h14) h12) h9) h9)
  (cutT [] (fun (K17 : Unit → Heap → Prop) h24 =>
  cutT [.sc .any, .sc .bool] (fun (K18 : (Value × Bool) → Heap → Prop) h19 =>
  asI Tryd.prog 187 s4
  (K18 (s4, true) h19)
  (K18 ((.nilIface : Value), false) h19)) (fun (s20 : Value × Bool) _ h21 =>
  br s20.2
  (invW Tryd.prog (.sc .bool) s20.1 "As" [target_1] (fun (x22 : Bool) h23 =>
  br x22
  (K (.bool true) h23)
  (K17 () h23)) h21)
  (K17 () h21)) h24) (fun (_s25 : Unit) _ h26 =>
  cutT [.sc .bool, .sc .any] (fun (K27 : (Bool × Value) → Heap → Prop) h28 =>
  asI Tryd.prog 190 s4
  (K27 (true, s4) h28)
  (K27 (false, (.nilIface : Value)) h28)) (fun (s29 : Bool × Value) _ h30 =>
  br s29.1
  (invW Tryd.prog (.sc .any) s29.2 "Unwrap" [] (fun (x31 : Value) h32 =>
  ifW x31 (br (isNilV x31)
  (K (.bool false) h32)
  (K3 x31 h32))) h30)
  (cutT [.sc .bool, .sc .any] (fun (K33 : (Bool × Value) → Heap → Prop) h34 =>
  asI Tryd.prog 191 s4
  (K33 (true, s4) h34)
  (K33 (false, (.nilIface : Value)) h34)) (fun (s35 : Bool × Value) _ h36 =>
  br s35.1
  (invW Tryd.prog (.sc .slice) s35.2 "Unwrap" [] (fun (x37 : Option Addr × Nat × Nat) h38 =>
  loopT [.sc (.int .i64)] (fun (s40 : Int) _ (K39 : Int → Heap → Prop) h41 =>
  br (decide (s40 < (((x37.2.1 : Nat) : Int))))
  (ptrW x37.1 (fun a42 =>
  idxW s40 x37.2.1 true (ldW .any (Addr.add a42 (Int.toNat s40 * 1)) (fun (x43 : Value) =>
  ifW x43 (br (isNilV x43)
  (K39 (IntKind.wrap .i64 (s40 + (1 : Int))) h41)
  (ldAggW [.ptr, .any, .int .u64] a1 (fun (x44 : (Option Addr) × Value × Int) =>
  callT Tryd.prog 96 [x43, target_1, .agg #[.pointer x44.1, x44.2.1, .int .u64 x44.2.2], targetType_3] [.sc .bool] (fun (r45 : Bool) h46 =>
  br r45
  (K (.bool true) h46)
  (K39 (IntKind.wrap .i64 (s40 + (1 : Int))) h46)) h41) h41))) h41)))
  (K (.bool false) h41)) (0 : Int) h38) h36)
  (K (.bool false) h36)) h30)) h26) h9)) h7) h5) err_0 h2) h0)
set_option maxRecDepth 100000 in
theorem F96_eq (err_0 : Value) (target_1 : Value) (targetVal_2_0 : Option Addr) (targetVal_2_1 : Value) (targetVal_2_2 : Int) (targetType_3 : Value) (K : Value → Heap → Prop) (h0 : Heap) : funWE Tryd.prog 96 (.seq (.leaf) (.block (.loop [(0, .sc .any)] (.block (.seq (.seq (.leaf) (.cond (.seq (.leaf) (.seq (.leaf) (.leaf))) (.leaf))) (.cut [] (.cut [(9, .sc .any), (10, .sc .bool)] (.leaf) (.seq (.leaf) (.cond (.seq (.leaf) (.leaf)) (.leaf)))) (.seq (.leaf) (.block (.cut [(38, .sc .bool), (39, .sc .any)] (.leaf) (.cond (.seq (.leaf) (.seq (.leaf) (.seq (.leaf) (.cond (.seq (.leaf) (.leaf)) (.leaf))))) (.cut [(45, .sc .bool), (46, .sc .any)] (.leaf) (.cond (.seq (.leaf) (.seq (.seq (.leaf) (.block (.loop [(50, .sc (.int .i64))] (.seq (.leaf) (.seq (.cond (.leaf) (.leaf)) (.seq (.block (.seq (.leaf) (.seq (.seq (.leaf) (.cond (.leaf) (.leaf))) (.seq (.leaf) (.cond (.seq (.leaf) (.leaf)) (.leaf)))))) (.leaf))))))) (.seq (.leaf) (.leaf)))) (.seq (.leaf) (.seq (.leaf) (.leaf))))))))))))))) [err_0, target_1, .agg #[.pointer targetVal_2_0, targetVal_2_1, .int .u64 targetVal_2_2], targetType_3] K h0 = F96 err_0 target_1 targetVal_2_0 targetVal_2_1 targetVal_2_2 targetType_3 K h0 := by kernel_rfl

end Go.Proofs.YtgohecjnjadnpaaDoor.W
