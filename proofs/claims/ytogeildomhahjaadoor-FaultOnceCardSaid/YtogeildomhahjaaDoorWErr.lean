/-
  The formulas of package errors. Each formula checked by the kernel. Printed by a program of this repo.
-/
import Derived.Test.YtogeildomhahjaaDoorProg
import Derived.Test.YtogeildomhahjaaDoorPl
namespace Go.Proofs.YtogeildomhahjaaDoor.W
open Go.Pl

-- function 51
set_option maxRecDepth 100000 in
def F51 (err_0 : Value) (target_1 : Value) (K : Value → Heap → Prop) (h0 : Heap) : Prop := (
  ifW err_0 (br (isNilV err_0)
  (K (.bool false) h0)
  (cutT [] (fun (K1 : Unit → Heap → Prop) h2 =>
  ifW target_1 (br (isNilV target_1)
  (False)
  (K1 () h2))) (fun (_s3 : Unit) _ h4 =>
  callT Tryd.prog 57 [target_1] [.agg [.ptr, .any, .int .u64]] (fun (r5 : ((Option Addr) × Value × Int)) h6 =>
  newW (.cells (zeroC Tryd.prog 114) 114) (fun a7 h8 =>
  oneC r5.2.1 (stLW a7 [.pointer r5.1, r5.2.1, .int .u64 r5.2.2] (fun h9 =>
  ldAggW [.ptr, .any, .int .u64] a7 (fun (x10 : (Option Addr) × Value × Int) =>
  callT Tryd.prog 58 [.agg #[.pointer x10.1, x10.2.1, .int .u64 x10.2.2]] [.sc .any] (fun (r11 : Value) h12 =>
  cutT [] (fun (K13 : Unit → Heap → Prop) h19 =>
  invW Tryd.prog (.sc (.int .u8)) r11 "Kind" [] (fun (x14 : Int) h15 =>
  br (x14 != (22 : Int))
  (False)
  (ldAggW [.ptr, .any, .int .u64] a7 (fun (x16 : (Option Addr) × Value × Int) =>
  callT Tryd.prog 59 [.agg #[.pointer x16.1, x16.2.1, .int .u64 x16.2.2]] [.sc .bool] (fun (r17 : Bool) h18 =>
  br r17
  (False)
  (K13 () h18)) h15) h15)) h19) (fun (_s20 : Unit) _ h21 =>
  invW Tryd.prog (.sc .any) r11 "Elem" [] (fun (x22 : Value) h23 =>
  cutT [] (fun (K24 : Unit → Heap → Prop) h30 =>
  invW Tryd.prog (.sc (.int .u8)) x22 "Kind" [] (fun (x25 : Int) h26 =>
  br (x25 != (20 : Int))
  (ldW .any (⟨0, 0, none⟩) (fun (x27 : Value) =>
  invW Tryd.prog (.sc .bool) x22 "Implements" [x27] (fun (x28 : Bool) h29 =>
  br (!x28)
  (False)
  (K24 () h29)) h26) h26)
  (K24 () h26)) h30) (fun (_s31 : Unit) _ h32 =>
  ldAggW [.ptr, .any, .int .u64] a7 (fun (x33 : (Option Addr) × Value × Int) =>
  callT Tryd.prog 60 [err_0, target_1, .agg #[.pointer x33.1, x33.2.1, .int .u64 x33.2.2], x22] [.sc .bool] (fun (r34 : Bool) h35 =>
  K (.bool r34) h35) h32) h32) h23) h21) h12) h9) h9) h8)) h6) h4) h0)))
set_option maxRecDepth 100000 in
theorem F51_eq (err_0 : Value) (target_1 : Value) (K : Value → Heap → Prop) (h0 : Heap) : funWE Tryd.prog 51 (.seq (.leaf) (.seq (.seq (.leaf) (.cond (.seq (.leaf) (.leaf)) (.leaf))) (.cut [] (.seq (.leaf) (.cond (.leaf) (.leaf))) (.seq (.leaf) (.seq (.leaf) (.cut [] (.seq (.leaf) (.cond (.leaf) (.leaf))) (.seq (.leaf) (.cut [] (.seq (.leaf) (.cond (.leaf) (.leaf))) (.seq (.leaf) (.leaf)))))))))) [err_0, target_1] K h0 = F51 err_0 target_1 K h0 := by kernel_rfl

-- function 60
set_option maxRecDepth 100000 in
def F60 (err_0 : Value) (target_1 : Value) (targetVal_2_0 : Option Addr) (targetVal_2_1 : Value) (targetVal_2_2 : Int) (targetType_3 : Value) (K : Value → Heap → Prop) (h0 : Heap) : Prop := (
  newW (.cells #[.pointer targetVal_2_0, targetVal_2_1, .int .u64 targetVal_2_2] 114) (fun a1 h2 =>
  loopT [.sc .any] (fun (s4 : Value) _ (K3 : Value → Heap → Prop) h5 =>
  callT Tryd.prog 61 [s4] [.sc .any] (fun (r6 : Value) h7 =>
  invW Tryd.prog (.sc .bool) r6 "AssignableTo" [targetType_3] (fun (x8 : Bool) h9 =>
  br x8
  (ldAggW [.ptr, .any, .int .u64] a1 (fun (x10 : (Option Addr) × Value × Int) =>
  callT Tryd.prog 66 [.agg #[.pointer x10.1, x10.2.1, .int .u64 x10.2.2]] [.agg [.ptr, .any, .int .u64]] (fun (r11 : ((Option Addr) × Value × Int)) h12 =>
  callT Tryd.prog 57 [s4] [.agg [.ptr, .any, .int .u64]] (fun (r13 : ((Option Addr) × Value × Int)) h14 =>
  callT Tryd.prog 67 [.agg #[.pointer r11.1, r11.2.1, .int .u64 r11.2.2], .agg #[.pointer r13.1, r13.2.1, .int .u64 r13.2.2]] [] (fun (_r15 : Unit) h16 =>
  K (.bool true) h16) h14) h12) h9) h9)
  (cutT [] (fun (K17 : Unit → Heap → Prop) h24 =>
  cutT [.sc .any, .sc .bool] (fun (K18 : (Value × Bool) → Heap → Prop) h19 =>
  asI Tryd.prog 130 s4
  (K18 (s4, true) h19)
  (K18 ((.nilIface : Value), false) h19)) (fun (s20 : Value × Bool) _ h21 =>
  br s20.2
  (invW Tryd.prog (.sc .bool) s20.1 "As" [target_1] (fun (x22 : Bool) h23 =>
  br x22
  (K (.bool true) h23)
  (K17 () h23)) h21)
  (K17 () h21)) h24) (fun (_s25 : Unit) _ h26 =>
  cutT [.sc .bool, .sc .any] (fun (K27 : (Bool × Value) → Heap → Prop) h28 =>
  asI Tryd.prog 133 s4
  (K27 (true, s4) h28)
  (K27 (false, (.nilIface : Value)) h28)) (fun (s29 : Bool × Value) _ h30 =>
  br s29.1
  (invW Tryd.prog (.sc .any) s29.2 "Unwrap" [] (fun (x31 : Value) h32 =>
  ifW x31 (br (isNilV x31)
  (K (.bool false) h32)
  (K3 x31 h32))) h30)
  (cutT [.sc .bool, .sc .any] (fun (K33 : (Bool × Value) → Heap → Prop) h34 =>
  asI Tryd.prog 134 s4
  (K33 (true, s4) h34)
  (K33 (false, (.nilIface : Value)) h34)) (fun (s35 : Bool × Value) _ h36 =>
  br s35.1
  (invW Tryd.prog (.sc .slice) s35.2 "Unwrap" [] (fun (x37 : Option Addr × Nat × Nat) h38 =>
  loopT [.sc (.int .i64)] (fun (s40 : Int) _ (K39 : Int → Heap → Prop) h41 =>
  br (decide (s40 < (((x37.2.1 : Nat) : Int))))
  (ptrW x37.1 (fun a42 =>
  idxW s40 x37.2.1 true (ldW .any (Addr.add a42 (Int.toNat s40 * 1)) (fun (x43 : Value) =>
  ifW x43 (br (isNilV x43)
  (K39 (IntKind.wrap .i64 (s40 + (1 : Int))) h41)
  (ldAggW [.ptr, .any, .int .u64] a1 (fun (x44 : (Option Addr) × Value × Int) =>
  callT Tryd.prog 60 [x43, target_1, .agg #[.pointer x44.1, x44.2.1, .int .u64 x44.2.2], targetType_3] [.sc .bool] (fun (r45 : Bool) h46 =>
  br r45
  (K (.bool true) h46)
  (K39 (IntKind.wrap .i64 (s40 + (1 : Int))) h46)) h41) h41))) h41)))
  (K (.bool false) h41)) (0 : Int) h38) h36)
  (K (.bool false) h36)) h30)) h26) h9)) h7) h5) err_0 h2) h0)
set_option maxRecDepth 100000 in
theorem F60_eq (err_0 : Value) (target_1 : Value) (targetVal_2_0 : Option Addr) (targetVal_2_1 : Value) (targetVal_2_2 : Int) (targetType_3 : Value) (K : Value → Heap → Prop) (h0 : Heap) : funWE Tryd.prog 60 (.seq (.leaf) (.block (.loop [(0, .sc .any)] (.block (.seq (.seq (.leaf) (.cond (.seq (.leaf) (.seq (.leaf) (.leaf))) (.leaf))) (.cut [] (.cut [(9, .sc .any), (10, .sc .bool)] (.leaf) (.seq (.leaf) (.cond (.seq (.leaf) (.leaf)) (.leaf)))) (.seq (.leaf) (.block (.cut [(38, .sc .bool), (39, .sc .any)] (.leaf) (.cond (.seq (.leaf) (.seq (.leaf) (.seq (.leaf) (.cond (.seq (.leaf) (.leaf)) (.leaf))))) (.cut [(45, .sc .bool), (46, .sc .any)] (.leaf) (.cond (.seq (.leaf) (.seq (.seq (.leaf) (.block (.loop [(50, .sc (.int .i64))] (.seq (.leaf) (.seq (.cond (.leaf) (.leaf)) (.seq (.block (.seq (.leaf) (.seq (.seq (.leaf) (.cond (.leaf) (.leaf))) (.seq (.leaf) (.cond (.seq (.leaf) (.leaf)) (.leaf)))))) (.leaf))))))) (.seq (.leaf) (.leaf)))) (.seq (.leaf) (.seq (.leaf) (.leaf))))))))))))))) [err_0, target_1, .agg #[.pointer targetVal_2_0, targetVal_2_1, .int .u64 targetVal_2_2], targetType_3] K h0 = F60 err_0 target_1 targetVal_2_0 targetVal_2_1 targetVal_2_2 targetType_3 K h0 := by kernel_rfl

-- function 53
set_option maxRecDepth 100000 in
def F53 (err_0 : Value) (target_1 : Value) (K : Value → Heap → Prop) (h0 : Heap) : Prop := (
  cutT [] (fun (K1 : Unit → Heap → Prop) h4 =>
  ifW err_0 (br (isNilV err_0)
  (eqIf Tryd.prog 28 err_0 target_1 (fun b2 =>
  K (.bool b2) h4) )
  (ifW target_1 (br (isNilV target_1)
  (eqIf Tryd.prog 28 err_0 target_1 (fun b3 =>
  K (.bool b3) h4) )
  (K1 () h4))))) (fun (_s5 : Unit) _ h6 =>
  callT Tryd.prog 61 [target_1] [.sc .any] (fun (r7 : Value) h8 =>
  invW Tryd.prog (.sc .bool) r7 "Comparable" [] (fun (x9 : Bool) h10 =>
  callT Tryd.prog 62 [err_0, target_1, .bool x9] [.sc .bool] (fun (r11 : Bool) h12 =>
  K (.bool r11) h12) h10) h8) h6) h0)
set_option maxRecDepth 100000 in
theorem F53_eq (err_0 : Value) (target_1 : Value) (K : Value → Heap → Prop) (h0 : Heap) : funWE Tryd.prog 53 (.seq (.leaf) (.cut [] (.seq (.leaf) (.cond (.seq (.leaf) (.leaf)) (.leaf))) (.seq (.leaf) (.seq (.leaf) (.leaf))))) [err_0, target_1] K h0 = F53 err_0 target_1 K h0 := by kernel_rfl

-- function 62
set_option maxRecDepth 100000 in
def F62 (err_0 : Value) (target_1 : Value) (targetComparable_2 : Bool) (K : Value → Heap → Prop) (h0 : Heap) : Prop := (
  loopT [.sc .any] (fun (s2 : Value) _ (K1 : Value → Heap → Prop) h3 =>
  cutT [] (fun (K4 : Unit → Heap → Prop) h6 =>
  br targetComparable_2
  (eqIf Tryd.prog 28 s2 target_1 (fun b5 =>
  br b5
  (K (.bool true) h6)
  (K4 () h6)) )
  (K4 () h6)) (fun (_s7 : Unit) _ h8 =>
  cutT [] (fun (K9 : Unit → Heap → Prop) h16 =>
  cutT [.sc .any, .sc .bool] (fun (K10 : (Value × Bool) → Heap → Prop) h11 =>
  asI Tryd.prog 137 s2
  (K10 (s2, true) h11)
  (K10 ((.nilIface : Value), false) h11)) (fun (s12 : Value × Bool) _ h13 =>
  br s12.2
  (invW Tryd.prog (.sc .bool) s12.1 "Is" [target_1] (fun (x14 : Bool) h15 =>
  br x14
  (K (.bool true) h15)
  (K9 () h15)) h13)
  (K9 () h13)) h16) (fun (_s17 : Unit) _ h18 =>
  cutT [.sc .bool, .sc .any] (fun (K19 : (Bool × Value) → Heap → Prop) h20 =>
  asI Tryd.prog 133 s2
  (K19 (true, s2) h20)
  (K19 (false, (.nilIface : Value)) h20)) (fun (s21 : Bool × Value) _ h22 =>
  br s21.1
  (invW Tryd.prog (.sc .any) s21.2 "Unwrap" [] (fun (x23 : Value) h24 =>
  ifW x23 (br (isNilV x23)
  (K (.bool false) h24)
  (K1 x23 h24))) h22)
  (cutT [.sc .bool, .sc .any] (fun (K25 : (Bool × Value) → Heap → Prop) h26 =>
  asI Tryd.prog 134 s2
  (K25 (true, s2) h26)
  (K25 (false, (.nilIface : Value)) h26)) (fun (s27 : Bool × Value) _ h28 =>
  br s27.1
  (invW Tryd.prog (.sc .slice) s27.2 "Unwrap" [] (fun (x29 : Option Addr × Nat × Nat) h30 =>
  loopT [.sc (.int .i64)] (fun (s32 : Int) _ (K31 : Int → Heap → Prop) h33 =>
  br (decide (s32 < (((x29.2.1 : Nat) : Int))))
  (ptrW x29.1 (fun a34 =>
  idxW s32 x29.2.1 true (ldW .any (Addr.add a34 (Int.toNat s32 * 1)) (fun (x35 : Value) =>
  callT Tryd.prog 62 [x35, target_1, .bool targetComparable_2] [.sc .bool] (fun (r36 : Bool) h37 =>
  br r36
  (K (.bool true) h37)
  (K31 (IntKind.wrap .i64 (s32 + (1 : Int))) h37)) h33) h33)))
  (K (.bool false) h33)) (0 : Int) h30) h28)
  (K (.bool false) h28)) h22)) h18) h8) h3) err_0 h0)
set_option maxRecDepth 100000 in
theorem F62_eq (err_0 : Value) (target_1 : Value) (targetComparable_2 : Bool) (K : Value → Heap → Prop) (h0 : Heap) : funWE Tryd.prog 62 (.seq (.leaf) (.block (.loop [(0, .sc .any)] (.block (.cut [] (.seq (.leaf) (.cond (.seq (.leaf) (.leaf)) (.leaf))) (.cut [] (.cut [(7, .sc .any), (8, .sc .bool)] (.leaf) (.seq (.leaf) (.cond (.seq (.leaf) (.leaf)) (.leaf)))) (.seq (.leaf) (.block (.cut [(33, .sc .bool), (34, .sc .any)] (.leaf) (.cond (.seq (.leaf) (.seq (.leaf) (.seq (.leaf) (.cond (.seq (.leaf) (.leaf)) (.leaf))))) (.cut [(40, .sc .bool), (41, .sc .any)] (.leaf) (.cond (.seq (.leaf) (.seq (.seq (.leaf) (.block (.loop [(45, .sc (.int .i64))] (.seq (.leaf) (.seq (.cond (.leaf) (.leaf)) (.seq (.block (.seq (.leaf) (.seq (.leaf) (.cond (.seq (.leaf) (.leaf)) (.leaf))))) (.leaf))))))) (.seq (.leaf) (.leaf)))) (.seq (.leaf) (.seq (.leaf) (.leaf))))))))))))))) [err_0, target_1, .bool targetComparable_2] K h0 = F62 err_0 target_1 targetComparable_2 K h0 := by kernel_rfl

end Go.Proofs.YtogeildomhahjaaDoor.W
