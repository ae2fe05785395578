/-
  The formulas of errors.Is and fault.Is. Each formula checked by the kernel. Printed by a program of this repo.
-/
import Derived.Test.YtgohecjnjadnpaaDoorProg
import Derived.Test.YtgohecjnjadnpaaDoorPl
namespace Go.Proofs.YtgohecjnjadnpaaDoor.W
open Go.Pl

-- function 89
set_option maxRecDepth 100000 in
def F89 (err_0 : Value) (target_1 : Value) (K : Value → Heap → Prop) (h0 : Heap) : Prop := (
  cutT [] (fun (K1 : Unit → Heap → Prop) h4 =>
  ifW err_0 (br (isNilV err_0)
  (eqIf Tryd.prog 28 err_0 target_1 (fun b2 =>
  K (.bool b2) h4) )
  (ifW target_1 (br (isNilV target_1)
  (eqIf Tryd.prog 28 err_0 target_1 (fun b3 =>
  K (.bool b3) h4) )
  (K1 () h4))))) (fun (_s5 : Unit) _ h6 =>
  callT Tryd.prog 105 [target_1] [.sc .any] (fun (r7 : Value) h8 =>
  invW Tryd.prog (.sc .bool) r7 "Comparable" [] (fun (x9 : Bool) h10 =>
  callT Tryd.prog 106 [err_0, target_1, .bool x9] [.sc .bool] (fun (r11 : Bool) h12 =>
  K (.bool r11) h12) h10) h8) h6) h0)
set_option maxRecDepth 100000 in
theorem F89_eq (err_0 : Value) (target_1 : Value) (K : Value → Heap → Prop) (h0 : Heap) : funWE Tryd.prog 89 (.seq (.leaf) (.cut [] (.seq (.leaf) (.cond (.seq (.leaf) (.leaf)) (.leaf))) (.seq (.leaf) (.seq (.leaf) (.leaf))))) [err_0, target_1] K h0 = F89 err_0 target_1 K h0 := by kernel_rfl

-- function 106
set_option maxRecDepth 100000 in
def F106 (err_0 : Value) (target_1 : Value) (targetComparable_2 : Bool) (K : Value → Heap → Prop) (h0 : Heap) : Prop := (
  loopT [.sc .any] (fun (s2 : Value) _ (K1 : Value → Heap → Prop) h3 =>
  cutT [] (fun (K4 : Unit → Heap → Prop) h6 =>
  br targetComparable_2
  (eqIf Tryd.prog 28 s2 target_1 (fun b5 =>
  br b5
  (K (.bool true) h6)
  (K4 () h6)) )
  (K4 () h6)) (fun (_s7 : Unit) _ h8 =>
  cutT [] (fun (K9 : Unit → Heap → Prop) h16 =>
  cutT [.sc .any, .sc .bool] (fun (K10 : (Value × Bool) → Heap → Prop) h11 =>
  asI Tryd.prog 194 s2
  (K10 (s2, true) h11)
  (K10 ((.nilIface : Value), false) h11)) (fun (s12 : Value × Bool) _ h13 =>
  br s12.2
  (invW Tryd.prog (.sc .bool) s12.1 "Is" [target_1] (fun (x14 : Bool) h15 =>
  br x14
  (K (.bool true) h15)
  (K9 () h15)) h13)
  (K9 () h13)) h16) (fun (_s17 : Unit) _ h18 =>
  cutT [.sc .bool, .sc .any] (fun (K19 : (Bool × Value) → Heap → Prop) h20 =>
  asI Tryd.prog 190 s2
  (K19 (true, s2) h20)
  (K19 (false, (.nilIface : Value)) h20)) (fun (s21 : Bool × Value) _ h22 =>
  br s21.1
  (invW Tryd.prog (.sc .any) s21.2 "Unwrap" [] (fun (x23 : Value) h24 =>
  ifW x23 (br (isNilV x23)
  (K (.bool false) h24)
  (K1 x23 h24))) h22)
  (cutT [.sc .bool, .sc .any] (fun (K25 : (Bool × Value) → Heap → Prop) h26 =>
  asI Tryd.prog 191 s2
  (K25 (true, s2) h26)
  (K25 (false, (.nilIface : Value)) h26)) (fun (s27 : Bool × Value) _ h28 =>
  br s27.1
  (invW Tryd.prog (.sc .slice) s27.2 "Unwrap" [] (fun (x29 : Option Addr × Nat × Nat) h30 =>
  loopT [.sc (.int .i64)] (fun (s32 : Int) _ (K31 : Int → Heap → Prop) h33 =>
  br (decide (s32 < (((x29.2.1 : Nat) : Int))))
  (ptrW x29.1 (fun a34 =>
  idxW s32 x29.2.1 true (ldW .any (Addr.add a34 (Int.toNat s32 * 1)) (fun (x35 : Value) =>
  callT Tryd.prog 106 [x35, target_1, .bool targetComparable_2] [.sc .bool] (fun (r36 : Bool) h37 =>
  br r36
  (K (.bool true) h37)
  (K31 (IntKind.wrap .i64 (s32 + (1 : Int))) h37)) h33) h33)))
  (K (.bool false) h33)) (0 : Int) h30) h28)
  (K (.bool false) h28)) h22)) h18) h8) h3) err_0 h0)
set_option maxRecDepth 100000 in
theorem F106_eq (err_0 : Value) (target_1 : Value) (targetComparable_2 : Bool) (K : Value → Heap → Prop) (h0 : Heap) : funWE Tryd.prog 106 (.seq (.leaf) (.block (.loop [(0, .sc .any)] (.block (.cut [] (.seq (.leaf) (.cond (.seq (.leaf) (.leaf)) (.leaf))) (.cut [] (.cut [(7, .sc .any), (8, .sc .bool)] (.leaf) (.seq (.leaf) (.cond (.seq (.leaf) (.leaf)) (.leaf)))) (.seq (.leaf) (.block (.cut [(33, .sc .bool), (34, .sc .any)] (.leaf) (.cond (.seq (.leaf) (.seq (.leaf) (.seq (.leaf) (.cond (.seq (.leaf) (.leaf)) (.leaf))))) (.cut [(40, .sc .bool), (41, .sc .any)] (.leaf) (.cond (.seq (.leaf) (.seq (.seq (.leaf) (.block (.loop [(45, .sc (.int .i64))] (.seq (.leaf) (.seq (.cond (.leaf) (.leaf)) (.seq (.block (.seq (.leaf) (.seq (.leaf) (.cond (.seq (.leaf) (.leaf)) (.leaf))))) (.leaf))))))) (.seq (.leaf) (.leaf)))) (.seq (.leaf) (.seq (.leaf) (.leaf))))))))))))))) [err_0, target_1, .bool targetComparable_2] K h0 = F106 err_0 target_1 targetComparable_2 K h0 := by kernel_rfl

-- function 53
set_option maxRecDepth 100000 in
def F53 (err_0 : Value) (e_1 : Int) (K : Value → Heap → Prop) (h0 : Heap) : Prop := (
  br (e_1 != (0 : Int))
  (callT Tryd.prog 89 [err_0, .iface 31 (.int .i64 e_1)] [.sc .bool] (fun (r1 : Bool) h2 =>
  K (.bool r1) h2) h0)
  (K (.bool false) h0))
set_option maxRecDepth 100000 in
theorem F53_eq (err_0 : Value) (e_1 : Int) (K : Value → Heap → Prop) (h0 : Heap) : funWE Tryd.prog 53 (.seq (.leaf) (.seq (.leaf) (.leaf))) [err_0, .int .i64 e_1] K h0 = F53 err_0 e_1 K h0 := by kernel_rfl

end Go.Proofs.YtgohecjnjadnpaaDoor.W
