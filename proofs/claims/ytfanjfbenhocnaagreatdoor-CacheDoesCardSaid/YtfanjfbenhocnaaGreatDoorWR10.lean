/-
  The formulas of reference 10. Each formula checked by the kernel. Printed by a program of this repo.
-/
import Derived.Test.YtfanjfbenhocnaaGreatDoorProg
import Derived.Test.YtfanjfbenhocnaaGreatDoorPl
namespace Go.Proofs.YtfanjfbenhocnaaGreatDoor.W
open Go.Pl

-- function 6
set_option maxRecDepth 100000 in
def F6 (room_0 : Int) (K : Value → Heap → Prop) (h0 : Heap) : Prop := (
  callT Tryz.prog 28 [.int .i64 room_0] [.sc .ptr, .sc (.int .i64)] (fun (r1 : (Option Addr) × Int) h2 =>
  br (r1.2 != (0 : Int))
  (K (.tuple #[.pointer none, .int .i64 r1.2]) h2)
  (newW (.cells #[.slice none 0 0, .slice none 0 0, .pointer r1.1, .int .i64 room_0] 51) (fun a3 h4 =>
  K (.tuple #[.pointer (some a3), .int .i64 0]) h4) h2)) h0)
set_option maxRecDepth 100000 in
theorem F6_eq (room_0 : Int) (K : Value → Heap → Prop) (h0 : Heap) : funWE Tryz.prog 6 (.seq (.leaf) (.seq (.leaf) (.seq (.seq (.leaf) (.cond (.seq (.leaf) (.leaf)) (.leaf))) (.seq (.leaf) (.leaf))))) [.int .i64 room_0] K h0 = F6 room_0 K h0 := by kernel_rfl

-- function 52
set_option maxRecDepth 100000 in
def F52 (c_0 : Addr) (block_1 : Int) (K : Value → Heap → Prop) (h0 : Heap) : Prop := (
  loopT [.sc (.int .i64)] (fun (s2 : Int) _ (K1 : Int → Heap → Prop) h3 =>
  ldW .slice (Addr.add c_0 0) (fun (x4 : Option Addr × Nat × Nat) =>
  br (decide (s2 < (((x4.2.1 : Nat) : Int))))
  (ldW .slice (Addr.add c_0 0) (fun (x5 : Option Addr × Nat × Nat) =>
  ptrW x5.1 (fun a6 =>
  idxW s2 x5.2.1 true (ldW (.int .i64) (Addr.add (Addr.add a6 (Int.toNat s2 * 3)) 0) (fun (x7 : Int) =>
  br (x7 == block_1)
  (K (.int .i64 s2) h3)
  (K1 (IntKind.wrap .i64 (s2 + (1 : Int))) h3)) h3))) h3)
  (K (.int .i64 (-1)) h3)) h3) (0 : Int) h0)
set_option maxRecDepth 100000 in
theorem F52_eq (c_0 : Addr) (block_1 : Int) (K : Value → Heap → Prop) (h0 : Heap) : funWE Tryz.prog 52 (.seq (.leaf) (.seq (.seq (.leaf) (.block (.loop [(5, .sc (.int .i64))] (.seq (.seq (.leaf) (.cond (.leaf) (.leaf))) (.seq (.block (.seq (.leaf) (.cond (.seq (.leaf) (.leaf)) (.leaf)))) (.leaf)))))) (.seq (.leaf) (.leaf)))) [.pointer (some c_0), .int .i64 block_1] K h0 = F52 c_0 block_1 K h0 := by kernel_rfl

-- function 36
set_option maxRecDepth 100000 in
def F36 (c_0 : Addr) (block_1 : Int) (K : Value → Heap → Prop) (h0 : Heap) : Prop := (
  callT Tryz.prog 52 [.pointer (some c_0), .int .i64 block_1] [.sc (.int .i64)] (fun (r1 : Int) h2 =>
  br (decide (r1 < (0 : Int)))
  (K (.tuple #[.int .u32 0, .bool false]) h2)
  (ldW .slice (Addr.add c_0 0) (fun (x3 : Option Addr × Nat × Nat) =>
  ptrW x3.1 (fun a4 =>
  idxW r1 x3.2.1 true (ldW (.int .u32) (Addr.add (Addr.add a4 (Int.toNat r1 * 3)) 1) (fun (x5 : Int) =>
  K (.tuple #[.int .u32 x5, .bool true]) h2) h2))) h2)) h0)
set_option maxRecDepth 100000 in
theorem F36_eq (c_0 : Addr) (block_1 : Int) (K : Value → Heap → Prop) (h0 : Heap) : funWE Tryz.prog 36 (.seq (.leaf) (.seq (.leaf) (.seq (.seq (.leaf) (.cond (.seq (.leaf) (.leaf)) (.leaf))) (.seq (.leaf) (.leaf))))) [.pointer (some c_0), .int .i64 block_1] K h0 = F36 c_0 block_1 K h0 := by kernel_rfl

-- function 31
set_option maxRecDepth 100000 in
def F31 (c_0 : Addr) (block_1 : Int) (K : Value → Heap → Prop) (h0 : Heap) : Prop := (
  callT Tryz.prog 52 [.pointer (some c_0), .int .i64 block_1] [.sc (.int .i64)] (fun (r1 : Int) h2 =>
  br (decide (r1 < (0 : Int)))
  (K (.tuple #[.int .u32 0, .bool false]) h2)
  (ldW .ptr (Addr.add c_0 2) (fun (x3 : Option Addr) =>
  ldW .slice (Addr.add c_0 1) (fun (x4 : Option Addr × Nat × Nat) =>
  ptrW x4.1 (fun a5 =>
  idxW r1 x4.2.1 true (ldW (.int .i64) (Addr.add a5 (Int.toNat r1 * 1)) (fun (x6 : Int) =>
  callT Tryz.prog 53 [.pointer x3, .int .i64 x6] [.sc .bool] (fun (_r7 : Bool) h8 =>
  ldW .slice (Addr.add c_0 0) (fun (x9 : Option Addr × Nat × Nat) =>
  ptrW x9.1 (fun a10 =>
  idxW r1 x9.2.1 true (ldW (.int .u32) (Addr.add (Addr.add a10 (Int.toNat r1 * 3)) 1) (fun (x11 : Int) =>
  K (.tuple #[.int .u32 x11, .bool true]) h8) h8))) h8) h2) h2))) h2) h2)) h0)
set_option maxRecDepth 100000 in
theorem F31_eq (c_0 : Addr) (block_1 : Int) (K : Value → Heap → Prop) (h0 : Heap) : funWE Tryz.prog 31 (.seq (.leaf) (.seq (.leaf) (.seq (.seq (.leaf) (.cond (.seq (.leaf) (.leaf)) (.leaf))) (.seq (.draw (odp [0, 1, 2, 3, 4, 5, 6, 7, 8, 9, 10, 11] .nil) []) (.seq (.leaf) (.leaf)))))) [.pointer (some c_0), .int .i64 block_1] K h0 = F31 c_0 block_1 K h0 := by kernel_rfl

-- function 32
set_option maxRecDepth 100000 in
def F32 (c_0 : Addr) (block_1 : Int) (addr_2 : Int) (dirty_3 : Bool) (K : Value → Heap → Prop) (h0 : Heap) : Prop := (
  callT Tryz.prog 52 [.pointer (some c_0), .int .i64 block_1] [.sc (.int .i64)] (fun (r1 : Int) h2 =>
  br (decide (r1 ≥ (0 : Int)))
  (ldW .slice (Addr.add c_0 0) (fun (x3 : Option Addr × Nat × Nat) =>
  ptrW x3.1 (fun a4 =>
  idxW r1 x3.2.1 true (stW (Addr.add (Addr.add a4 (Int.toNat r1 * 3)) 1) (.int .u32 addr_2) (fun h5 =>
  cutT [] (fun (K6 : Unit → Heap → Prop) h15 =>
  ldW .slice (Addr.add c_0 0) (fun (x7 : Option Addr × Nat × Nat) =>
  ldW .slice (Addr.add c_0 0) (fun (x8 : Option Addr × Nat × Nat) =>
  ptrW x8.1 (fun a9 =>
  idxW r1 x8.2.1 true (ldW .bool (Addr.add (Addr.add a9 (Int.toNat r1 * 3)) 2) (fun (x10 : Bool) =>
  br x10
  (ptrW x7.1 (fun a11 =>
  idxW r1 x7.2.1 true (stW (Addr.add (Addr.add a11 (Int.toNat r1 * 3)) 2) (.bool true) (fun h12 =>
  K6 () h12) h15)))
  (ptrW x7.1 (fun a13 =>
  idxW r1 x7.2.1 true (stW (Addr.add (Addr.add a13 (Int.toNat r1 * 3)) 2) (.bool dirty_3) (fun h14 =>
  K6 () h14) h15)))) h15))) h15) h15) (fun (_s16 : Unit) _ h17 =>
  ldW .ptr (Addr.add c_0 2) (fun (x18 : Option Addr) =>
  ldW .slice (Addr.add c_0 1) (fun (x19 : Option Addr × Nat × Nat) =>
  ptrW x19.1 (fun a20 =>
  idxW r1 x19.2.1 true (ldW (.int .i64) (Addr.add a20 (Int.toNat r1 * 1)) (fun (x21 : Int) =>
  callT Tryz.prog 53 [.pointer x18, .int .i64 x21] [.sc .bool] (fun (_r22 : Bool) h23 =>
  K (.bool true) h23) h17) h17))) h17) h17) h5) h2))) h2)
  (cutT [] (fun (K24 : Unit → Heap → Prop) h27 =>
  br (decide (block_1 < (0 : Int)))
  (K (.bool false) h27)
  (br (decide (block_1 > (63 : Int)))
  (K (.bool false) h27)
  (ldW .slice (Addr.add c_0 0) (fun (x25 : Option Addr × Nat × Nat) =>
  ldW (.int .i64) (Addr.add c_0 3) (fun (x26 : Int) =>
  br (decide ((((x25.2.1 : Nat) : Int)) ≥ x26))
  (K (.bool false) h27)
  (K24 () h27)) h27) h27))) (fun (_s28 : Unit) _ h29 =>
  loopT [.sc (.int .i64)] (fun (s31 : Int) _ (K30 : Int → Heap → Prop) h32 =>
  ldW .ptr (Addr.add c_0 2) (fun (x33 : Option Addr) =>
  callT Tryz.prog 54 [.pointer x33, .int .i64 s31] [.sc .bool] (fun (r34 : Bool) h35 =>
  br r34
  (K30 (IntKind.wrap .i64 (s31 + (1 : Int))) h35)
  (ldW .ptr (Addr.add c_0 2) (fun (x36 : Option Addr) =>
  callT Tryz.prog 55 [.pointer x36, .int .i64 s31] [.sc .bool] (fun (_r37 : Bool) h38 =>
  loopT [.sc (.int .i64)] (fun (s40 : Int) _ (K39 : Int → Heap → Prop) h41 =>
  ldW .slice (Addr.add c_0 0) (fun (x42 : Option Addr × Nat × Nat) =>
  br (decide (s40 < (((x42.2.1 : Nat) : Int))))
  (ldW .slice (Addr.add c_0 0) (fun (x43 : Option Addr × Nat × Nat) =>
  ptrW x43.1 (fun a44 =>
  idxW s40 x43.2.1 true (ldW (.int .i64) (Addr.add (Addr.add a44 (Int.toNat s40 * 3)) 0) (fun (x45 : Int) =>
  br (decide (x45 < block_1))
  (K39 (IntKind.wrap .i64 (s40 + (1 : Int))) h41)
  (cutT [] (fun (K46 : Unit → Heap → Prop) h104 =>
  ldW .slice (Addr.add c_0 0) (fun (x47 : Option Addr × Nat × Nat) =>
  slW x47.1 x47.2.2 3 (0 : Int) s40 (((x47.2.2 : Nat) : Int)) (fun b48 n49 c50 =>
  ldW .slice (Addr.add c_0 0) (fun (x51 : Option Addr × Nat × Nat) =>
  slW x51.1 x51.2.2 3 s40 (((x51.2.1 : Nat) : Int)) (((x51.2.2 : Nat) : Int)) (fun b52 n53 c54 =>
  (newW (.cells #[] 63) (fun a55 h56 =>
  (apW Tryz.prog #[48, 48] #[.slice (some a55) 0 0, .slice b48 n49 c50] (fun b57 n58 c59 h60 =>
  (cellH h60 (Addr.add c_0 0) = some (.slice x51.1 x51.2.1 x51.2.2) ∧ newW (.cells #[.int .i64 block_1, .int .u32 addr_2, .bool dirty_3] 63) (fun a61 h62 =>
  apW Tryz.prog #[48, 48] #[.slice b57 n58 c59, .slice (some a61) 1 1] (fun b63 n64 c65 h66 =>
  (cellH h66 (Addr.add c_0 0) = some (.slice x51.1 x51.2.1 x51.2.2) ∧ apW Tryz.prog #[48, 48] #[.slice b63 n64 c65, .slice b52 n53 c54] (fun b67 n68 c69 h70 =>
  (cellH h70 (Addr.add c_0 0) = some (.slice x51.1 x51.2.1 x51.2.2) ∧ stW (Addr.add c_0 0) (.slice b67 n68 c69) (fun h71 =>
  K46 () h71) h70)) h66)) h62) h60)) h56) ∧
  (newW (.cells #[.int .i64 block_1, .int .u32 addr_2, .bool dirty_3] 63) (fun a72 h73 =>
  apW Tryz.prog #[48, 48] #[.slice (some a55) 0 0, .slice b48 n49 c50] (fun b74 n75 c76 h77 =>
  (cellH h77 (Addr.add c_0 0) = some (.slice x51.1 x51.2.1 x51.2.2) ∧ apW Tryz.prog #[48, 48] #[.slice b74 n75 c76, .slice (some a72) 1 1] (fun b78 n79 c80 h81 =>
  (cellH h81 (Addr.add c_0 0) = some (.slice x51.1 x51.2.1 x51.2.2) ∧ apW Tryz.prog #[48, 48] #[.slice b78 n79 c80, .slice b52 n53 c54] (fun b82 n83 c84 h85 =>
  (cellH h85 (Addr.add c_0 0) = some (.slice x51.1 x51.2.1 x51.2.2) ∧ stW (Addr.add c_0 0) (.slice b82 n83 c84) (fun h86 =>
  K46 () h86) h85)) h81)) h77)) h73) h56)) h104) ∧
  (newW (.cells #[.int .i64 block_1, .int .u32 addr_2, .bool dirty_3] 63) (fun a87 h88 =>
  newW (.cells #[] 63) (fun a89 h90 =>
  apW Tryz.prog #[48, 48] #[.slice (some a89) 0 0, .slice b48 n49 c50] (fun b91 n92 c93 h94 =>
  (cellH h94 (Addr.add c_0 0) = some (.slice x51.1 x51.2.1 x51.2.2) ∧ apW Tryz.prog #[48, 48] #[.slice b91 n92 c93, .slice (some a87) 1 1] (fun b95 n96 c97 h98 =>
  (cellH h98 (Addr.add c_0 0) = some (.slice x51.1 x51.2.1 x51.2.2) ∧ apW Tryz.prog #[48, 48] #[.slice b95 n96 c97, .slice b52 n53 c54] (fun b99 n100 c101 h102 =>
  (cellH h102 (Addr.add c_0 0) = some (.slice x51.1 x51.2.1 x51.2.2) ∧ stW (Addr.add c_0 0) (.slice b99 n100 c101) (fun h103 =>
  K46 () h103) h102)) h98)) h94)) h90) h88) h104))) h104)) h104) (fun (_s105 : Unit) _ h106 =>
  ldW .slice (Addr.add c_0 1) (fun (x107 : Option Addr × Nat × Nat) =>
  slW x107.1 x107.2.2 1 (0 : Int) s40 (((x107.2.2 : Nat) : Int)) (fun b108 n109 c110 =>
  ldW .slice (Addr.add c_0 1) (fun (x111 : Option Addr × Nat × Nat) =>
  slW x111.1 x111.2.2 1 s40 (((x111.2.1 : Nat) : Int)) (((x111.2.2 : Nat) : Int)) (fun b112 n113 c114 =>
  (newW (.cells #[] 3) (fun a115 h116 =>
  (apW Tryz.prog #[45, 45] #[.slice (some a115) 0 0, .slice b108 n109 c110] (fun b117 n118 c119 h120 =>
  (cellH h120 (Addr.add c_0 1) = some (.slice x111.1 x111.2.1 x111.2.2) ∧ newW (.cells #[.int .i64 s31] 3) (fun a121 h122 =>
  apW Tryz.prog #[45, 45] #[.slice b117 n118 c119, .slice (some a121) 1 1] (fun b123 n124 c125 h126 =>
  (cellH h126 (Addr.add c_0 1) = some (.slice x111.1 x111.2.1 x111.2.2) ∧ apW Tryz.prog #[45, 45] #[.slice b123 n124 c125, .slice b112 n113 c114] (fun b127 n128 c129 h130 =>
  (cellH h130 (Addr.add c_0 1) = some (.slice x111.1 x111.2.1 x111.2.2) ∧ stW (Addr.add c_0 1) (.slice b127 n128 c129) (fun h131 =>
  K (.bool true) h131) h130)) h126)) h122) h120)) h116) ∧
  (newW (.cells #[.int .i64 s31] 3) (fun a132 h133 =>
  apW Tryz.prog #[45, 45] #[.slice (some a115) 0 0, .slice b108 n109 c110] (fun b134 n135 c136 h137 =>
  (cellH h137 (Addr.add c_0 1) = some (.slice x111.1 x111.2.1 x111.2.2) ∧ apW Tryz.prog #[45, 45] #[.slice b134 n135 c136, .slice (some a132) 1 1] (fun b138 n139 c140 h141 =>
  (cellH h141 (Addr.add c_0 1) = some (.slice x111.1 x111.2.1 x111.2.2) ∧ apW Tryz.prog #[45, 45] #[.slice b138 n139 c140, .slice b112 n113 c114] (fun b142 n143 c144 h145 =>
  (cellH h145 (Addr.add c_0 1) = some (.slice x111.1 x111.2.1 x111.2.2) ∧ stW (Addr.add c_0 1) (.slice b142 n143 c144) (fun h146 =>
  K (.bool true) h146) h145)) h141)) h137)) h133) h116)) h106) ∧
  (newW (.cells #[.int .i64 s31] 3) (fun a147 h148 =>
  newW (.cells #[] 3) (fun a149 h150 =>
  apW Tryz.prog #[45, 45] #[.slice (some a149) 0 0, .slice b108 n109 c110] (fun b151 n152 c153 h154 =>
  (cellH h154 (Addr.add c_0 1) = some (.slice x111.1 x111.2.1 x111.2.2) ∧ apW Tryz.prog #[45, 45] #[.slice b151 n152 c153, .slice (some a147) 1 1] (fun b155 n156 c157 h158 =>
  (cellH h158 (Addr.add c_0 1) = some (.slice x111.1 x111.2.1 x111.2.2) ∧ apW Tryz.prog #[45, 45] #[.slice b155 n156 c157, .slice b112 n113 c114] (fun b159 n160 c161 h162 =>
  (cellH h162 (Addr.add c_0 1) = some (.slice x111.1 x111.2.1 x111.2.2) ∧ stW (Addr.add c_0 1) (.slice b159 n160 c161) (fun h163 =>
  K (.bool true) h163) h162)) h158)) h154)) h150) h148) h106))) h106)) h106) h41)) h41))) h41)
  (cutT [] (fun (K164 : Unit → Heap → Prop) h222 =>
  ldW .slice (Addr.add c_0 0) (fun (x165 : Option Addr × Nat × Nat) =>
  slW x165.1 x165.2.2 3 (0 : Int) s40 (((x165.2.2 : Nat) : Int)) (fun b166 n167 c168 =>
  ldW .slice (Addr.add c_0 0) (fun (x169 : Option Addr × Nat × Nat) =>
  slW x169.1 x169.2.2 3 s40 (((x169.2.1 : Nat) : Int)) (((x169.2.2 : Nat) : Int)) (fun b170 n171 c172 =>
  (newW (.cells #[] 63) (fun a173 h174 =>
  (apW Tryz.prog #[48, 48] #[.slice (some a173) 0 0, .slice b166 n167 c168] (fun b175 n176 c177 h178 =>
  (cellH h178 (Addr.add c_0 0) = some (.slice x169.1 x169.2.1 x169.2.2) ∧ newW (.cells #[.int .i64 block_1, .int .u32 addr_2, .bool dirty_3] 63) (fun a179 h180 =>
  apW Tryz.prog #[48, 48] #[.slice b175 n176 c177, .slice (some a179) 1 1] (fun b181 n182 c183 h184 =>
  (cellH h184 (Addr.add c_0 0) = some (.slice x169.1 x169.2.1 x169.2.2) ∧ apW Tryz.prog #[48, 48] #[.slice b181 n182 c183, .slice b170 n171 c172] (fun b185 n186 c187 h188 =>
  (cellH h188 (Addr.add c_0 0) = some (.slice x169.1 x169.2.1 x169.2.2) ∧ stW (Addr.add c_0 0) (.slice b185 n186 c187) (fun h189 =>
  K164 () h189) h188)) h184)) h180) h178)) h174) ∧
  (newW (.cells #[.int .i64 block_1, .int .u32 addr_2, .bool dirty_3] 63) (fun a190 h191 =>
  apW Tryz.prog #[48, 48] #[.slice (some a173) 0 0, .slice b166 n167 c168] (fun b192 n193 c194 h195 =>
  (cellH h195 (Addr.add c_0 0) = some (.slice x169.1 x169.2.1 x169.2.2) ∧ apW Tryz.prog #[48, 48] #[.slice b192 n193 c194, .slice (some a190) 1 1] (fun b196 n197 c198 h199 =>
  (cellH h199 (Addr.add c_0 0) = some (.slice x169.1 x169.2.1 x169.2.2) ∧ apW Tryz.prog #[48, 48] #[.slice b196 n197 c198, .slice b170 n171 c172] (fun b200 n201 c202 h203 =>
  (cellH h203 (Addr.add c_0 0) = some (.slice x169.1 x169.2.1 x169.2.2) ∧ stW (Addr.add c_0 0) (.slice b200 n201 c202) (fun h204 =>
  K164 () h204) h203)) h199)) h195)) h191) h174)) h222) ∧
  (newW (.cells #[.int .i64 block_1, .int .u32 addr_2, .bool dirty_3] 63) (fun a205 h206 =>
  newW (.cells #[] 63) (fun a207 h208 =>
  apW Tryz.prog #[48, 48] #[.slice (some a207) 0 0, .slice b166 n167 c168] (fun b209 n210 c211 h212 =>
  (cellH h212 (Addr.add c_0 0) = some (.slice x169.1 x169.2.1 x169.2.2) ∧ apW Tryz.prog #[48, 48] #[.slice b209 n210 c211, .slice (some a205) 1 1] (fun b213 n214 c215 h216 =>
  (cellH h216 (Addr.add c_0 0) = some (.slice x169.1 x169.2.1 x169.2.2) ∧ apW Tryz.prog #[48, 48] #[.slice b213 n214 c215, .slice b170 n171 c172] (fun b217 n218 c219 h220 =>
  (cellH h220 (Addr.add c_0 0) = some (.slice x169.1 x169.2.1 x169.2.2) ∧ stW (Addr.add c_0 0) (.slice b217 n218 c219) (fun h221 =>
  K164 () h221) h220)) h216)) h212)) h208) h206) h222))) h222)) h222) (fun (_s223 : Unit) _ h224 =>
  ldW .slice (Addr.add c_0 1) (fun (x225 : Option Addr × Nat × Nat) =>
  slW x225.1 x225.2.2 1 (0 : Int) s40 (((x225.2.2 : Nat) : Int)) (fun b226 n227 c228 =>
  ldW .slice (Addr.add c_0 1) (fun (x229 : Option Addr × Nat × Nat) =>
  slW x229.1 x229.2.2 1 s40 (((x229.2.1 : Nat) : Int)) (((x229.2.2 : Nat) : Int)) (fun b230 n231 c232 =>
  (newW (.cells #[] 3) (fun a233 h234 =>
  (apW Tryz.prog #[45, 45] #[.slice (some a233) 0 0, .slice b226 n227 c228] (fun b235 n236 c237 h238 =>
  (cellH h238 (Addr.add c_0 1) = some (.slice x229.1 x229.2.1 x229.2.2) ∧ newW (.cells #[.int .i64 s31] 3) (fun a239 h240 =>
  apW Tryz.prog #[45, 45] #[.slice b235 n236 c237, .slice (some a239) 1 1] (fun b241 n242 c243 h244 =>
  (cellH h244 (Addr.add c_0 1) = some (.slice x229.1 x229.2.1 x229.2.2) ∧ apW Tryz.prog #[45, 45] #[.slice b241 n242 c243, .slice b230 n231 c232] (fun b245 n246 c247 h248 =>
  (cellH h248 (Addr.add c_0 1) = some (.slice x229.1 x229.2.1 x229.2.2) ∧ stW (Addr.add c_0 1) (.slice b245 n246 c247) (fun h249 =>
  K (.bool true) h249) h248)) h244)) h240) h238)) h234) ∧
  (newW (.cells #[.int .i64 s31] 3) (fun a250 h251 =>
  apW Tryz.prog #[45, 45] #[.slice (some a233) 0 0, .slice b226 n227 c228] (fun b252 n253 c254 h255 =>
  (cellH h255 (Addr.add c_0 1) = some (.slice x229.1 x229.2.1 x229.2.2) ∧ apW Tryz.prog #[45, 45] #[.slice b252 n253 c254, .slice (some a250) 1 1] (fun b256 n257 c258 h259 =>
  (cellH h259 (Addr.add c_0 1) = some (.slice x229.1 x229.2.1 x229.2.2) ∧ apW Tryz.prog #[45, 45] #[.slice b256 n257 c258, .slice b230 n231 c232] (fun b260 n261 c262 h263 =>
  (cellH h263 (Addr.add c_0 1) = some (.slice x229.1 x229.2.1 x229.2.2) ∧ stW (Addr.add c_0 1) (.slice b260 n261 c262) (fun h264 =>
  K (.bool true) h264) h263)) h259)) h255)) h251) h234)) h224) ∧
  (newW (.cells #[.int .i64 s31] 3) (fun a265 h266 =>
  newW (.cells #[] 3) (fun a267 h268 =>
  apW Tryz.prog #[45, 45] #[.slice (some a267) 0 0, .slice b226 n227 c228] (fun b269 n270 c271 h272 =>
  (cellH h272 (Addr.add c_0 1) = some (.slice x229.1 x229.2.1 x229.2.2) ∧ apW Tryz.prog #[45, 45] #[.slice b269 n270 c271, .slice (some a265) 1 1] (fun b273 n274 c275 h276 =>
  (cellH h276 (Addr.add c_0 1) = some (.slice x229.1 x229.2.1 x229.2.2) ∧ apW Tryz.prog #[45, 45] #[.slice b273 n274 c275, .slice b230 n231 c232] (fun b277 n278 c279 h280 =>
  (cellH h280 (Addr.add c_0 1) = some (.slice x229.1 x229.2.1 x229.2.2) ∧ stW (Addr.add c_0 1) (.slice b277 n278 c279) (fun h281 =>
  K (.bool true) h281) h280)) h276)) h272)) h268) h266) h224))) h224)) h224) h41)) h41) (0 : Int) h38) h35) h35)) h32) h32) (0 : Int) h29) h2)) h0)
set_option maxRecDepth 100000 in
theorem F32_eq (c_0 : Addr) (block_1 : Int) (addr_2 : Int) (dirty_3 : Bool) (K : Value → Heap → Prop) (h0 : Heap) : funWE Tryz.prog 32 (.seq (.leaf) (.seq (.leaf) (.seq (.seq (.leaf) (.cond (.seq (.leaf) (.cut [] (.draw (odp [0, 1, 2, 3, 4, 5, 6, 7, 8, 9, 10, 11, 12, 13, 14, 15, 16, 17, 18] .nil) []) (.seq (.draw (odp [0, 1, 2, 3, 4, 5, 6, 7, 8, 9, 10, 11] .nil) []) (.seq (.leaf) (.leaf))))) (.leaf))) (.cut [] (.seq (.draw (odp [0, 1, 2, 3, 4, 5, 6, 7, 8, 9, 10, 11, 12, 13, 14, 15, 16, 17] .nil) []) (.cond (.seq (.leaf) (.leaf)) (.leaf))) (.seq (.leaf) (.seq (.block (.loop [(10, .sc (.int .i64))] (.seq (.seq (.leaf) (.cond (.leaf) (.leaf))) (.block (.leaf))))) (.seq (.leaf) (.seq (.leaf) (.seq (.block (.loop [(11, .sc (.int .i64))] (.seq (.seq (.leaf) (.cond (.leaf) (.leaf))) (.block (.leaf))))) (.cut [] (.draw (odp [0, 2, 3, 4, 5, 6, 7, 9, 10, 11, 12, 15, 16, 17, 18, 19, 20] (.fork 1 (.fork 8 (odp [13, 14, 21, 22, 23, 24] .nil) (.one 13 (odp [8, 14, 21, 22, 23, 24] .nil))) (.one 13 (odp [1, 8, 14, 21, 22, 23, 24] .nil)))) [200018]) (.seq (.draw (odp [0, 2, 3, 4, 5, 6, 7, 9, 12, 13, 14, 15, 16, 17] (.fork 1 (.fork 8 (odp [10, 11, 18, 19, 20, 21] .nil) (.one 10 (odp [8, 11, 18, 19, 20, 21] .nil))) (.one 10 (odp [1, 8, 11, 18, 19, 20, 21] .nil)))) [200015]) (.seq (.leaf) (.leaf))))))))))))) [.pointer (some c_0), .int .i64 block_1, .int .u32 addr_2, .bool dirty_3] K h0 = F32 c_0 block_1 addr_2 dirty_3 K h0 := by kernel_rfl

-- function 33
set_option maxRecDepth 100000 in
def F33 (c_0 : Addr) (block_1 : Int) (addr_2 : Int) (K : Value → Heap → Prop) (h0 : Heap) : Prop := (
  callT Tryz.prog 52 [.pointer (some c_0), .int .i64 block_1] [.sc (.int .i64)] (fun (r1 : Int) h2 =>
  br (decide (r1 < (0 : Int)))
  (K (.bool false) h2)
  (ldW .slice (Addr.add c_0 0) (fun (x3 : Option Addr × Nat × Nat) =>
  ptrW x3.1 (fun a4 =>
  idxW r1 x3.2.1 true (stW (Addr.add (Addr.add a4 (Int.toNat r1 * 3)) 1) (.int .u32 addr_2) (fun h5 =>
  K (.bool true) h5) h2))) h2)) h0)
set_option maxRecDepth 100000 in
theorem F33_eq (c_0 : Addr) (block_1 : Int) (addr_2 : Int) (K : Value → Heap → Prop) (h0 : Heap) : funWE Tryz.prog 33 (.seq (.leaf) (.seq (.leaf) (.seq (.seq (.leaf) (.cond (.seq (.leaf) (.leaf)) (.leaf))) (.seq (.leaf) (.seq (.leaf) (.leaf)))))) [.pointer (some c_0), .int .i64 block_1, .int .u32 addr_2] K h0 = F33 c_0 block_1 addr_2 K h0 := by kernel_rfl

-- function 20
set_option maxRecDepth 100000 in
def F20 (c_0 : Addr) (K : Value → Heap → Prop) (h0 : Heap) : Prop := (
  newW (.cells (zeroC Tryz.prog 63) 63) (fun a1 h2 =>
  ldW .ptr (Addr.add c_0 2) (fun (x3 : Option Addr) =>
  callT Tryz.prog 41 [.pointer x3] [.sc (.int .i64), .sc .bool] (fun (r4 : Int × Bool) h5 =>
  br (!r4.2)
  (stLW a1 [.int .i64 0, .int .u32 0, .bool false] (fun h6 =>
  ldAggW [.int .i64, .int .u32, .bool] a1 (fun (x7 : Int × Int × Bool) =>
  K (.tuple #[.agg #[.int .i64 x7.1, .int .u32 x7.2.1, .bool x7.2.2], .bool false]) h6) h6) h5)
  (loopT [.sc (.int .i64)] (fun (s9 : Int) _ (K8 : Int → Heap → Prop) h10 =>
  ldW .slice (Addr.add c_0 1) (fun (x11 : Option Addr × Nat × Nat) =>
  ptrW x11.1 (fun a12 =>
  idxW s9 x11.2.1 true (ldW (.int .i64) (Addr.add a12 (Int.toNat s9 * 1)) (fun (x13 : Int) =>
  br (x13 != r4.1)
  (K8 (IntKind.wrap .i64 (s9 + (1 : Int))) h10)
  (ldW .slice (Addr.add c_0 0) (fun (x14 : Option Addr × Nat × Nat) =>
  ptrW x14.1 (fun a15 =>
  idxW s9 x14.2.1 true (ldAggW [.int .i64, .int .u32, .bool] (Addr.add a15 (Int.toNat s9 * 3)) (fun (x16 : Int × Int × Bool) =>
  stLW a1 [.int .i64 x16.1, .int .u32 x16.2.1, .bool x16.2.2] (fun h17 =>
  ldAggW [.int .i64, .int .u32, .bool] a1 (fun (x18 : Int × Int × Bool) =>
  K (.tuple #[.agg #[.int .i64 x18.1, .int .u32 x18.2.1, .bool x18.2.2], .bool true]) h17) h17) h10) h10))) h10)) h10))) h10) (0 : Int) h5)) h2) h2) h0)
set_option maxRecDepth 100000 in
theorem F20_eq (c_0 : Addr) (K : Value → Heap → Prop) (h0 : Heap) : funWE Tryz.prog 20 (.seq (.leaf) (.seq (.leaf) (.seq (.seq (.leaf) (.cond (.seq (.leaf) (.leaf)) (.leaf))) (.seq (.leaf) (.seq (.block (.loop [(6, .sc (.int .i64))] (.seq (.seq (.leaf) (.cond (.leaf) (.leaf))) (.block (.leaf))))) (.seq (.leaf) (.leaf))))))) [.pointer (some c_0)] K h0 = F20 c_0 K h0 := by kernel_rfl

-- function 34
set_option maxRecDepth 100000 in
def F34 (c_0 : Addr) (block_1 : Int) (K : Value → Heap → Prop) (h0 : Heap) : Prop := (
  callT Tryz.prog 52 [.pointer (some c_0), .int .i64 block_1] [.sc (.int .i64)] (fun (r1 : Int) h2 =>
  br (decide (r1 < (0 : Int)))
  (K (.bool false) h2)
  (ldW .ptr (Addr.add c_0 2) (fun (x3 : Option Addr) =>
  ldW .slice (Addr.add c_0 1) (fun (x4 : Option Addr × Nat × Nat) =>
  ptrW x4.1 (fun a5 =>
  idxW r1 x4.2.1 true (ldW (.int .i64) (Addr.add a5 (Int.toNat r1 * 1)) (fun (x6 : Int) =>
  callT Tryz.prog 56 [.pointer x3, .int .i64 x6] [.sc .bool] (fun (_r7 : Bool) h8 =>
  ldW .slice (Addr.add c_0 0) (fun (x9 : Option Addr × Nat × Nat) =>
  slW x9.1 x9.2.2 3 (0 : Int) r1 (((x9.2.2 : Nat) : Int)) (fun b10 n11 c12 =>
  ldW .slice (Addr.add c_0 0) (fun (x13 : Option Addr × Nat × Nat) =>
  slW x13.1 x13.2.2 3 (IntKind.wrap .i64 (r1 + (1 : Int))) (((x13.2.1 : Nat) : Int)) (((x13.2.2 : Nat) : Int)) (fun b14 n15 c16 =>
  newW (.cells #[] 63) (fun a17 h18 =>
  apW Tryz.prog #[48, 48] #[.slice (some a17) 0 0, .slice b10 n11 c12] (fun b19 n20 c21 h22 =>
  (cellH h22 (Addr.add c_0 0) = some (.slice x13.1 x13.2.1 x13.2.2) ∧ apW Tryz.prog #[48, 48] #[.slice b19 n20 c21, .slice b14 n15 c16] (fun b23 n24 c25 h26 =>
  (cellH h26 (Addr.add c_0 0) = some (.slice x13.1 x13.2.1 x13.2.2) ∧ stW (Addr.add c_0 0) (.slice b23 n24 c25) (fun h27 =>
  ldW .slice (Addr.add c_0 1) (fun (x28 : Option Addr × Nat × Nat) =>
  slW x28.1 x28.2.2 1 (0 : Int) r1 (((x28.2.2 : Nat) : Int)) (fun b29 n30 c31 =>
  ldW .slice (Addr.add c_0 1) (fun (x32 : Option Addr × Nat × Nat) =>
  slW x32.1 x32.2.2 1 (IntKind.wrap .i64 (r1 + (1 : Int))) (((x32.2.1 : Nat) : Int)) (((x32.2.2 : Nat) : Int)) (fun b33 n34 c35 =>
  newW (.cells #[] 3) (fun a36 h37 =>
  apW Tryz.prog #[45, 45] #[.slice (some a36) 0 0, .slice b29 n30 c31] (fun b38 n39 c40 h41 =>
  (cellH h41 (Addr.add c_0 1) = some (.slice x32.1 x32.2.1 x32.2.2) ∧ apW Tryz.prog #[45, 45] #[.slice b38 n39 c40, .slice b33 n34 c35] (fun b42 n43 c44 h45 =>
  (cellH h45 (Addr.add c_0 1) = some (.slice x32.1 x32.2.1 x32.2.2) ∧ stW (Addr.add c_0 1) (.slice b42 n43 c44) (fun h46 =>
  K (.bool true) h46) h45)) h41)) h37) h27)) h27)) h27) h26)) h22)) h18) h8)) h8)) h8) h2) h2))) h2) h2)) h0)
set_option maxRecDepth 100000 in
theorem F34_eq (c_0 : Addr) (block_1 : Int) (K : Value → Heap → Prop) (h0 : Heap) : funWE Tryz.prog 34 (.seq (.leaf) (.seq (.leaf) (.seq (.seq (.leaf) (.cond (.seq (.leaf) (.leaf)) (.leaf))) (.seq (.draw (odp [0, 1, 2, 3, 4, 5, 6, 7, 8, 9, 10, 11] .nil) []) (.seq (.draw (odp [0, 2, 3, 4, 5, 6, 7, 9, 10, 11, 12, 13, 14, 15, 1, 8, 16, 17, 18, 19] .nil) [200012]) (.seq (.draw (odp [0, 2, 3, 4, 5, 6, 7, 9, 10, 11, 12, 13, 14, 15, 1, 8, 16, 17, 18, 19] .nil) [200012]) (.seq (.leaf) (.leaf)))))))) [.pointer (some c_0), .int .i64 block_1] K h0 = F34 c_0 block_1 K h0 := by kernel_rfl

-- function 15
set_option maxRecDepth 100000 in
def F15 (c_0 : Addr) (table_1 : Int) (K : Value → Heap → Prop) (h0 : Heap) : Prop := (
  newW (.cells #[] 63) (fun a1 h2 =>
  loopT [.sc .slice, .sc (.int .i64)] (fun (s4 : (Option Addr × Nat × Nat) × Int) _ (K3 : ((Option Addr × Nat × Nat) × Int) → Heap → Prop) h5 =>
  ldW .slice (Addr.add c_0 0) (fun (x6 : Option Addr × Nat × Nat) =>
  br (decide (s4.2 < (((x6.2.1 : Nat) : Int))))
  (cutT [.sc .bool] (fun (K7 : Bool → Heap → Prop) h14 =>
  ldW .slice (Addr.add c_0 0) (fun (x8 : Option Addr × Nat × Nat) =>
  ptrW x8.1 (fun a9 =>
  idxW s4.2 x8.2.1 true (ldW .bool (Addr.add (Addr.add a9 (Int.toNat s4.2 * 3)) 2) (fun (x10 : Bool) =>
  br x10
  (ldW .slice (Addr.add c_0 0) (fun (x11 : Option Addr × Nat × Nat) =>
  ptrW x11.1 (fun a12 =>
  idxW s4.2 x11.2.1 true (ldW (.int .i64) (Addr.add (Addr.add a12 (Int.toNat s4.2 * 3)) 0) (fun (x13 : Int) =>
  K7 ((IntKind.wrap .i64 (Int.tdiv x13 (4 : Int))) == table_1) h14) h14))) h14)
  (K7 false h14)) h14))) h14) (fun (s15 : Bool) _ h16 =>
  br s15
  (ldW .slice (Addr.add c_0 0) (fun (x17 : Option Addr × Nat × Nat) =>
  ptrW x17.1 (fun a18 =>
  idxW s4.2 x17.2.1 true (ldAggW [.int .i64, .int .u32, .bool] (Addr.add a18 (Int.toNat s4.2 * 3)) (fun (x19 : Int × Int × Bool) =>
  newW (.cells #[.int .i64 x19.1, .int .u32 x19.2.1, .bool x19.2.2] 63) (fun a20 h21 =>
  apW Tryz.prog #[48, 48] #[.slice s4.1.1 s4.1.2.1 s4.1.2.2, .slice (some a20) 1 1] (fun b22 n23 c24 h25 =>
  K3 ((b22, n23, c24), (IntKind.wrap .i64 (s4.2 + (1 : Int)))) h25) h21) h16) h16))) h16)
  (K3 ((s4.1.1, s4.1.2.1, s4.1.2.2), (IntKind.wrap .i64 (s4.2 + (1 : Int)))) h16)) h5)
  (K (.slice s4.1.1 s4.1.2.1 s4.1.2.2) h5)) h5) (((some a1), 0, 0), (0 : Int)) h2) h0)
set_option maxRecDepth 100000 in
theorem F15_eq (c_0 : Addr) (table_1 : Int) (K : Value → Heap → Prop) (h0 : Heap) : funWE Tryz.prog 15 (.seq (.leaf) (.seq (.leaf) (.seq (.seq (.leaf) (.block (.loop [(5, .sc .slice), (6, .sc (.int .i64))] (.seq (.seq (.leaf) (.cond (.leaf) (.leaf))) (.seq (.block (.cut [(37, .sc .bool)] (.leaf) (.cond (.leaf) (.leaf)))) (.leaf)))))) (.seq (.leaf) (.leaf))))) [.pointer (some c_0), .int .i64 table_1] K h0 = F15 c_0 table_1 K h0 := by kernel_rfl

-- function 18
set_option maxRecDepth 100000 in
def F18 (c_0 : Addr) (K : Value → Heap → Prop) (h0 : Heap) : Prop := (
  newW (.cells #[] 3) (fun a1 h2 =>
  loopT [.sc .slice, .sc (.int .i64)] (fun (s4 : (Option Addr × Nat × Nat) × Int) _ (K3 : ((Option Addr × Nat × Nat) × Int) → Heap → Prop) h5 =>
  br (decide (s4.2 < (16 : Int)))
  (callT Tryz.prog 15 [.pointer (some c_0), .int .i64 s4.2] [.sc .slice] (fun (r6 : (Option Addr × Nat × Nat)) h7 =>
  br (decide ((((r6.2.1 : Nat) : Int)) > (0 : Int)))
  (newW (.cells #[.int .i64 s4.2] 3) (fun a8 h9 =>
  apW Tryz.prog #[45, 45] #[.slice s4.1.1 s4.1.2.1 s4.1.2.2, .slice (some a8) 1 1] (fun b10 n11 c12 h13 =>
  K3 ((b10, n11, c12), (IntKind.wrap .i64 (s4.2 + (1 : Int)))) h13) h9) h7)
  (K3 ((s4.1.1, s4.1.2.1, s4.1.2.2), (IntKind.wrap .i64 (s4.2 + (1 : Int)))) h7)) h5)
  (K (.slice s4.1.1 s4.1.2.1 s4.1.2.2) h5)) (((some a1), 0, 0), (0 : Int)) h2) h0)
set_option maxRecDepth 100000 in
theorem F18_eq (c_0 : Addr) (K : Value → Heap → Prop) (h0 : Heap) : funWE Tryz.prog 18 (.seq (.leaf) (.seq (.leaf) (.seq (.seq (.leaf) (.block (.loop [(3, .sc .slice), (4, .sc (.int .i64))] (.seq (.seq (.leaf) (.cond (.leaf) (.leaf))) (.seq (.block (.seq (.leaf) (.cond (.leaf) (.leaf)))) (.leaf)))))) (.seq (.leaf) (.leaf))))) [.pointer (some c_0)] K h0 = F18 c_0 K h0 := by kernel_rfl

-- function 35
set_option maxRecDepth 100000 in
def F35 (c_0 : Addr) (table_1 : Int) (K : Value → Heap → Prop) (h0 : Heap) : Prop := (
  loopT [.sc (.int .i64), .sc (.int .i64)] (fun (s2 : Int × Int) _ (K1 : (Int × Int) → Heap → Prop) h3 =>
  ldW .slice (Addr.add c_0 0) (fun (x4 : Option Addr × Nat × Nat) =>
  br (decide (s2.2 < (((x4.2.1 : Nat) : Int))))
  (cutT [.sc .bool] (fun (K5 : Bool → Heap → Prop) h12 =>
  ldW .slice (Addr.add c_0 0) (fun (x6 : Option Addr × Nat × Nat) =>
  ptrW x6.1 (fun a7 =>
  idxW s2.2 x6.2.1 true (ldW .bool (Addr.add (Addr.add a7 (Int.toNat s2.2 * 3)) 2) (fun (x8 : Bool) =>
  br x8
  (ldW .slice (Addr.add c_0 0) (fun (x9 : Option Addr × Nat × Nat) =>
  ptrW x9.1 (fun a10 =>
  idxW s2.2 x9.2.1 true (ldW (.int .i64) (Addr.add (Addr.add a10 (Int.toNat s2.2 * 3)) 0) (fun (x11 : Int) =>
  K5 ((IntKind.wrap .i64 (Int.tdiv x11 (4 : Int))) == table_1) h12) h12))) h12)
  (K5 false h12)) h12))) h12) (fun (s13 : Bool) _ h14 =>
  br s13
  (ldW .slice (Addr.add c_0 0) (fun (x15 : Option Addr × Nat × Nat) =>
  ptrW x15.1 (fun a16 =>
  idxW s2.2 x15.2.1 true (stW (Addr.add (Addr.add a16 (Int.toNat s2.2 * 3)) 2) (.bool false) (fun h17 =>
  K1 ((IntKind.wrap .i64 (s2.1 + (1 : Int))), (IntKind.wrap .i64 (s2.2 + (1 : Int)))) h17) h14))) h14)
  (K1 (s2.1, (IntKind.wrap .i64 (s2.2 + (1 : Int)))) h14)) h3)
  (K (.int .i64 s2.1) h3)) h3) ((0 : Int), (0 : Int)) h0)
set_option maxRecDepth 100000 in
theorem F35_eq (c_0 : Addr) (table_1 : Int) (K : Value → Heap → Prop) (h0 : Heap) : funWE Tryz.prog 35 (.seq (.leaf) (.seq (.leaf) (.seq (.seq (.leaf) (.block (.loop [(5, .sc (.int .i64)), (6, .sc (.int .i64))] (.seq (.seq (.leaf) (.cond (.leaf) (.leaf))) (.seq (.block (.cut [(36, .sc .bool)] (.leaf) (.cond (.seq (.leaf) (.leaf)) (.leaf)))) (.leaf)))))) (.seq (.leaf) (.leaf))))) [.pointer (some c_0), .int .i64 table_1] K h0 = F35 c_0 table_1 K h0 := by kernel_rfl

end Go.Proofs.YtfanjfbenhocnaaGreatDoor.W
