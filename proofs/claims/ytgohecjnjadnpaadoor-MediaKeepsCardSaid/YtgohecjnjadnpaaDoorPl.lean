/-
  A calculus of weakest preconditions over the heap alone: 'cw' on the model's Code, its formulas, and that it is sound for 'Calls'. Over any program.
-/
import Derived.WalkKit
import Derived.WalkSpells
import Derived.Orders
import Derived.OrdersIn
import Derived.RangeFuncRecord
namespace Go.Pl
open Go

abbrev Heap := Array Obj
def hw (h : Heap) : World := { (default : World) with heap := h }
def cellH (h : Heap) (a : Addr) : Option Value := (hw h).cell? a
def frozenH (h : Heap) (a : Addr) : Bool := (hw h).frozen? a
def setH (h : Heap) (a : Addr) (v : Value) : Heap := ((hw h).setCell a v).heap

theorem cellH_eq (w : World) (a : Addr) : w.cell? a = cellH w.heap a := rfl
theorem frozenH_eq (w : World) (a : Addr) : w.frozen? a = frozenH w.heap a := rfl
theorem setH_eq (w : World) (a : Addr) (v : Value) : (w.setCell a v).heap = setH w.heap a v := rfl

/-- Objects that nothing turns but the loop over a function that they belong to. -/
def pinned : Obj → Bool
  | .deferred (some []) => true
  | .loop r => r.state == .busy
  | _ => false
/-- What of two worlds is the same: all but the heap and the count of draws; pinned objects stay. -/
structure Rest (w w' : World) : Prop where
  os : w'.os = w.os
  tape : w'.tape = w.tape
  output : w'.output = w.output
  size : w.heap.size ≤ w'.heap.size
  keep : ∀ (i : Nat) (o : Obj), w.heap[i]? = some o → pinned o = true → w'.heap[i]? = some o
theorem Rest.refl (w : World) : Rest w w := ⟨rfl, rfl, rfl, Nat.le_refl _, fun _ _ h _ => h⟩
theorem Rest.trans {a b c : World} (h : Rest a b) (k : Rest b c) : Rest a c := ⟨k.os.trans h.os, k.tape.trans h.tape, k.output.trans h.output, Nat.le_trans h.size k.size, fun i o hi hp => k.keep i o (h.keep i o hi hp) hp⟩
theorem pinned_cells {c : Array Value} {t : TypeId} {f : Nat × Nat} : pinned (.cells c t f) = false := rfl
theorem Rest.setCell (w : World) (a : Addr) (v : Value) : Rest w (w.setCell a v) := by
  refine ⟨rfl, rfl, rfl, Nat.le_of_eq (World.size_setCell w a v).symm, fun i o hi hp => ?_⟩
  show (w.heap.modify a.block _)[i]? = _
  obtain ⟨hlt, hk⟩ := Array.getElem?_eq_some_iff.1 hi
  by_cases hb : a.block = i
  · subst hb
    rw [Array.getElem?_eq_getElem (by rw [Array.size_modify]; exact hlt), Array.getElem_modify_self, hk]
    cases o <;> first | rfl | (simp [pinned] at hp)
  · rw [Array.getElem?_eq_getElem (by rw [Array.size_modify]; exact hlt), Array.getElem_modify_of_ne hb, hk]
theorem Rest.alloc (w : World) (o : Obj) : Rest w (w.alloc o) := by
  refine ⟨rfl, rfl, rfl, by rw [World.size_alloc]; omega, fun i o' hi _ => ?_⟩
  obtain ⟨hlt, _⟩ := Array.getElem?_eq_some_iff.1 hi
  show (w.heap.push o)[i]? = _
  rw [Array.getElem?_push, if_neg (by omega)]; exact hi
theorem Rest.of_heap {w w' : World} (h1 : w'.os = w.os) (h2 : w'.tape = w.tape) (h3 : w'.output = w.output) (h4 : w'.heap = w.heap) : Rest w w' :=
  ⟨h1, h2, h3, by rw [h4]; exact Nat.le_refl _, fun i o h _ => by rw [h4]; exact h⟩

/- Kinds of one cell, and of values. -/
inductive CTy where
  | int (k : IntKind) | bool | str | slice | ptr | map | any
inductive Ty where
  | sc (c : CTy) | agg (cs : List CTy) | raw (n : Nat)

def CTy.T : CTy → Type
  | .int _ => Int | .bool => Bool | .str => ByteArray | .slice => Option Addr × Nat × Nat | .ptr => Option Addr | .map => Option Nat | .any => Value
def CTy.val : (c : CTy) → c.T → Value
  | .int k, (n : Int) => .int k n
  | .bool, (b : Bool) => .bool b
  | .str, (s : ByteArray) => .string s
  | .slice, (s : Option Addr × Nat × Nat) => .slice s.1 s.2.1 s.2.2
  | .ptr, (p : Option Addr) => .pointer p
  | .map, (p : Option Nat) => .map p
  | .any, (v : Value) => v
def CT : List CTy → Type
  | [] => Unit
  | c :: cs => match cs with
    | [] => c.T
    | d :: ds => c.T × CT (d :: ds)
def cvals : (cs : List CTy) → CT cs → List Value
  | [], _ => []
  | c :: cs, x => match cs, x with
    | [], x => [c.val x]
    | d :: ds, x => c.val x.1 :: cvals (d :: ds) x.2
def Ty.T : Ty → Type
  | .sc c => c.T | .agg cs => CT cs | .raw n => { l : List Value // l.length = n }
def Ty.val : (t : Ty) → t.T → Value
  | .sc c, x => c.val x
  | .agg cs, x => .agg (cvals cs x).toArray
  | .raw _, x => .agg x.1.toArray
def TT : List Ty → Type
  | [] => Unit
  | c :: cs => match cs with
    | [] => c.T
    | d :: ds => c.T × TT (d :: ds)
def vals : (ts : List Ty) → TT ts → List Value
  | [], _ => []
  | c :: cs, x => match cs, x with
    | [], x => [c.val x]
    | d :: ds, x => c.val x.1 :: vals (d :: ds) x.2
/-- The value that a call gives: one, or a tuple. -/
def retV (ts : List Ty) (s : TT ts) : Value :=
  match vals ts s with
  | [v] => v
  | l => .tuple l.toArray

/- The kind of a type, as the tables have it. -/
def cellTys (P : Program) : Nat → TypeId → List CTy
  | 0, _ => []
  | d + 1, t => match P.underlying t with
    | some (.int k) => [.int k]
    | some .bool => [.bool]
    | some .string => [.str]
    | some (.slice _) => [.slice]
    | some (.pointer _) => [.ptr]
    | some (.map _ _) => [.map]
    | some (.struct fs) => fs.toList.flatMap fun f => cellTys P d f.type
    | some (.array n e) => (List.replicate n (cellTys P d e)).flatten
    | _ => [.any]
def sizeN (P : Program) (t : TypeId) : Nat := match P.info? t with | some i => i.size | none => 0
def sizeO (P : Program) (t : TypeId) : Option Nat := match P.info? t with | some i => some i.size | none => none
def bytesN (P : Program) (t : TypeId) : Nat := match P.info? t with | some i => i.bytes | none => 0
def zeroV (P : Program) (t : TypeId) : Option Value := (P.info? t).bind (·.zero)
/-- The cells of a type's zero value. -/
def zeroC (P : Program) (t : TypeId) : Array Value := match zeroV P t with | some v => v.cells | none => #[]
/-- How many cells a value may have that is laid out cell by cell. -/
def wideAt : Nat := 12
def scTy (P : Program) (t : TypeId) : CTy :=
  match P.underlying t with
  | some (.int k) => .int k
  | some .bool => .bool
  | some .string => .str
  | some (.slice _) => .slice
  | some (.pointer _) => .ptr
  | some (.map _ _) => .map
  | _ => .any
/-- Is a type a struct or an array? And how many cells has a value of it? -/
def aggB (P : Program) (t : TypeId) : Option (Bool × Nat) :=
  match P.info? t, P.underlying t with
  | some i, some (.struct _) => some (true, i.size)
  | some i, some (.array _ _) => some (true, i.size)
  | some i, some _ => some (false, i.size)
  | _, _ => none
def tyOf (P : Program) (t : TypeId) : Ty :=
  match aggB P t with
  | some (true, n) => match Nat.ble n wideAt with | true => .agg (cellTys P 8 t) | false => .raw n
  | _ => .sc (scTy P t)

/- Formulas. -/
def ckB (b : Bool) (F : Prop) : Prop := match b with | true => F | false => False
def br (b : Bool) (A B : Prop) : Prop := match b with | true => A | false => B
def ptrW (p : Option Addr) (F : Addr → Prop) : Prop := match p with | some a => F a | none => False
def pW (v : Value) (F : Addr → Prop) : Prop := match v with | .pointer p => ptrW p F | _ => False
def bW (v : Value) (F : Bool → Prop) : Prop := match v with | .bool b => F b | _ => False
def iW (v : Value) (F : Int → Prop) : Prop := match v with | .int _ n => F n | _ => False
def selV (b : Bool) (x y : Value) : Value := match b with | true => x | false => y
def ldW (c : CTy) (a : Addr) (F : c.T → Prop) (h : Heap) : Prop := ∃ x : c.T, cellH h a = some (c.val x) ∧ F x
def cellsAre (h : Heap) (a : Addr) : Nat → List Value → Prop
  | _, [] => True
  | i, v :: vs => cellH h (a.add i) = some v ∧ cellsAre h a (i + 1) vs
def ldAggW (cs : List CTy) (a : Addr) (F : CT cs → Prop) (h : Heap) : Prop := ∃ s : CT cs, cellsAre h a 0 (cvals cs s) ∧ F s
def ldRawW (n : Nat) (a : Addr) (F : { l : List Value // l.length = n } → Prop) (h : Heap) : Prop := ∃ s : { l : List Value // l.length = n }, cellsAre h a 0 s.1 ∧ F s
def oneC (v : Value) (F : Prop) : Prop := match v with | .agg _ => False | .tuple _ => False | _ => F
def stW (a : Addr) (v : Value) (F : Heap → Prop) (h : Heap) : Prop := ((cellH h a).isSome = true ∧ frozenH h a = false) ∧ F (setH h a v)
/-- Values laid over cells, one behind the other. -/
def wrH (h : Heap) (a : Addr) : Nat → List Value → Heap
  | _, [] => h
  | i, v :: vs => wrH (setH h (a.add i) v) a (i + 1) vs
def canWr (h : Heap) (a : Addr) (i n : Nat) : Prop := ∀ j, j < n → (cellH h (a.add (i + j))).isSome = true ∧ frozenH h (a.add (i + j)) = false
def allOne : List Value → Prop → Prop
  | [], F => F
  | v :: vs, F => oneC v (allOne vs F)
def stLW (a : Addr) (vs : List Value) (F : Heap → Prop) (h : Heap) : Prop := canWr h a 0 vs.length ∧ F (wrH h a 0 vs)
def stRawW (a : Addr) (vs : List Value) (F : Heap → Prop) (h : Heap) : Prop := ((∀ v ∈ vs, v.oneCell' = true) ∧ canWr h a 0 vs.length) ∧ F (wrH h a 0 vs)
def idxW (i : Int) (n : Nat) (b : Bool) (F : Prop) : Prop := ((0 ≤ i ∧ i < (n : Int)) ∧ b = true) ∧ F
def sliceBase (base : Option Addr) (l m size : Nat) : Option Addr := if m = l then base else base.map (·.add (l * size))
def slW (base : Option Addr) (cap size : Nat) (l h m : Int) (F : Option Addr → Nat → Nat → Prop) : Prop :=
  (0 ≤ l ∧ l ≤ h ∧ h ≤ m ∧ m ≤ (cap : Int)) ∧ F (sliceBase base l.toNat m.toNat size) (h.toNat - l.toNat) (m.toNat - l.toNat)
def newW (o : Obj) (F : Addr → Heap → Prop) (h : Heap) : Prop := F ⟨h.size, 0, none⟩ (h.push o)
def zerosOf (P : Program) (e : TypeId) (n : Nat) : Array Value := (Array.range n).map fun i => (zeroC P e)[i % (zeroC P e).size]!
def mkW (P : Program) (e : TypeId) (len cap : Int) (F : Option Addr → Nat → Nat → Heap → Prop) (h : Heap) : Prop :=
  (0 ≤ len ∧ len ≤ cap ∧ bytesN P e * cap ≤ 2 ^ 48 ∧ cap ≤ 9223372036854775807) ∧ F (some ⟨h.size, 0, none⟩) len.toNat cap.toNat (h.push (.cells (zerosOf P e (cap.toNat * sizeN P e)) e))

def CallOk (P : Program) (f : FuncId) : Prop := ∃ fn, P.funcs[f]? = some fn ∧ (fn.name == "runtime.NumGoroutine") = false ∧ fn.body.isNone = false
/-- What a call does, said of the heap. -/
def CallsH (P : Program) (f : FuncId) (args : List Value) (h : Heap) (R : Value → Heap → Prop) : Prop :=
  CallOk P f ∧ ∀ w : World, w.heap = h → Calls P f args.toArray w fun e w' => ∃ v, e = .returned v ∧ R v w'.heap ∧ Rest w w'
theorem CallsH.mono {P : Program} {f : FuncId} {args : List Value} {h : Heap} {R R' : Value → Heap → Prop} (k : CallsH P f args h R) (hr : ∀ v h', R v h' → R' v h') : CallsH P f args h R' :=
  ⟨k.1, fun w hw => (k.2 w hw).mono fun _ _ ⟨v, he, r, q⟩ => ⟨v, he, hr _ _ r, q⟩⟩
/-- What a function without a body does, said of the heap. -/
def extH (P : Program) (f : FuncId) (args : List Value) (h : Heap) (R : Value → Heap → Prop) : Prop :=
  ∀ w : World, w.heap = h → ∃ v w', (callFunc f args.toArray).run P w = .ok (.value v) w' ∧ R v w'.heap ∧ Rest w w'
def CallX (P : Program) (f : FuncId) (args : List Value) (h : Heap) (R : Value → Heap → Prop) : Prop := CallsH P f args h R ∨ extH P f args h R
/-- A call whose results have these kinds. -/
def callT (P : Program) (f : FuncId) (args : List Value) (ts : List Ty) (F : TT ts → Heap → Prop) (h : Heap) : Prop :=
  CallX P f args h fun v h' => ∃ s, v = retV ts s ∧ F s h'
/-- A call of yield, said of the heap: the round gives a bool. -/
def YieldH (P : Program) (l : Nat) (args : List Value) (h : Heap) (R : Bool → Heap → Prop) : Prop :=
  ∀ w : World, w.heap = h → ∃ fn tmps assign body, (Instr.yield l args.toArray).run P w = .ok (.round l fn tmps assign body) w ∧
    RoundIn Fence.wide 0 P l fn tmps assign body w fun e w' => ∃ b, e = .returned (.bool b) ∧ R b w'.heap ∧ Rest w w'
theorem YieldH.mono {P : Program} {l : Nat} {args : List Value} {h : Heap} {R R' : Bool → Heap → Prop} (k : YieldH P l args h R) (hr : ∀ v h', R v h' → R' v h') : YieldH P l args h R' :=
  fun w hw => let ⟨fn, tmps, assign, body, h1, h2⟩ := k w hw; ⟨fn, tmps, assign, body, h1, h2.mono fun _ _ ⟨v, he, r, q⟩ => ⟨v, he, hr _ _ r, q⟩⟩
def yieldT (P : Program) (l : Nat) (args : List Value) (F : Bool → Heap → Prop) (h : Heap) : Prop := YieldH P l args h F
def resTys (P : Program) (f : FuncId) : List Ty := match P.funcs[f]? with | some fn => fn.resultTypes.toList.map (tyOf P) | none => []

/-- A call of a function's value that is known by the run alone, its result of kind T. -/
def callW (P : Program) (T : Ty) (v : Value) (args : List Value) (K : T.T → Heap → Prop) (h : Heap) : Prop :=
  match v with
  | .func (.func g) first captured => CallsH P g (first.toList ++ args ++ captured.toList) h fun r h' => ∃ s : T.T, r = T.val s ∧ K s h'
  | .func (.yield l) first captured => match first.toList, captured.toList with
    | [], [] => yieldT P l args (fun b h' => ∃ s : T.T, Value.bool b = T.val s ∧ K s h') h
    | _, _ => False
  | _ => False
/-- A call of a method through an interface's value, its result of kind T. -/
def invW (P : Program) (T : Ty) (v : Value) (name : String) (args : List Value) (K : T.T → Heap → Prop) (h : Heap) : Prop :=
  match v with
  | .iface t u => ∃ f r, (∀ w : World, (method (P.types.size + Made.depth) t u name).run P w = .ok (f, r) w) ∧ CallX P f (r :: args) h fun x h' => ∃ s : T.T, x = T.val s ∧ K s h'
  | _ => False
def callO (P : Program) (t : TypeId) (v : Value) (args : List Value) (K : Value → Heap → Prop) (h : Heap) : Prop := callW P (tyOf P t) v args (fun s h' => K ((tyOf P t).val s) h') h
/-- An operation of any other kind, as it runs. -/
def GenO (P : Program) (o : Oper) (ρ : Operand → Value) (K : Value → Heap → Prop) (h : Heap) : Prop :=
  ∀ w : World, w.heap = h → ∃ v w', ((execOp ρ o).run P w = .ok (.value v) w' ∨ (execOp ρ o).run P w = .ok .skip w' ∧ v = undef) ∧ K v w'.heap ∧ Rest w w'
def apW (P : Program) (ts : Array TypeId) (args : Array Value) (F : Option Addr → Nat → Nat → Heap → Prop) (h : Heap) : Prop :=
  ∀ w : World, w.heap = h → ∃ a n c w', (Builtin.append_ ts 0 args).run P w = .ok (.slice a n c) w' ∧ F a n c w'.heap ∧ Rest w w'
def cpW (P : Program) (ts : Array TypeId) (args : Array Value) (F : Int → Heap → Prop) (h : Heap) : Prop :=
  ∀ w : World, w.heap = h → ∃ n w', (Builtin.copy_ ts 0 args).run P w = .ok (.int .i64 n) w' ∧ F n w'.heap ∧ Rest w w'

def clW (P : Program) (ts : Array TypeId) (args : Array Value) (F : Heap → Prop) (h : Heap) : Prop :=
  ∀ w : World, w.heap = h → ∃ w', (Builtin.clear_ ts 0 args).run P w = .ok (.tuple #[]) w' ∧ F w'.heap ∧ Rest w w'
def dlW (P : Program) (ts : Array TypeId) (args : Array Value) (F : Heap → Prop) (h : Heap) : Prop :=
  ∀ w : World, w.heap = h → ∃ w', (Builtin.delete_ ts 0 args).run P w = .ok (.tuple #[]) w' ∧ F w'.heap ∧ Rest w w'

/-- A new map; what a map says of a key; a key has a value. -/
def mkmW (P : Program) (t : TypeId) (F : Option Nat → Heap → Prop) (h : Heap) : Prop :=
  ∀ w : World, w.heap = h → ∃ r w', (Instr.makeMap t none).run P w = .ok (.map r) w' ∧ F r w'.heap ∧ Rest w w'
def lkW (P : Program) (t : TypeId) (T : Ty) (m k : Value) (F : T.T → Prop) (h : Heap) : Prop :=
  ∀ w : World, w.heap = h → ∃ s : T.T, (Instr.lookup t m k false).run P w = .ok (T.val s) w ∧ F s
def muW (P : Program) (t : TypeId) (m k x : Value) (F : Heap → Prop) (h : Heap) : Prop :=
  ∀ w : World, w.heap = h → ∃ w', (Instr.mapUpdate t m k x).run P w = .ok () w' ∧ F w'.heap ∧ Rest w w'
/-- What a map says of a key, and whether it has it; how many entries it has; a walk through one: its start, a step, the step's entry. -/
def lk2W (P : Program) (t : TypeId) (T : Ty) (m k : Value) (F : T.T → Bool → Prop) (h : Heap) : Prop :=
  ∀ w : World, w.heap = h → ∃ (s : T.T) (b : Bool), (Instr.lookup t m k true).run P w = .ok (.tuple #[T.val s, .bool b]) w ∧ F s b
def lnW (P : Program) (ts : Array TypeId) (t : TypeId) (args : Array Value) (F : Int → Prop) (h : Heap) : Prop :=
  ∀ w : World, w.heap = h → ∃ n : Int, (Builtin.len_ ts t args).run P w = .ok (.int .i64 n) w ∧ F n
def rgW (P : Program) (t : TypeId) (x : Value) (F : Addr → Heap → Prop) (h : Heap) : Prop :=
  ∀ w : World, w.heap = h → ∃ a w', (Instr.range t x).run P w = .ok (.pointer (some a)) w' ∧ F a w'.heap ∧ Rest w w'
def nxW (P : Program) (t : TypeId) (it : Value) (Ff : Heap → Prop) (Ft : Value → Value → Heap → Prop) (h : Heap) : Prop :=
  ∀ w : World, w.heap = h → ∃ w', (((Instr.next it false t).run P w = .ok (.tuple #[.bool false]) w' ∧ Ff w'.heap) ∨ ∃ k x, (Instr.next it false t).run P w = .ok (.tuple #[.bool true, k, x]) w' ∧ Ft k x w'.heap) ∧ Rest w w'
def enW (P : Program) (it : Value) (F : Value → Value → Prop) (h : Heap) : Prop :=
  ∀ w : World, w.heap = h → ∃ k x : Value, (Instr.entry it).run P w = .ok (.tuple #[k, x]) w ∧ F k x
def kEq (k k' : IntKind) : Bool := match k, k' with
  | .i8, .i8 | .i16, .i16 | .i32, .i32 | .i64, .i64 | .u8, .u8 | .u16, .u16 | .u32, .u32 | .u64, .u64 => true
  | _, _ => false
def binIntW (op : BinOp) (k k' : IntKind) (a b : Int) (K : Value → Prop) : Prop :=
  match op with
  | .shl => ckB (decide (0 ≤ b)) (K (.int k (k.wrap (a * 2 ^ (min b.toNat k.bits)))))
  | .shr => ckB (decide (0 ≤ b)) (K (.int k (a.fdiv (2 ^ (min b.toNat k.bits)))))
  | .add => ckB (kEq k k') (K (.int k (k.wrap (a + b))))
  | .sub => ckB (kEq k k') (K (.int k (k.wrap (a - b))))
  | .mul => ckB (kEq k k') (K (.int k (k.wrap (a * b))))
  | .quo => ckB (kEq k k') (ckB (!decide (b = 0)) (K (.int k (k.wrap (a.tdiv b)))))
  | .rem => ckB (kEq k k') (ckB (!decide (b = 0)) (K (.int k (a.tmod b))))
  | .and => ckB (kEq k k') (K (.int k (k.wrap (BitVec.ofInt k.bits a &&& BitVec.ofInt k.bits b).toNat)))
  | .or => ckB (kEq k k') (K (.int k (k.wrap (BitVec.ofInt k.bits a ||| BitVec.ofInt k.bits b).toNat)))
  | .xor => ckB (kEq k k') (K (.int k (k.wrap (BitVec.ofInt k.bits a ^^^ BitVec.ofInt k.bits b).toNat)))
  | .andNot => ckB (kEq k k') (K (.int k (k.wrap (BitVec.ofInt k.bits a &&& ~~~(BitVec.ofInt k.bits b)).toNat)))
  | .eql => ckB (kEq k k') (K (.bool (a == b)))
  | .neq => ckB (kEq k k') (K (.bool (a != b)))
  | .lss => ckB (kEq k k') (K (.bool (decide (a < b))))
  | .leq => ckB (kEq k k') (K (.bool (decide (a ≤ b))))
  | .gtr => ckB (kEq k k') (K (.bool (decide (a > b))))
  | .geq => ckB (kEq k k') (K (.bool (decide (a ≥ b))))
/-- Is an interface's value nil? -/
def isNilV (v : Value) : Bool := match v with | .nilIface => true | _ => false
def IsIf (v : Value) : Prop := v = .nilIface ∨ ∃ t u, v = .iface t u
def ifW (v : Value) (F : Prop) : Prop := IsIf v ∧ F
/-- '==' of two structs or arrays: as it runs. -/
def eqGen (P : Program) (t : TypeId) (x y : Value) (F : Bool → Prop) : Prop := ∃ b : Bool, (∀ w, (Op.equal t x y).run P w = .ok b w) ∧ F b
/-- What '==' gives: of an interface against the literal nil, of a pointer or a slice against nil, of bools, strings, structs, arrays. -/
def eqlV (P : Program) (t : TypeId) (x y : Value) (cy : Bool) (K : Bool → Prop) : Option Prop :=
  match y with
  | .nilIface => match P.underlying t, cy with | some (.interface _), true => some (ifW x (K (isNilV x))) | _, _ => none
  | .pointer none => match x, P.underlying t with | .pointer a, some (.pointer _) => some (K a.isNone) | _, _ => none
  | .slice none _ _ => match x, P.underlying t with | .slice a _ _, some (.slice _) => some (K a.isNone) | _, _ => none
  | .bool b => match x, P.underlying t with | .bool a, some .bool => some (K (a == b)) | _, _ => none
  | .agg ys => match x with | .agg xs => (match P.eqGuardType P.depth t with | false => some (eqGen P t (.agg xs) (.agg ys) K) | true => none) | _ => none
  | _ => none
/-- Is a type an interface type? -/
def ifB (P : Program) (t : TypeId) : Bool := match P.underlying t with | some (.interface _) => true | _ => false
/-- '==' of two interfaces' values, of which not both are nil. -/
def eqIf (P : Program) (t : TypeId) (x y : Value) (F : Bool → Prop) : Prop := (IsIf x ∧ IsIf y ∧ ¬ (x = .nilIface ∧ y = .nilIface)) ∧ eqGen P t x y F
/-- Are all the wanted methods there? -/
def gotAll (want : Array (String × TypeId)) (got : Array Method) : Bool :=
  (want.toList.filter fun (name, sig) => !got.any fun m => m.name == name && m.sig == sig).isEmpty
/-- Has a type the methods of an interface type? -/
def hasB (P : Program) (t u : TypeId) : Option Bool := match P.underlying t, P.info? u with
  | some (.interface want), some i => some (gotAll want i.methods)
  | _, _ => none
/-- 'x.(t)', t an interface type. -/
def asI (P : Program) (t : TypeId) (x : Value) (Y N : Prop) : Prop :=
  match x with
  | .nilIface => N
  | .iface u _ => match hasB P t u with | some true => Y | some false => N | none => False
  | _ => False
def unW (op : UnOp) (x : Value) (K : Value → Prop) : Option Prop :=
  match op, x with
  | .not, .bool b => some (K (.bool (!b)))
  | .neg, .int k n => some (K (.int k (k.wrap (0 - n))))
  | _, _ => none
def ldT (P : Program) (t : TypeId) (a : Addr) (K : Value → Prop) (h : Heap) : Prop :=
  match aggB P t with
  | some (false, _) => ldW (scTy P t) a (fun x => K ((scTy P t).val x)) h
  | some (true, n) => match Nat.ble n wideAt with
    | true => ldAggW (cellTys P 8 t) a (fun s => ckB (Nat.beq (cvals (cellTys P 8 t) s).length n) <| K (.agg (cvals (cellTys P 8 t) s).toArray)) h
    | false => ldRawW n a (fun s => K (.agg s.1.toArray)) h
  | none => False
def stT (P : Program) (t : TypeId) (a : Addr) (v : Value) (F : Heap → Prop) (h : Heap) : Prop :=
  match aggB P t with
  | some (false, n) => match n with | 1 => oneC v (stW a v F h) | _ => False
  | some (true, n) => match v with
    | .agg cs => (match Nat.ble n wideAt with
      | true => (match Nat.beq cs.toList.length n with | true => allOne cs.toList (stLW a cs.toList F h) | false => False)
      | false => cs.toList.length = n ∧ stRawW a cs.toList F h)
    | _ => False
  | none => False
/-- A part of a value: 'cs' its cells, from 'off' on. -/
def partT (P : Program) (t : TypeId) (cs : List Value) (off : Nat) (K : Value → Prop) : Prop :=
  match aggB P t with
  | some (false, _) => match cs[off]? with | some v => K v | none => False
  | some (true, n) => K (.agg ((cs.drop off).take n).toArray)
  | none => False
/-- An element of an array's value at a place that is known by the run alone. -/
def elemT (P : Program) (t : TypeId) (cs : List Value) (off : Nat) (K : Value → Prop) : Prop :=
  match aggB P t with
  | some (false, _) => ∃ x : (scTy P t).T, cs[off]? = some ((scTy P t).val x) ∧ K ((scTy P t).val x)
  | some (true, n) => ∃ s : CT (cellTys P 8 t), ((cs.drop off).take n = cvals (cellTys P 8 t) s) ∧ K (.agg (cvals (cellTys P 8 t) s).toArray)
  | none => False
def buildT (P : Program) (t : TypeId) (parts : List (Nat × Value)) (K : Value → Prop) : Prop :=
  match P.built t parts with | some cs => K (.agg cs.toList.toArray) | none => False
/-- Is a field told by the run alone (an interface's, a function's value)? -/
def anyPart (P : Program) (t : TypeId) (i : Nat) : Bool := match P.underlying t with
  | some (.struct fs) => match fs[i]? with
    | some f => match aggB P f.type, scTy P f.type with | some (false, _), .any => true | _, _ => false
    | none => false
  | _ => false
def hasAny (P : Program) (t : TypeId) : List Nat → Bool
  | [] => false
  | i :: is => match anyPart P t i with | true => true | false => hasAny P t is
def buildA (P : Program) (t : TypeId) (cs : List CTy) (parts : List (Nat × Value)) (K : CT cs → Prop) : Prop :=
  ∃ s : CT cs, P.built t parts = some (cvals cs s).toArray ∧ K s
def buildSliceT (P : Program) (t : TypeId) (len : Nat) (parts : List (Nat × Value)) (K : Value → Heap → Prop) (h : Heap) : Prop :=
  match P.underlying t with
  | some (.slice e) => match sizeO P e, zeroV P e with
    | some n, some _ => match Nat.ble (len * n) (2 ^ 24), Instr.fill (fun i => some (i * n, n)) (zerosOf P e (len * n)) parts with
      | true, some cs => newW (.cells cs.toList.toArray e) (fun a h' => K (.slice (some a) len len) h') h
      | _, _ => False
    | _, _ => False
  | _ => False
def optI (v : Option Value) (d : Int) (F : Int → Prop) : Prop := match v with | some v => iW v F | none => F d
def hxB (hi mx : Option Value) : Bool := match hi, mx with | none, some _ => false | _, _ => true
def sliceT (P : Program) (t : TypeId) (x : Value) (lo hi mx : Option Value) (K : Value → Prop) : Prop :=
  match P.underlying t with
  | some (.array n e) => match sizeO P e with
    | some z => ckB (hxB hi mx) <| pW x fun a => optI mx n fun m => optI hi n fun h => optI lo 0 fun l => slW (some a) n z l h m fun b k c => K (.slice b k c)
    | none => False
  | some (.slice e) => match x with
    | .slice a len cap => (match sizeO P e with
      | some z => ckB (hxB hi mx) <| optI mx cap fun m => optI hi len fun h => optI lo 0 fun l => slW a cap z l h m fun b k c => K (.slice b k c)
      | none => False)
    | _ => False
  | some .string => match x, mx with
    | .string s, none => optI hi s.size fun h => optI lo 0 fun l => (0 ≤ l ∧ l ≤ h ∧ h ≤ (s.size : Int)) ∧ K (.string (s.extract l.toNat h.toNat))
    | _, _ => False
  | _ => False
def lenT (P : Program) (t : TypeId) (x : Value) (K : Value → Prop) : Option Prop :=
  match P.underlying t, x with
  | some .string, .string s => some (K (.int .i64 s.size))
  | some (.slice _), .slice _ n _ => some (K (.int .i64 n))
  | some (.array n _), _ => some (K (.int .i64 n))
  | _, _ => none
def capT (P : Program) (t : TypeId) (x : Value) (K : Value → Prop) : Option Prop :=
  match P.underlying t, x with
  | some (.slice _), .slice _ _ n => some (K (.int .i64 n))
  | _, _ => none
def mm2 (mx : Bool) (x y : Int) : Int := match mx with | true => if y > x then y else x | false => if y < x then y else x
def mmT (mx : Bool) (args : List Value) (K : Value → Prop) : Option Prop :=
  match args with
  | [.int k x, .int _ y] => some (K (.int k (mm2 mx x y)))
  | _ => none
/-- 'x.(t)', t no interface type: with what it holds, or not. -/
def asW (T : Ty) (x : Value) (t : TypeId) (Y : T.T → Prop) (N : Prop) : Prop :=
  match x with
  | .nilIface => N
  | .iface u v => match Nat.beq u t with | true => ∃ y : T.T, v = T.val y ∧ Y y | false => N
  | _ => False
def orG (f : Option Prop) (g : Prop) : Prop := match f with | some p => p | none => g
def isC : Operand → Bool | .const _ => true | _ => false
/-- An operation of two operands, neither of which is an interface's value that is no literal. -/
def binP (P : Program) (op : BinOp) (t : TypeId) (vx vy : Value) (cy : Bool) (K : Value → Prop) : Option Prop :=
  match vy with
  | .nilIface => (match op with
    | .eql => eqlV P t vx .nilIface cy fun b => K (.bool b)
    | .neq => eqlV P t vx .nilIface cy fun b => K (.bool (!b))
    | _ => none)
  | vy => match op , vx, vy with
    | op, .int k a, .int k' b => some (binIntW op k k' a b K)
    | .eql, .string a, .string b => some (K (.bool (a.toList == b.toList)))
    | .neq, .string a, .string b => some (K (.bool (!(a.toList == b.toList))))
    | .add, .string a, .string b => some (a.size + b.size ≤ 9223372036854775807 ∧ K (.string (a ++ b)))
    | .eql, vx, vy => eqlV P t vx vy cy fun b => K (.bool b)
    | .neq, vx, vy => eqlV P t vx vy cy fun b => K (.bool (!b))
    | _, _, _ => none
/-- An operation that neither reads nor turns memory: none where it is another kind. -/
def opP (P : Program) (o : Op) (ρ : Operand → Value) (K : Value → Prop) : Option Prop :=
  match o with
  | .move x | .assign x => some (K (ρ x))
  | .pick c a b => some (bW (ρ c) fun t => K (selV t (ρ a) (ρ b)))
  | .build t parts => match hasAny P t (parts.toList.map (·.1)) with
    | true => some (buildA P t (cellTys P 8 t) (parts.toList.map fun p => (p.1, ρ p.2)) fun s => K (.agg (cvals (cellTys P 8 t) s).toArray))
    | false => some (buildT P t (parts.toList.map fun p => (p.1, ρ p.2)) K)
  | .nilCheck x => match ρ x with
    | .pointer p => some (ptrW p fun a => K (.pointer (some a)))
    | .func (.func f) first captured => some (K (.func (.func f) first captured))
    | .func (.yield f) first captured => some (K (.func (.yield f) first captured))
    | _ => none
  | .binOp op t x y _ => match ifB P t, isC y with
    | true, false => match op with
      | .eql => some (eqIf P t (ρ x) (ρ y) fun b => K (.bool b))
      | .neq => some (eqIf P t (ρ x) (ρ y) fun b => K (.bool (!b)))
      | _ => none
    | _, _ => binP P op t (ρ x) (ρ y) (isC y) K
  | .unOp op _ x => unW op (ρ x) K
  | .convert s d x => match P.underlying s, P.underlying d, ρ x with
    | some _, some (.int k), .int _ n => some (K (.int k (k.wrap n)))
    | some _, some .string, .string b => some (K (.string b))
    | _, _, _ => none
  | .fieldAddr s x f => match P.underlying s with
    | some (.struct fs) => match fs[f]? with
      | some fd => match sizeO P fd.type with | some (_ + 1) => some (pW (ρ x) fun a => K (.pointer (some (a.add fd.offset)))) | _ => none
      | none => none
    | _ => none
  | .field t x f => match P.underlying t, ρ x with
    | some (.struct fs), .agg cs => match fs[f]? with | some fd => some (partT P fd.type cs.toList fd.offset K) | none => none
    | _, _ => none
  | .indexAddr t x i => match P.underlying t with
    | some (.array n e) => some (pW (ρ x) fun a => iW (ρ i) fun j => idxW j n (sizeO P e).isSome (K (.pointer (some (a.add (j.toNat * sizeN P e))))))
    | some (.slice e) => match ρ x with
      | .slice b n _ => some (iW (ρ i) fun j => ptrW b fun a => idxW j n (sizeO P e).isSome (K (.pointer (some (a.add (j.toNat * sizeN P e))))))
      | _ => none
    | _ => none
  | .index t x i => match P.underlying t, ρ x with
    | some (.array n e), .agg cs => some (iW (ρ i) fun j => idxW j n (sizeO P e).isSome (elemT P e cs.toList (j.toNat * sizeN P e) K))
    | some .string, .string s => some (iW (ρ i) fun j => 0 ≤ j ∧ ∃ b : UInt8, s[j.toNat]? = some b ∧ K (.int .u8 b.toNat))
    | _, _ => none
  | .slice t x lo hi mx => some (sliceT P t (ρ x) (lo.map ρ) (hi.map ρ) (mx.map ρ) K)
  | .makeInterface t x => match P.underlying t with | some (.interface _) => none | some _ => some (K (.iface t (ρ x))) | none => none
  | .makeFunc fn first captured => some (K (.func fn (first.toList.map ρ).toArray (captured.toList.map ρ).toArray))
  | .typeAssert x _ t ok => match ok with
    | true => match P.underlying t, zeroV P t with
      | some (.interface _), some z => some (asI P t (ρ x) (K (.tuple #[ρ x, .bool true])) (K (.tuple #[z, .bool false])))
      | some _, some z => some (asW (tyOf P t) (ρ x) t (fun y => K (.tuple #[(tyOf P t).val y, .bool true])) (K (.tuple #[z, .bool false])))
      | _, _ => none
    | false => none
  | .extract t i => match ρ t with | .tuple vs => (match vs.toList[i]? with | some v => some (K v) | none => none) | _ => none
  | .call c => match c.callee with
    | .builtin .len => match c.argTypes.toList, c.args.toList with | [t], [x] => lenT P t (ρ x) K | _, _ => none
    | .builtin .cap => match c.argTypes.toList, c.args.toList with | [t], [x] => capT P t (ρ x) K | _, _ => none
    | .builtin .max => mmT true (c.args.toList.map ρ) K
    | .builtin .min => mmT false (c.args.toList.map ρ) K
    | _ => none
  | _ => none
/-- An operation that reads or turns memory, or calls. -/
def opH (P : Program) (o : Oper) (ρ : Operand → Value) (K : Value → Heap → Prop) (h : Heap) : Prop :=
  match o.op with
  | .load t a => pW (ρ a) fun p => ldT P t p (fun v => K v h) h
  | .store t a v => pW (ρ a) fun p => stT P t p (ρ v) (fun h' => K undef h') h
  | .alloc e => match zeroV P e with | some _ => newW (.cells (zeroC P e) e) (fun a h' => K (.pointer (some a)) h') h | none => False
  | .box e x => newW (.cells (ρ x).cells e) (fun a h' => K (.pointer (some a)) h') h
  | .buildSlice t len parts => buildSliceT P t len (parts.toList.map fun p => (p.1, ρ p.2)) K h
  | .makeSlice t l c => match P.underlying t with
    | some (.slice e) => match zeroV P e with
      | some _ => iW (ρ l) fun l => iW (ρ c) fun c => mkW P e l c (fun a n k h' => K (.slice a n k) h') h
      | none => False
    | _ => False
  | .call c => match c.callee with
    | .value f => match f with
      | .func _ => (match ρ f with
        | .func (.func g) first captured => callT P g (first.toList ++ c.args.toList.map ρ ++ captured.toList) (resTys P g) (fun s h' => K (retV (resTys P g) s) h') h
        | _ => False)
      | _ => callO P o.type (ρ f) (c.args.toList.map ρ) K h
    | .invoke r name => invW P (tyOf P o.type) (ρ r) name (c.args.toList.map ρ) (fun s h' => K ((tyOf P o.type).val s) h') h
    | .builtin .panic => False
    | .builtin .append => apW P c.argTypes.toList.toArray (c.args.toList.map ρ).toArray (fun a n k h' => K (.slice a n k) h') h
    | .builtin .copy => cpW P c.argTypes.toList.toArray (c.args.toList.map ρ).toArray (fun n h' => K (.int .i64 n) h') h
    | .builtin .clear => clW P c.argTypes.toList.toArray (c.args.toList.map ρ).toArray (fun h' => K (.tuple #[]) h') h
    | .builtin .delete => dlW P c.argTypes.toList.toArray (c.args.toList.map ρ).toArray (fun h' => K (.tuple #[]) h') h
    | .builtin .len => lnW P c.argTypes.toList.toArray o.type (c.args.toList.map ρ).toArray (fun n => K (.int .i64 n) h) h
    | _ => GenO P o ρ K h
  | .panic _ => False
  | .makeMap t r => match r with | none => mkmW P t (fun r h' => K (.map r) h') h | some _ => GenO P o ρ K h
  | .lookup t m k ok => match ok, P.underlying t with | false, some (.map _ e) => lkW P t (tyOf P e) (ρ m) (ρ k) (fun s => K ((tyOf P e).val s) h) h | true, some (.map _ e) => lk2W P t (tyOf P e) (ρ m) (ρ k) (fun s b => K (.tuple #[(tyOf P e).val s, .bool b]) h) h | _, _ => GenO P o ρ K h
  | .mapUpdate t m k x => muW P t (ρ m) (ρ k) (ρ x) (fun h' => K undef h') h
  | .range t x => match P.underlying t with | some (.map _ _) => rgW P t (ρ x) (fun a h' => K (.pointer (some a)) h') h | _ => GenO P o ρ K h
  | .next it s => match s with | false => nxW P o.type (ρ it) (fun h' => K (.tuple #[.bool false]) h') (fun k x h' => K (.tuple #[.bool true, k, x]) h') h | true => GenO P o ρ K h
  | .entry it => enW P (ρ it) (fun k x => K (.tuple #[k, x]) h) h
  | _ => GenO P o ρ K h
/-- THE FORMULA OF ONE OPERATION. -/
def opW (P : Program) (o : Oper) (ρ : Operand → Value) (K : Value → Heap → Prop) (h : Heap) : Prop :=
  orG (opP P o.op ρ fun v => K v h) (opH P o ρ K h)
/- THE OPERATIONS: that each formula is true of the run. -/
section
variable {P : Program}
theorem run_underlying' {t : TypeId} {d : TypeDesc} (h : P.underlying t = some d) (w : World) : (underlying t).run P w = .ok d w := by simp [underlying, h]
theorem run_typeInfo' {t : TypeId} {i : TypeInfo} (h : P.info? t = some i) (w : World) : (typeInfo t).run P w = .ok i w := by simp [typeInfo, h]
theorem run_sizeOf' {t : TypeId} {i : TypeInfo} (h : P.info? t = some i) (w : World) : (sizeOf t).run P w = .ok i.size w := by simp [sizeOf, run_typeInfo' h]
theorem aggB_spec {t : TypeId} {b : Bool} {n : Nat} (h : aggB P t = some (b, n)) : (∃ i, P.info? t = some i ∧ i.size = n) ∧ ∀ w, (isAgg t).run P w = .ok b w := by
  unfold aggB at h
  cases hi : P.info? t with
  | none => simp [hi] at h
  | some i =>
    cases hd : P.underlying t with
    | none => cases d : i.desc <;> simp [hi, hd] at h
    | some d =>
      simp only [hi, hd] at h
      refine ⟨⟨i, rfl, ?_⟩, fun w => ?_⟩
      · cases d <;> simp at h <;> exact h.2
      · cases d <;> simp at h <;> obtain ⟨rfl, _⟩ := h <;> simp [isAgg, run_underlying' hd]
theorem ptrW_spec {p : Option Addr} {F : Addr → Prop} (h : ptrW p F) : ∃ a, p = some a ∧ F a := by
  cases p with
  | none => exact h.elim
  | some a => exact ⟨a, rfl, h⟩
theorem pW_spec {v : Value} {F : Addr → Prop} (h : pW v F) : ∃ a, v = .pointer (some a) ∧ F a := by
  cases v <;> try exact h.elim
  rename_i p
  obtain ⟨a, rfl, h⟩ := ptrW_spec (p := p) h
  exact ⟨a, rfl, h⟩
theorem bW_spec {v : Value} {F : Bool → Prop} (h : bW v F) : ∃ b, v = .bool b ∧ F b := by
  cases v <;> try exact h.elim
  exact ⟨_, rfl, h⟩
theorem iW_spec {v : Value} {F : Int → Prop} (h : iW v F) : ∃ k n, v = .int k n ∧ F n := by
  cases v <;> try exact h.elim
  exact ⟨_, _, rfl, h⟩
theorem ckB_spec {b : Bool} {F : Prop} (h : ckB b F) : b = true ∧ F := by
  cases b with
  | false => exact h.elim
  | true => exact ⟨rfl, h⟩
theorem cellsAre_spec {h : Heap} {a : Addr} : ∀ (vs : List Value) (i : Nat), cellsAre h a i vs → ∀ j v, vs[j]? = some v → cellH h (a.add (i + j)) = some v
  | [], _, _, j, v, hj => by simp at hj
  | x :: vs, i, hc, 0, v, hj => by simp at hj; subst hj; simpa using hc.1
  | x :: vs, i, hc, j + 1, v, hj => by
    have := cellsAre_spec vs (i + 1) hc.2 j v (by simpa using hj)
    rwa [show i + 1 + j = i + (j + 1) by omega] at this
theorem run_loadT {t : TypeId} {a : Addr} {K : Value → Prop} {h : Heap} (hK : ldT P t a K h) (w : World) (e : w.heap = h) : ∃ v, (loadVar t a).run P w = .ok v w ∧ K v := by
  unfold ldT at hK
  split at hK
  · rename_i n ha
    obtain ⟨⟨i, hi, rfl⟩, hagg⟩ := aggB_spec ha
    obtain ⟨x, hc, hk⟩ := hK
    rw [← e, ← cellH_eq] at hc
    exact ⟨_, by simp [loadVar, hagg, hc], hk⟩
  · rename_i n ha
    obtain ⟨⟨i, hi, rfl⟩, hagg⟩ := aggB_spec ha
    split at hK
    · obtain ⟨s, hc, hk⟩ := hK
      obtain ⟨hl, hk⟩ := ckB_spec hk
      have hl := Nat.eq_of_beq_eq_true hl
      have hr := run_loadCells_list (P := P) w a (cvals _ s) (fun j v hj => by have := cellsAre_spec _ _ hc j v hj; rw [← e, ← cellH_eq] at this; simpa using this)
      rw [hl] at hr
      exact ⟨_, by simp [loadVar, hagg, run_sizeOf' hi, hr], hk⟩
    · obtain ⟨s, hc, hk⟩ := hK
      have hr := run_loadCells_list (P := P) w a s.1 (fun j v hj => by have := cellsAre_spec _ _ hc j v hj; rw [← e, ← cellH_eq] at this; simpa using this)
      rw [s.2] at hr
      exact ⟨_, by simp [loadVar, hagg, run_sizeOf' hi, hr], hk⟩
  · exact hK.elim
theorem oneC_spec {v : Value} {F : Prop} (h : oneC v F) : v.oneCell' = true ∧ F := by
  cases v <;> first | exact ⟨rfl, h⟩ | exact h.elim
theorem allOne_spec {F : Prop} : ∀ {vs : List Value}, allOne vs F → (∀ v ∈ vs, v.oneCell' = true) ∧ F
  | [], h => ⟨by simp, h⟩
  | v :: vs, h => by
    obtain ⟨h1, h2⟩ := oneC_spec h
    obtain ⟨h3, h4⟩ := allOne_spec h2
    exact ⟨by simpa using ⟨h1, h3⟩, h4⟩
theorem cellH_setH_some {h : Heap} {a b : Addr} {v : Value} (hb : (cellH h b).isSome = true) : (cellH (setH h a v) b).isSome = true := by
  by_cases e : a = b
  · subst e
    have := World.cell?_setCell_same' (hw h) a v hb
    show (((hw h).setCell a v).cell? a).isSome = true
    rw [this]; rfl
  · show (((hw h).setCell a v).cell? b).isSome = true
    rw [World.cell?_setCell_other (h := e)]; exact hb
theorem frozenH_setH {h : Heap} {a b : Addr} {v : Value} : frozenH (setH h a v) b = frozenH h b := World.frozen?_setCell (w := hw h) (a := a) (b := b) (v := v)
theorem run_store_cell {w : World} {a : Addr} {v : Value} (hv : v.oneCell' = true) (hs : (cellH w.heap a).isSome = true) (hf : frozenH w.heap a = false) : (store a v).run P w = .ok () (w.setCell a v) := by
  rw [run_store P w a v .plain hv]
  rw [← cellH_eq] at hs
  rw [← frozenH_eq] at hf
  cases hc : w.cell? a with
  | none => simp [hc] at hs
  | some u => simp [hf]
theorem run_storeCells_wr {a : Addr} : ∀ (vs : List Value) (i : Nat) (w : World), (∀ v ∈ vs, v.oneCell' = true) → canWr w.heap a i vs.length →
    ∃ w', (storeCells a vs i).run P w = .ok () w' ∧ w'.heap = wrH w.heap a i vs ∧ Rest w w'
  | [], i, w, _, _ => ⟨w, rfl, rfl, Rest.refl w⟩
  | v :: vs, i, w, h1, hc => by
    have h0 := hc 0 (by simp)
    obtain ⟨w', hr, hh, hq⟩ := run_storeCells_wr vs (i + 1) (w.setCell (a.add i) v) (fun u hu => h1 u (by simp [hu])) (fun j hj => by
      have := hc (j + 1) (by simp; omega)
      rw [setH_eq]
      rw [show i + 1 + j = i + (j + 1) by omega]
      exact ⟨cellH_setH_some this.1, by rw [frozenH_setH]; exact this.2⟩)
    refine ⟨w', ?_, by rw [hh, setH_eq]; rfl, (Rest.trans (b := w.setCell (a.add i) v) (Rest.setCell _ _ _) hq)⟩
    simp only [storeCells, Sem.run_bind, run_store_cell (h1 v (by simp)) (by simpa using h0.1) (by simpa using h0.2), Result.andThen_ok]
    exact hr
theorem run_storeT {t : TypeId} {a : Addr} {v : Value} {F : Heap → Prop} {h : Heap} (hK : stT P t a v F h) (w : World) (e : w.heap = h) : ∃ w', (storeVar t a v).run P w = .ok () w' ∧ F w'.heap ∧ Rest w w' := by
  unfold stT at hK
  split at hK
  · rename_i n ha
    obtain ⟨⟨i, hi, hn⟩, hagg⟩ := aggB_spec ha
    split at hK
    · obtain ⟨h1, hst, hk⟩ := oneC_spec hK
      subst e
      refine ⟨w.setCell a v, ?_, hk, Rest.setCell _ _ _⟩
      have hcs : v.cells = #[v] := by cases v <;> first | rfl | (simp [Value.oneCell'] at h1)
      have ha0 : a.add 0 = a := rfl
      simp [storeVar, run_sizeOf' hi, hn, hcs, storeCells, ha0, run_store_cell h1 hst.1 hst.2]
    · exact hK.elim
  · rename_i n ha
    obtain ⟨⟨i, hi, rfl⟩, hagg⟩ := aggB_spec ha
    split at hK
    · rename_i cs
      split at hK
      · split at hK
        · rename_i hl
          have hl := Nat.eq_of_beq_eq_true hl
          obtain ⟨h1, hc, hk⟩ := allOne_spec hK
          subst e
          obtain ⟨w', hr, hh, hq⟩ := run_storeCells_wr (P := P) cs.toList 0 w h1 hc
          refine ⟨w', ?_, by rw [hh]; exact hk, hq⟩
          simp only [Array.length_toList] at hl
          simp [storeVar, run_sizeOf' hi, Value.cells, hl, hr]
        · exact hK.elim
      · obtain ⟨hl, ⟨h1, hc⟩, hk⟩ := hK
        subst e
        obtain ⟨w', hr, hh, hq⟩ := run_storeCells_wr (P := P) cs.toList 0 w h1 hc
        refine ⟨w', ?_, by rw [hh]; exact hk, hq⟩
        simp only [Array.length_toList] at hl
        simp [storeVar, run_sizeOf' hi, Value.cells, hl, hr]
    · exact hK.elim
  · exact hK.elim
end
section
variable {P : Program}
/-- A fence that shuts nothing out; a round's frame, or none. -/
def Wd (F : Fence) : Prop := F = Fence.wide ∨ ∃ l, F = Fence.wide.inRound l
theorem Wd.fn {F : Fence} (h : Wd F) (f : FuncId) : F.fn f := by rcases h with rfl | ⟨l, rfl⟩ <;> trivial
theorem Wd.depth {F : Fence} (h : Wd F) : F.depth = none := by rcases h with rfl | ⟨l, rfl⟩ <;> rfl
theorem Wd.one {F : Fence} (h : Wd F) {n : Nat} : F.depth.isSome = true → 1 ≤ n := by rw [h.depth]; intro h; cases h
theorem Wd.calls {F : Fence} (hW : Wd F) {n : Nat} {f : FuncId} {args : Array Value} {w : World} {R : Ending → World → Prop} (h : Calls P f args w R) : CallsIn F n P f args w R := by
  rcases hW with rfl | ⟨l, rfl⟩
  · exact callsIn_wide.2 h
  · exact (callsIn_wide (n := n)).2 h
theorem Wd.round {F : Fence} (hW : Wd F) {n l : Nat} {f : FuncId} {tmps : Array Value} {assign body : Code} {w : World} {R : Ending → World → Prop} (h : RoundIn Fence.wide n P l f tmps assign body w R) : RoundIn F n P l f tmps assign body w R := by
  rcases hW with rfl | ⟨l, rfl⟩ <;> exact h
theorem semAt_run {ro : Option Nat} {ρ : Operand → Value} {o : Oper} {n : Next} {w w' : World} (h : (execOp ρ o).run P w = .ok n w') (hn : ∀ d, n ≠ .defer d) : (o.semAt ro ρ).run P w = .ok n w' := by
  by_cases hd : ∃ c, o.op = .defer c
  · obtain ⟨c, hc⟩ := hd
    exfalso
    simp only [execOp, hc, Sem.run_bind] at h
    cases hr : (resolve ρ c o.type).run P w with
    | halt x w1 => rw [hr] at h; cases h
    | ok d w1 => rw [hr] at h; simp [Result.andThen] at h; exact hn _ h.1.symm
  · rw [Oper.semAt_eq ro ρ o (fun c hc => hd ⟨c, hc⟩)]; exact h
def OpOk (P : Program) (o : Oper) (ρ : Operand → Value) (K : Value → Heap → Prop) (h : Heap) : Prop :=
  ∀ (F : Fence), Wd F → ∀ (w : World) (a : Act) (next : Act → World → Prop) (Q : Exit → Act → World → Prop), a.eval = ρ → w.heap = h →
    (∀ v w', K v w'.heap → Rest w w' → next (a.put o.dst v) w') → o.wpIn F 0 P a w next Q
theorem ok_of_gen {o : Oper} {ρ : Operand → Value} {K : Value → Heap → Prop} {h : Heap} (g : GenO P o ρ K h) : OpOk P o ρ K h := by
  intro F hW w a next Q he hh hn
  obtain ⟨v, w', hr, hk, hq⟩ := g w hh
  refine ⟨fun f _ => hW.fn f, ?_⟩
  rw [he]
  rcases hr with hr | ⟨hr, rfl⟩
  · rw [semAt_run hr (fun d h => by cases h)]; exact hn v w' hk hq
  · rw [semAt_run hr (fun d h => by cases h)]; exact hn _ w' hk hq
theorem gen_of_run {o : Oper} {ρ : Operand → Value} {K : Value → Heap → Prop} {h : Heap}
    (g : ∀ w : World, w.heap = h → ∃ v w', (execOp ρ o).run P w = .ok (.value v) w' ∧ K v w'.heap ∧ Rest w w') : GenO P o ρ K h := by
  intro w e
  obtain ⟨v, w', hr, r⟩ := g w e
  exact ⟨v, w', .inl hr, r⟩
theorem orG_spec {f : Option Prop} {g : Prop} (h : orG f g) : (∃ p, f = some p ∧ p) ∨ g := by
  cases f with
  | none => exact .inr h
  | some p => exact .inl ⟨p, rfl, h⟩
theorem kEq_spec {k k' : IntKind} (h : kEq k k' = true) : k = k' := by cases k <;> cases k' <;> first | rfl | (exact absurd h (by decide))
theorem run_zeroValue' {t : TypeId} {v : Value} (h : zeroV P t = some v) (w : World) : (zeroValue t).run P w = .ok v w := by
  unfold zeroV at h
  cases hi : P.info? t with
  | none => simp [hi] at h
  | some i => simp [hi] at h; simp [zeroValue, run_typeInfo' hi, h]
theorem zeroC_of {t : TypeId} {v : Value} (h : zeroV P t = some v) : zeroC P t = v.cells := by simp [zeroC, h]
theorem sizeN_of {t : TypeId} {i : TypeInfo} (h : P.info? t = some i) : sizeN P t = i.size := by simp [sizeN, h]
theorem bytesN_of {t : TypeId} {i : TypeInfo} (h : P.info? t = some i) : bytesN P t = i.bytes := by simp [bytesN, h]
theorem binIntW_ok {op : BinOp} {t : TypeId} {k k' : IntKind} {a b : Int} {K : Value → Prop} (h : binIntW op k k' a b K) :
    ∃ v, (∀ w, (binOp op t (.int k a) (.int k' b)).run P w = .ok v w) ∧ K v := by
  cases op <;> simp only [binIntW] at h
  case shl => obtain ⟨h1, h3⟩ := ckB_spec h; simp at h1; exact ⟨_, fun w => by simp [binOp, Op.shift, show ¬ b < 0 by omega], h3⟩
  case shr => obtain ⟨h1, h3⟩ := ckB_spec h; simp at h1; exact ⟨_, fun w => by simp [binOp, Op.shift, show ¬ b < 0 by omega], h3⟩
  case quo => obtain ⟨h1, h3⟩ := ckB_spec h; obtain ⟨h2, h4⟩ := ckB_spec h3; have := kEq_spec h1; subst this; simp at h2; exact ⟨_, fun w => by simp [binOp, Op.intDiv, h2], h4⟩
  case rem => obtain ⟨h1, h3⟩ := ckB_spec h; obtain ⟨h2, h4⟩ := ckB_spec h3; have := kEq_spec h1; subst this; simp at h2; exact ⟨_, fun w => by simp [binOp, Op.intDiv, h2], h4⟩
  all_goals
    obtain ⟨h1, h3⟩ := ckB_spec h
    have := kEq_spec h1
    subst this
    exact ⟨_, fun w => by simp [binOp, Op.intArith, Op.intBits, Op.intCmp], h3⟩
theorem eqlV_okD (d : Nat) {t : TypeId} {x y : Value} {cy : Bool} {K : Bool → Prop} {p : Prop} (h : eqlV P t x y cy K = some p) (hp : p)
    (hg : ∀ xs ys, x = .agg xs → y = .agg ys → ∃ b : Bool, (∀ w, (Op.equalIn (d + 1) t x y).run P w = .ok b w) ∧ K b) :
    ∃ b : Bool, (∀ w, (Op.equalIn (d + 1) t x y).run P w = .ok b w) ∧ K b := by
  unfold eqlV at h
  split at h
  · split at h
    next hu =>
      obtain rfl := Option.some.inj h
      obtain ⟨hi, hk⟩ := hp
      refine ⟨_, fun w => ?_, hk⟩
      rcases hi with rfl | ⟨t', u, rfl⟩ <;> simp [Op.equalIn, run_underlying' hu, isNilV]
    next => cases h
  · split at h
    next hu =>
      obtain rfl := Option.some.inj h
      refine ⟨_, fun w => ?_, hp⟩
      cases ‹Option Addr› <;> simp [Op.equalIn, run_underlying' hu]
    next => cases h
  · split at h
    next hu =>
      obtain rfl := Option.some.inj h
      refine ⟨_, fun w => ?_, hp⟩
      cases ‹Option Addr› <;> simp [Op.equalIn, run_underlying' hu]
    next => cases h
  · split at h
    next hu =>
      obtain rfl := Option.some.inj h
      exact ⟨_, fun w => by simp [Op.equalIn, run_underlying' hu], hp⟩
    next => cases h
  · split at h
    · split at h
      · exact hg _ _ rfl rfl
      · cases h
    · cases h
  · cases h
theorem eqlV_ok {t : TypeId} {x y : Value} {cy : Bool} {K : Bool → Prop} {p : Prop} (h : eqlV P t x y cy K = some p) (hp : p) :
    ∃ b : Bool, (∀ w, (Op.equal t x y).run P w = .ok b w) ∧ K b := by
  refine eqlV_okD 9999 h hp ?_
  rintro xs ys rfl rfl
  unfold eqlV at h
  simp only [] at h
  split at h
  · obtain rfl := Option.some.inj h
    obtain ⟨b, hb, hk⟩ := hp
    exact ⟨b, hb, hk⟩
  · cases h
end
section
variable {P : Program}
theorem run_newVar' {t : TypeId} {v : Value} (w : World) : (newVar t v).run P w = .ok ⟨w.heap.size, 0, none⟩ (w.alloc (.cells v.cells t)) := by simp [newVar, newRow]
theorem sizeO_spec {t : TypeId} {n : Nat} (h : sizeO P t = some n) : ∃ i, P.info? t = some i ∧ i.size = n := by
  unfold sizeO at h
  cases hi : P.info? t with
  | none => simp [hi] at h
  | some i => simp [hi] at h; exact ⟨i, rfl, h⟩
theorem buildSliceT_ok {t : TypeId} {len : Nat} {parts : Array (Nat × Value)} {K : Value → Heap → Prop} {h : Heap} (hK : buildSliceT P t len parts.toList K h) (w : World) (e : w.heap = h) :
    ∃ v w', (Instr.buildSlice t len parts).run P w = .ok v w' ∧ K v w'.heap ∧ Rest w w' := by
  unfold buildSliceT at hK
  split at hK
  · rename_i el hu
    split at hK
    · rename_i n z hs hz
      obtain ⟨i, hi, rfl⟩ := sizeO_spec hs
      split at hK
      · rename_i cs hle hf
        have hle := Nat.le_of_ble_eq_true hle
        subst e
        simp only [newW, Array.toArray_toList] at hK
        refine ⟨_, w.alloc (.cells cs el), ?_, hK, Rest.alloc _ _⟩
        unfold Instr.buildSlice
        simp only [Sem.run_bind, run_underlying' hu, Result.andThen_ok, run_sizeOf' hi, Sem.run_ite, show ¬ (len * i.size > 2 ^ 24) by omega, if_false]
        by_cases h0 : len * i.size = 0
        · have hz0 : ∀ f : Nat → Value, (Array.range 0).map f = #[] := fun f => by apply Array.eq_empty_of_size_eq_zero; simp
          have hf' : Instr.fill (fun j => some (j * i.size, i.size)) #[] parts.toList = some cs := by
            rw [← hf, h0, zerosOf, hz0]
          simp [h0, hz0, hf', newRow]
        · rw [zerosOf, zeroC_of hz] at hf
          simp [h0, run_zeroValue' hz, hf, newRow]
      · exact hK.elim
    · exact hK.elim
  · exact hK.elim
theorem optI_spec {v : Option Value} {d : Int} {F : Int → Prop} (h : optI v d F) : ∃ n, F n ∧ ((v = none ∧ n = d) ∨ ∃ k, v = some (.int k n)) := by
  cases v with
  | none => exact ⟨d, h, .inl ⟨rfl, rfl⟩⟩
  | some v => obtain ⟨k, n, rfl, h⟩ := iW_spec h; exact ⟨n, h, .inr ⟨k, rfl⟩⟩
theorem run_sliceBound' {k : IntKind} {i : Int} {y : Nat} {c : BoundsCode} (h0 : 0 ≤ i) (h1 : i ≤ y) (w : World) : (Instr.sliceBound (.int k i) y c).run P w = .ok i.toNat w := by
  simp [Instr.sliceBound, asIntOf, h0, h1]
theorem run_sliceBounds' {isS : Bool} {len cap : Nat} {lo hi mx : Option Value} {m h l : Int} (hm : (mx = none ∧ m = cap) ∨ ∃ k, mx = some (.int k m)) (hh : (hi = none ∧ h = len) ∨ ∃ k, hi = some (.int k h))
    (hl : (lo = none ∧ l = 0) ∨ ∃ k, lo = some (.int k l)) (hb : 0 ≤ l ∧ l ≤ h ∧ h ≤ m ∧ m ≤ cap) (hx : hi = none → mx = none) (w : World) :
    (Instr.sliceBounds isS len cap lo hi mx).run P w = .ok (l.toNat, h.toNat, m.toNat) w := by
  obtain ⟨b0, b1, b2, b3⟩ := hb
  obtain ⟨m', rfl⟩ := Int.eq_ofNat_of_zero_le (show 0 ≤ m by omega)
  obtain ⟨h', rfl⟩ := Int.eq_ofNat_of_zero_le (show 0 ≤ h by omega)
  obtain ⟨l', rfl⟩ := Int.eq_ofNat_of_zero_le b0
  have c1 : l' ≤ h' := by omega
  have c2 : h' ≤ m' := by omega
  have c3 : m' ≤ cap := by omega
  have d1 : ((l' : Int) ≤ (h' : Int)) = True := by simpa using c1
  have d2 : ((h' : Int) ≤ (m' : Int)) = True := by simpa using c2
  have d3 : ((m' : Int) ≤ (cap : Int)) = True := by simpa using c3
  have s1 : ∀ (k : IntKind) (c : BoundsCode) (w : World), (Instr.sliceBound (.int k m') cap c).run P w = .ok m' w := fun k c w => by simpa using run_sliceBound' (P := P) (k := k) (c := c) (Int.natCast_nonneg m') (by omega : (m' : Int) ≤ (cap : Nat)) w
  have s2 : ∀ (k : IntKind) (c : BoundsCode) (w : World), (Instr.sliceBound (.int k h') m' c).run P w = .ok h' w := fun k c w => by simpa using run_sliceBound' (P := P) (k := k) (c := c) (Int.natCast_nonneg h') (by omega : (h' : Int) ≤ (m' : Nat)) w
  have s3 : ∀ (k : IntKind) (c : BoundsCode) (w : World), (Instr.sliceBound (.int k l') h' c).run P w = .ok l' w := fun k c w => by simpa using run_sliceBound' (P := P) (k := k) (c := c) (Int.natCast_nonneg l') (by omega : (l' : Int) ≤ (h' : Nat)) w
  rcases hm with ⟨rfl, e1⟩ | ⟨k1, rfl⟩
  · obtain rfl : m' = cap := by omega
    rcases hh with ⟨rfl, e2⟩ | ⟨k2, rfl⟩
    · obtain rfl : h' = len := by omega
      rcases hl with ⟨rfl, e3⟩ | ⟨k3, rfl⟩
      · obtain rfl : l' = 0 := by omega
        simp [Instr.sliceBounds]
      · simp [Instr.sliceBounds, s3]
    · rcases hl with ⟨rfl, e3⟩ | ⟨k3, rfl⟩
      · obtain rfl : l' = 0 := by omega
        simp [Instr.sliceBounds, s2]
      · simp [Instr.sliceBounds, s2, s3]
  · rcases hh with ⟨rfl, e2⟩ | ⟨k2, rfl⟩
    · exact absurd (hx rfl) (by simp)
    · rcases hl with ⟨rfl, e3⟩ | ⟨k3, rfl⟩
      · obtain rfl : l' = 0 := by omega
        simp [Instr.sliceBounds, s1, s2]
      · simp [Instr.sliceBounds, s1, s2, s3]
theorem slW_spec {base : Option Addr} {cap size : Nat} {l h m : Int} {F : Option Addr → Nat → Nat → Prop} (k : slW base cap size l h m F) :
    (0 ≤ l ∧ l ≤ h ∧ h ≤ m ∧ m ≤ (cap : Int)) ∧ F (sliceBase base l.toNat m.toNat size) (h.toNat - l.toNat) (m.toNat - l.toNat) := k
end
section
variable {P : Program}
theorem least_cons (s : String) (r : List String) : ∃ m, Instr.least (s :: r) = some m := ⟨_, rfl⟩
theorem missing_gotAll (want : Array (String × TypeId)) (got : Array Method) : (Instr.missingMethod want got).isNone = gotAll want got := by
  unfold Instr.missingMethod gotAll
  generalize (want.toList.filter fun (name, sig) => !got.any fun m => m.name == name && m.sig == sig) = L
  cases L with
  | nil => rfl
  | cons x xs =>
    simp only [List.map_cons, List.partition_eq_filter_filter, List.isEmpty_cons, List.filter_cons]
    by_cases h : (x.1.contains '.') = true
    · simp only [h, Function.comp, Bool.not_true, if_true, List.map_cons, Bool.false_eq_true, if_false]
      obtain ⟨m, hm⟩ := least_cons ((x.1.splitOn ".").getLastD x.1) (List.map (fun id => (id.splitOn ".").getLastD id) (List.filter (fun x => x.contains '.') (List.map (fun x => x.1) xs)))
      rw [hm]
      generalize Instr.least _ = o
      cases o <;> rfl
    · have h : (x.1.contains '.') = false := by simpa using h
      simp only [h, Function.comp, Bool.not_false, if_true, Bool.false_eq_true, if_false]
      rfl
theorem mapArr {α β : Type} (f : α → β) (l : Array α) : (l.toList.map f).toArray = l.map f := by apply Array.ext'; simp
theorem run_callFunc' {f : FuncId} {args : Array Value} (h : CallOk P f) (w : World) : (callFunc f args).run P w = .ok (.enter f args) w := by
  obtain ⟨fn, hf, hn, hb⟩ := h
  have hn' : ¬ fn.name = "runtime.NumGoroutine" := by simpa using hn
  have hb' : ¬ fn.body = none := by intro e; simp [e] at hb
  simp [callFunc, hf, hn', hb']
theorem ok_of_x {o : Oper} {ρ : Operand → Value} {K : Value → Heap → Prop} {h : Heap} {g : FuncId} {args : Array Value}
    (hx : ∀ w, (execOp ρ o).run P w = (callFunc g args).run P w) (hk : CallX P g args.toList h K) : OpOk P o ρ K h := by
  rcases hk with ⟨hok, hcall⟩ | hext
  · intro F hW w a next Q he hh hn
    have hrun : (execOp ρ o).run P w = .ok (.enter g args) w := by rw [hx, run_callFunc' hok]
    have hcall := hcall w hh
    rw [Array.toArray_toList] at hcall
    refine ⟨fun f _ => hW.fn f, ?_⟩
    rw [he, semAt_run hrun (fun d h => by cases h)]
    refine ⟨hW.one, (hW.calls hcall).mono ?_⟩
    rintro e w' ⟨v, rfl, hk, hq⟩
    exact hn _ w' hk hq
  · refine ok_of_gen (gen_of_run fun w e => ?_)
    obtain ⟨v, w', hr, hk, hq⟩ := hext w e
    rw [Array.toArray_toList] at hr
    exact ⟨v, w', by rw [hx, hr], hk, hq⟩
theorem CallX.mono {f : FuncId} {args : List Value} {h : Heap} {R R' : Value → Heap → Prop} (k : CallX P f args h R) (hr : ∀ v h', R v h' → R' v h') : CallX P f args h R' :=
  k.imp (fun k => k.mono hr) fun k w hw => by
    obtain ⟨v, w', h1, h2, h3⟩ := k w hw
    exact ⟨v, w', h1, hr _ _ h2, h3⟩
theorem ok_of_call {o : Oper} {ρ : Operand → Value} {K : Value → Heap → Prop} {h : Heap} {c : Call} (ho : o.op = .call c) {fo : Operand} (hc : c.callee = .value fo) {g : FuncId} {first captured : Array Value}
    (hv : ρ fo = .func (.func g) first captured) (hk : callT P g (first.toList ++ c.args.toList.map ρ ++ captured.toList) (resTys P g) (fun s h' => K (retV (resTys P g) s) h') h) : OpOk P o ρ K h := by
  refine ok_of_x (g := g) (args := first ++ c.args.map ρ ++ captured) (fun w => ?_) ?_
  · simp [execOp, ho, resolve, hc, hv, Deferred.ofValue, invoke]
  · have e : (first ++ c.args.map ρ ++ captured).toList = first.toList ++ c.args.toList.map ρ ++ captured.toList := by simp
    rw [e]
    exact CallX.mono hk fun v h' ⟨s, e, hk⟩ => by rw [e]; exact hk
theorem ok_of_callO {o : Oper} {ρ : Operand → Value} {K : Value → Heap → Prop} {h : Heap} {c : Call} (ho : o.op = .call c) {fo : Operand} (hc : c.callee = .value fo) {g : FuncId} {first captured : Array Value}
    (hv : ρ fo = .func (.func g) first captured) (hk : CallsH P g (first.toList ++ c.args.toList.map ρ ++ captured.toList) h fun r h' => K r h') : OpOk P o ρ K h := by
  intro F hW w a next Q he hh hn
  obtain ⟨hok, hcall⟩ := hk
  have hrun : (execOp ρ o).run P w = .ok (.enter g (first ++ c.args.map ρ ++ captured)) w := by
    simp [execOp, ho, resolve, hc, hv, Deferred.ofValue, invoke, run_callFunc' hok]
  have e : (first.toList ++ c.args.toList.map ρ ++ captured.toList).toArray = first ++ c.args.map ρ ++ captured := by simp
  have hcall := hcall w hh
  rw [e] at hcall
  refine ⟨fun f _ => hW.fn f, ?_⟩
  rw [he, semAt_run hrun (fun d h => by cases h)]
  refine ⟨hW.one, (hW.calls hcall).mono ?_⟩
  rintro e w' ⟨v, rfl, hk, hq⟩
  exact hn _ w' hk hq
theorem ok_of_yield {o : Oper} {ρ : Operand → Value} {K : Value → Heap → Prop} {h : Heap} {c : Call} (ho : o.op = .call c) {fo : Operand} (hc : c.callee = .value fo) {l : Nat} {first captured : Array Value}
    (hv : ρ fo = .func (.yield l) first captured) (h1 : first.toList = []) (h2 : captured.toList = []) (hk : yieldT P l (c.args.toList.map ρ) (fun b h' => K (.bool b) h') h) : OpOk P o ρ K h := by
  intro F hW w a next Q he hh hn
  obtain ⟨fn, tmps, assign, body, hy, hr⟩ := hk w hh
  have e1 : first = #[] := by apply Array.ext'; exact h1
  have e2 : captured = #[] := by apply Array.ext'; exact h2
  subst e1; subst e2
  have hrun : (execOp ρ o).run P w = .ok (.round l fn tmps assign body) w := by
    rw [mapArr] at hy
    simp [execOp, ho, resolve, hc, hv, Deferred.ofValue, invoke, hy]
  refine ⟨fun f _ => hW.fn f, ?_⟩
  rw [he, semAt_run hrun (fun d h => by cases h)]
  refine ⟨hW.one, (hW.round hr).mono ?_⟩
  rintro e w' ⟨v, rfl, hk, hq⟩
  exact hn _ w' hk hq
theorem eqGuard_int {op : BinOp} {t : TypeId} {x y : Operand} {k k' : IntKind} {a b : Int} (w : World) : (eqGuard op t x y (.int k a) (.int k' b)).run P w = .ok () w := by
  cases op <;> simp [eqGuard]
theorem eqGuard_ok {ne : Bool} {t : TypeId} {x y : Operand} {vx vy : Value} {K : Bool → Prop} {p : Prop} (hp : eqlV P t vx vy (isC y) K = some p) (_h1 : p) (w : World) :
    (eqGuard (if ne then .neq else .eql) t x y vx vy).run P w = .ok () w := by
  have e1 : ((if ne then BinOp.neq else BinOp.eql) matches .eql | .neq) = true := by cases ne <;> rfl
  unfold eqlV at hp
  unfold eqGuard
  split at hp
  · split at hp
    next hc =>
      cases y with
      | const v => cases vx <;> cases ne <;> simp
      | _ => exact absurd hc (by simp [isC])
    next => cases hp
  · cases vx <;> cases ne <;> simp
  · cases vx <;> cases ne <;> simp
  · cases vx <;> cases ne <;> simp
  · split at hp
    · split at hp
      · rename_i hg
        cases ne <;> simp [hg]
      · cases hp
    · cases hp
  · cases hp
theorem binOp_eql_ok {t : TypeId} {cy : Bool} {vx vy : Value} {K : Bool → Prop} {p : Prop} (hp : eqlV P t vx vy cy K = some p) (h1 : p) :
    ∃ b : Bool, (∀ w, (binOp .eql t vx vy).run P w = .ok (.bool b) w ∧ (binOp .neq t vx vy).run P w = .ok (.bool (!b)) w) ∧ K b := by
  obtain ⟨b, hb, hk⟩ := eqlV_ok hp h1
  refine ⟨b, fun w => ⟨?_, ?_⟩, hk⟩
  all_goals
    have hb := hb w
    unfold eqlV at hp
    split at hp
    · cases vx <;> simp [binOp, hb]
    · cases vx <;> simp [binOp, hb]
    · cases vx <;> simp [binOp, hb]
    · cases vx <;> simp [binOp, hb]
    · cases vx <;> simp [binOp, hb]
    · cases hp
theorem partT_ok {t : TypeId} {cs : Array Value} {off : Nat} {K : Value → Prop} (h : partT P t cs.toList off K) : ∃ v, (∀ w, (part t cs off).run P w = .ok v w) ∧ K v := by
  unfold partT at h
  split at h
  · rename_i n ha
    obtain ⟨⟨i, hi, rfl⟩, hagg⟩ := aggB_spec ha
    split at h
    · rename_i v hv
      have hv' : cs[off]? = some v := by simpa using hv
      exact ⟨v, fun w => by simp [part, hagg, hv'], h⟩
    · exact h.elim
  · rename_i n ha
    obtain ⟨⟨i, hi, rfl⟩, hagg⟩ := aggB_spec ha
    refine ⟨.agg (cs.extract off (off + i.size)), fun w => by simp [part, hagg, run_sizeOf' hi], ?_⟩
    have : cs.extract off (off + i.size) = ((cs.toList.drop off).take i.size).toArray := by
      apply Array.ext'; simp [Array.toList_extract]
    rw [this]; exact h
  · exact h.elim
theorem elemT_ok {t : TypeId} {cs : Array Value} {off : Nat} {K : Value → Prop} (h : elemT P t cs.toList off K) : ∃ v, (∀ w, (part t cs off).run P w = .ok v w) ∧ K v := by
  unfold elemT at h
  split at h
  · rename_i n ha
    obtain ⟨⟨i, hi, rfl⟩, hagg⟩ := aggB_spec ha
    obtain ⟨x, hx, hk⟩ := h
    have hv' : cs[off]? = some ((scTy P t).val x) := by simpa using hx
    exact ⟨_, fun w => by simp [part, hagg, hv'], hk⟩
  · rename_i n ha
    obtain ⟨⟨i, hi, rfl⟩, hagg⟩ := aggB_spec ha
    obtain ⟨s, hs, hk⟩ := h
    refine ⟨.agg (cs.extract off (off + i.size)), fun w => by simp [part, hagg, run_sizeOf' hi], ?_⟩
    have : cs.extract off (off + i.size) = ((cs.toList.drop off).take i.size).toArray := by
      apply Array.ext'; simp [Array.toList_extract]
    rw [this, hs]; exact hk
  · exact h.elim
theorem hxB_spec {hi mx : Option Value} (h : hxB hi mx = true) : hi = none → mx = none := by
  rintro rfl; cases mx with
  | none => rfl
  | some v => exact absurd h (by simp [hxB])
theorem sliceT_ok {t : TypeId} {x : Value} {lo hi mx : Option Value} {K : Value → Prop} (h : sliceT P t x lo hi mx K) : ∃ v, (∀ w, (Instr.sliceAt t x lo hi mx).run P w = .ok v w) ∧ K v := by
  unfold sliceT at h
  split at h
  · rename_i n el hu
    split at h
    · rename_i z hz
      obtain ⟨ie, hie, rfl⟩ := sizeO_spec hz
      obtain ⟨hx, h⟩ := ckB_spec h
      have hx := hxB_spec hx
      obtain ⟨a, rfl, h⟩ := pW_spec h
      obtain ⟨m, h, hm⟩ := optI_spec h
      obtain ⟨hh, h, hhh⟩ := optI_spec h
      obtain ⟨l, h, hl⟩ := optI_spec h
      obtain ⟨hb, hk⟩ := slW_spec h
      refine ⟨_, fun w => ?_, hk⟩
      simp [Instr.sliceAt, run_underlying' hu, Instr.sureAddr, run_sliceBounds' hm hhh hl hb hx, run_sizeOf' hie, sliceBase]
      split <;> rfl
    · exact h.elim
  · rename_i el hu
    split at h
    · rename_i a len cap
      split at h
      · rename_i z hz
        obtain ⟨ie, hie, rfl⟩ := sizeO_spec hz
        obtain ⟨hx, h⟩ := ckB_spec h
        have hx := hxB_spec hx
        obtain ⟨m, h, hm⟩ := optI_spec h
        obtain ⟨hh, h, hhh⟩ := optI_spec h
        obtain ⟨l, h, hl⟩ := optI_spec h
        obtain ⟨hb, hk⟩ := slW_spec h
        refine ⟨_, fun w => ?_, hk⟩
        simp [Instr.sliceAt, Instr.slice, run_underlying' hu, run_sliceBounds' hm hhh hl hb hx, run_sizeOf' hie, sliceBase]
      · exact h.elim
    · exact h.elim
  · rename_i hu
    split at h
    · rename_i s
      obtain ⟨hh, h, hhh⟩ := optI_spec h
      obtain ⟨l, h, hl⟩ := optI_spec h
      obtain ⟨⟨h0, h1, h2⟩, hk⟩ := h
      refine ⟨_, fun w => ?_, hk⟩
      have := run_sliceBounds' (P := P) (isS := false) (len := s.size) (cap := s.size) (mx := none) (m := s.size) (.inl ⟨rfl, rfl⟩) hhh hl ⟨h0, h1, h2, Int.le_refl _⟩ (fun _ => rfl) w
      simp [Instr.sliceAt, Instr.slice, run_underlying' hu, this]
    · exact h.elim
  · exact h.elim
theorem wrap_i64 {n : Int} (h0 : 0 ≤ n) (h1 : n ≤ 9223372036854775807) : IntKind.i64.wrap n = n := IntWalk.i64_in _ (by omega)
theorem mkW_ok {t e : TypeId} {l c : Value} {kl kc : IntKind} {ln cn : Int} {z : Value} {K : Value → Heap → Prop} {h : Heap} (hl : l = .int kl ln) (hc : c = .int kc cn) (hu : P.underlying t = some (.slice e)) (hz : zeroV P e = some z)
    (hK : mkW P e ln cn (fun a n k h' => K (.slice a n k) h') h) (w : World) (eh : w.heap = h) : ∃ v w', (Instr.makeSlice t l c).run P w = .ok v w' ∧ K v w'.heap ∧ Rest w w' := by
  subst hl; subst hc; subst eh
  obtain ⟨⟨h0, h1, h2, h3⟩, hk⟩ := hK
  have hi : ∃ i, P.info? e = some i := by
    unfold zeroV at hz
    cases hi : P.info? e with
    | none => simp [hi] at hz
    | some i => exact ⟨i, rfl⟩
  obtain ⟨i, hi⟩ := hi
  rw [bytesN_of hi] at h2
  rw [sizeN_of hi] at hk
  refine ⟨_, w.alloc (.cells (zerosOf P e (cn.toNat * i.size)) e), ?_, hk, Rest.alloc _ _⟩
  have w1 := wrap_i64 (n := ln) h0 (by omega)
  have w2 := wrap_i64 (n := cn) (by omega) h3
  have t1 : ¬ cn < 0 := by omega
  have t2 : ¬ ln < 0 := by omega
  have t3 : ¬ cn < ln := by omega
  have t4 : ¬ (i.bytes : Int) * cn > 2 ^ 48 := by omega
  have t4' : ¬ (2 : Int) ^ 48 < (i.bytes : Int) * cn := by omega
  unfold Instr.makeSlice
  simp only [Sem.run_bind, run_underlying' hu, Result.andThen_ok, asInt, asIntOf, Sem.run_pure, run_typeInfo' hi, w1, w2, Sem.run_ite]
  rw [if_neg (by simp [t1, t2, t3]; omega)]
  simp only [Result.andThen_ok, run_askRoom, run_sizeOf' hi]
  by_cases hz0 : cn.toNat * i.size = 0
  · have hzz : ∀ f : Nat → Value, (Array.range 0).map f = #[] := fun f => by apply Array.eq_empty_of_size_eq_zero; simp
    simp [hz0, zerosOf, hzz, newRow]
  · simp [hz0, zerosOf, zeroC_of hz, run_zeroValue' hz, newRow]
theorem lenT_ok {t : TypeId} {x : Value} {K : Value → Prop} {p : Prop} (hp : lenT P t x K = some p) (h : p) : ∃ v, (∀ w, (Builtin.len_ #[t] 0 #[x]).run P w = .ok v w) ∧ K v := by
  unfold lenT at hp
  split at hp
  · rename_i s hu; obtain rfl := Option.some.inj hp; exact ⟨_, fun w => by simp [Builtin.len_, run_underlying' hu, goInt], h⟩
  · rename_i n _ hu; obtain rfl := Option.some.inj hp; exact ⟨_, fun w => by simp [Builtin.len_, run_underlying' hu, goInt], h⟩
  · rename_i n _ hu; obtain rfl := Option.some.inj hp; exact ⟨_, fun w => by simp [Builtin.len_, run_underlying' hu, goInt], h⟩
  · cases hp
theorem capT_ok {t : TypeId} {x : Value} {K : Value → Prop} {p : Prop} (hp : capT P t x K = some p) (h : p) : ∃ v, (∀ w, (Builtin.cap_ #[t] 0 #[x]).run P w = .ok v w) ∧ K v := by
  unfold capT at hp
  split at hp
  · rename_i n hu; obtain rfl := Option.some.inj hp; exact ⟨_, fun w => by simp [Builtin.cap_, run_underlying' hu, goInt], h⟩
  · cases hp
theorem mmT_ok {mx : Bool} {args : List Value} {K : Value → Prop} {p : Prop} {ats : Array TypeId} {ty : TypeId} (hp : mmT mx args K = some p) (h : p) :
    ∃ v, (∀ w, mx = true → (Builtin.max_ ats ty args.toArray).run P w = .ok v w) ∧ (∀ w, mx = false → (Builtin.min_ ats ty args.toArray).run P w = .ok v w) ∧ K v := by
  unfold mmT at hp
  split at hp
  · obtain rfl := Option.some.inj hp
    refine ⟨_, ?_, ?_, h⟩
    · rintro w rfl; simp [Builtin.max_, Builtin.max2, mm2]
    · rintro w rfl; simp [Builtin.min_, Builtin.min2, mm2]
  · cases hp
def DetOk (P : Program) (o : Oper) (ρ : Operand → Value) (F : Value → Prop) : Prop := ∃ v, (∀ w, (execOp ρ o).run P w = .ok (.value v) w) ∧ F v
theorem sm {p q : Prop} (h : some p = some q) (hq : q) : p := by rw [Option.some.inj h]; exact hq
set_option maxHeartbeats 1000000 in
theorem binP_ok {op : BinOp} {t : TypeId} {x y : Operand} {ρ : Operand → Value} {K : Value → Prop} (hK : orG (binP P op t (ρ x) (ρ y) (isC y) K) False) :
    ∃ v, (∀ w : World, (do eqGuard op t x y (ρ x) (ρ y); binOp op t (ρ x) (ρ y) : Sem Value).run P w = .ok v w) ∧ K v := by
  unfold binP at hK
  split at hK
  · rename_i hy
    split at hK
    · rcases orG_spec hK with ⟨p, hp, h1⟩ | hg
      · obtain ⟨b, hb, hk⟩ := binOp_eql_ok hp h1
        rw [← hy] at hb hp
        exact ⟨.bool b, fun w => by have hgd := eqGuard_ok (ne := false) (x := x) hp h1 w; simp at hgd; simp [hgd, (hb w).1], hk⟩
      · exact hg.elim
    · rcases orG_spec hK with ⟨p, hp, h1⟩ | hg
      · obtain ⟨b, hb, hk⟩ := binOp_eql_ok (K := fun b => K (.bool (!b))) hp h1
        rw [← hy] at hb hp
        exact ⟨.bool (!b), fun w => by have hgd := eqGuard_ok (ne := true) (x := x) hp h1 w; simp at hgd; simp [hgd, (hb w).2], hk⟩
      · exact hg.elim
    · exact hK.elim
  · split at hK
    · rename_i k a k' b hx hy
      obtain ⟨v, hr, hk⟩ := binIntW_ok (P := P) (t := t) hK
      exact ⟨v, fun w => by simp [hx, hy, eqGuard_int, hr w], hk⟩
    · rename_i a b hx hy
      exact ⟨.bool (a.toList == b.toList), fun w => by simp [hx, hy, eqGuard, binOp, Op.stringOp], hK⟩
    · rename_i a b hx hy
      exact ⟨.bool (!(a.toList == b.toList)), fun w => by simp [hx, hy, eqGuard, binOp, Op.stringOp], hK⟩
    · rename_i a b hx hy
      exact ⟨.string (a ++ b), fun w => by
        have := hK.1
        simp [hx, hy, eqGuard, binOp, Op.stringOp]; omega, hK.2⟩
    · rcases orG_spec hK with ⟨p, hp, h1⟩ | hg
      · obtain ⟨b, hb, hk⟩ := binOp_eql_ok hp h1
        exact ⟨.bool b, fun w => by have hgd := eqGuard_ok (ne := false) (x := x) hp h1 w; simp at hgd; simp [hgd, (hb w).1], hk⟩
      · exact hg.elim
    · rcases orG_spec hK with ⟨p, hp, h1⟩ | hg
      · obtain ⟨b, hb, hk⟩ := binOp_eql_ok (K := fun b => K (.bool (!b))) hp h1
        exact ⟨.bool (!b), fun w => by have hgd := eqGuard_ok (ne := true) (x := x) hp h1 w; simp at hgd; simp [hgd, (hb w).2], hk⟩
      · exact hg.elim
    · exact hK.elim
theorem eqGuard_if {ne : Bool} {t : TypeId} {x y : Operand} {a b : Value} {w : World} (ha : ∀ cs, a ≠ .agg cs) (_hb : ∀ cs, b ≠ .agg cs) (hn : ¬ (a = .nilIface ∧ b = .nilIface)) : (eqGuard (if ne then .neq else .eql) t x y a b).run P w = .ok () w := by
  unfold eqGuard
  cases a <;> cases b <;> first | exact absurd ⟨rfl, rfl⟩ hn | exact absurd rfl (ha _) | (cases ne <;> simp)
theorem run_binOp {op : BinOp} {t yt : TypeId} {x y : Operand} {ρ : Operand → Value} {dst : Option Tmp} {type : TypeId} {pos : String} {after : Array Edge} {guard : Option (Nat × Bool)} {w : World} {v : Value}
    (h : (do eqGuard op t x y (ρ x) (ρ y); binOp op t (ρ x) (ρ y) : Sem Value).run P w = .ok v w) : (execOp ρ { dst := dst, op := .binOp op t x y yt, type := type, pos := pos, after := after, guard := guard }).run P w = .ok (.value v) w := by
  have e : (execOp ρ { dst := dst, op := .binOp op t x y yt, type := type, pos := pos, after := after, guard := guard }) = (do pure (.value (← (do eqGuard op t x y (ρ x) (ρ y); binOp op t (ρ x) (ρ y) : Sem Value)))) := rfl
  rw [e, Sem.run_bind, h]; simp
theorem opP_ok {o : Oper} {ρ : Operand → Value} {K : Value → Prop} {p : Prop} (hp : opP P o.op ρ K = some p) (h : p) : DetOk P o ρ K := by
  obtain ⟨dst, op, type, pos, after, guard⟩ := o
  have hK : orG (opP P op ρ K) False := by rw [show opP P op ρ K = some p from hp]; exact h
  clear hp h
  cases op <;> simp only [opP] at hK
  case move x => exact ⟨ρ x, fun w => by simp [execOp], hK⟩
  case assign x => exact ⟨ρ x, fun w => by simp [execOp], hK⟩
  case pick c x y =>
    obtain ⟨b, hb, hk⟩ := bW_spec hK
    exact ⟨selV b (ρ x) (ρ y), fun w => by cases b <;> simp [execOp, hb, asBool, selV], hk⟩
  case build t parts =>
    cases hh : hasAny P t (parts.toList.map (·.1)) with
    | true =>
      simp only [hh, orG] at hK
      obtain ⟨s, hb, hk⟩ := hK
      refine ⟨.agg (cvals _ s).toArray, fun w => ?_, hk⟩
      have hb' : P.built t (parts.map fun p => (p.1, ρ p.2)).toList = some (cvals _ s).toArray := by simpa using hb
      simp [execOp, run_build w t _ _ hb']
    | false =>
      simp only [hh, orG, buildT] at hK
      split at hK
      · rename_i cs hb
        refine ⟨.agg cs, fun w => ?_, by simpa using hK⟩
        have hb' : P.built t (parts.map fun p => (p.1, ρ p.2)).toList = some cs := by simpa using hb
        simp [execOp, run_build w t _ cs hb']
      · exact hK.elim
  case nilCheck x =>
    split at hK
    · rename_i p hp
      obtain ⟨a, rfl, hk⟩ := ptrW_spec hK
      exact ⟨.pointer (some a), fun w => by simp [execOp, hp], hk⟩
    · rename_i f first captured hp
      exact ⟨.func (.func f) first captured, fun w => by simp [execOp, hp], hK⟩
    · rename_i f first captured hp
      exact ⟨.func (.yield f) first captured, fun w => by simp [execOp, hp], hK⟩
    · exact hK.elim
  case typeAssert x xt t ok =>
    cases ok with
    | false => exact hK.elim
    | true =>
      cases hu : P.underlying t with
      | none => simp [hu, orG] at hK
      | some d =>
        cases hz : zeroV P t with
        | none => cases d <;> simp [hu, hz, orG] at hK
        | some z =>
         by_cases hif : ∃ ms, d = .interface ms
         · obtain ⟨ms, rfl⟩ := hif
           have hK : asI P t (ρ x) (K (.tuple #[ρ x, .bool true])) (K (.tuple #[z, .bool false])) := by simp only [hu, hz] at hK; exact hK
           have hzr := fun w => run_zeroValue' (P := P) hz w
           unfold asI at hK
           split at hK
           · rename_i hx
             exact ⟨_, fun w => by simp [execOp, Instr.typeAssert, run_underlying hu, hx, hzr], hK⟩
           · rename_i u v hx
             unfold hasB at hK
             simp only [hu] at hK
             cases hi : P.info? u with
             | none => simp [hi] at hK
             | some i =>
               simp only [hi, ← missing_gotAll] at hK
               cases hm : Instr.missingMethod ms i.methods with
               | none =>
                 simp only [hm, Option.isNone_none] at hK
                 exact ⟨_, fun w => by simp [execOp, Instr.typeAssert, run_underlying hu, hx, typeInfo, hi, hm], hK⟩
               | some q =>
                 simp only [hm, Option.isNone_some] at hK
                 exact ⟨_, fun w => by simp [execOp, Instr.typeAssert, run_underlying hu, hx, typeInfo, hi, hm, hzr], hK⟩
           · exact hK.elim
         · have hif : ∀ ms, d ≠ .interface ms := fun ms e => hif ⟨ms, e⟩
           have hK : asW (tyOf P t) (ρ x) t (fun y => K (.tuple #[(tyOf P t).val y, .bool true])) (K (.tuple #[z, .bool false])) := by
             cases d <;> simp_all [orG]
           have hd := hif
           have hzr := fun w => run_zeroValue' (P := P) hz w
           unfold asW at hK
           split at hK
           · rename_i hx
             refine ⟨_, fun w => ?_, hK⟩
             cases d <;> simp_all [execOp, Instr.typeAssert, run_underlying hu]
           · rename_i u v hx
             split at hK
             · rename_i hb
               obtain rfl := Nat.eq_of_beq_eq_true hb
               obtain ⟨y, rfl, hk⟩ := hK
               refine ⟨_, fun w => ?_, hk⟩
               cases d <;> simp_all [execOp, Instr.typeAssert, run_underlying hu]
             · rename_i hb
               have hne : u ≠ t := fun e => by subst e; simp at hb
               refine ⟨_, fun w => ?_, hK⟩
               cases d <;> simp_all [execOp, Instr.typeAssert, run_underlying hu]
           · exact hK.elim
  case binOp op t x y yt =>
    have old : orG (binP P op t (ρ x) (ρ y) (isC y) K) False → DetOk P { dst := dst, op := .binOp op t x y yt, type := type, pos := pos, after := after, guard := guard } ρ K := fun hK => by
      obtain ⟨v, hr, hk⟩ := binP_ok hK
      exact ⟨v, fun w => run_binOp (hr w), hk⟩
    cases hI : ifB P t with
    | false => simp only [hI] at hK; exact old hK
    | true =>
      cases hC : isC y with
      | true => simp only [hI, hC] at hK; rw [← hC] at hK; exact old hK
      | false =>
        simp only [hI, hC] at hK
        have hnc : ∀ v, y ≠ .const v := fun v e => by subst e; cases hC
        have key : ∀ (ne : Bool) (G : Bool → Prop), eqIf P t (ρ x) (ρ y) G → ∃ b : Bool, (∀ w : World, (do eqGuard (if ne then .neq else .eql) t x y (ρ x) (ρ y); binOp (if ne then .neq else .eql) t (ρ x) (ρ y) : Sem Value).run P w = .ok (.bool (ne ^^ b)) w) ∧ G b := by
          rintro ne G ⟨⟨ix, iy, hn⟩, b, hb, hG⟩
          refine ⟨b, fun w => ?_, hG⟩
          have e1 : ∀ w : World, (eqGuard (if ne then .neq else .eql) t x y (ρ x) (ρ y)).run P w = .ok () w := by
            intro w
            refine eqGuard_if (fun cs e => ?_) (fun cs e => ?_) hn
            · rcases ix with hx | ⟨_, _, hx⟩ <;> rw [hx] at e <;> cases e
            · rcases iy with hx | ⟨_, _, hx⟩ <;> rw [hx] at e <;> cases e
          have e2 : ∀ w : World, (binOp (if ne then .neq else .eql) t (ρ x) (ρ y)).run P w = .ok (.bool (ne ^^ b)) w := by
            intro w
            have hb := hb w
            rcases ix with hx | ⟨t1, u1, hx⟩ <;> rcases iy with hy | ⟨t2, u2, hy⟩ <;> rw [hx, hy] at hb ⊢ <;> cases ne <;> simp [binOp, hb]
          simp [e1, e2]
        cases op <;> first | exact hK.elim | skip
        · obtain ⟨b, hr, hk⟩ := key false _ hK
          exact ⟨.bool b, fun w => run_binOp (by simpa using hr w), hk⟩
        · obtain ⟨b, hr, hk⟩ := key true _ hK
          exact ⟨.bool (!b), fun w => run_binOp (by simpa using hr w), hk⟩
  case unOp op t x =>
    rcases orG_spec hK with ⟨p, hp, h1⟩ | hg
    · unfold unW at hp
      split at hp
      · rename_i b hx
        obtain rfl := Option.some.inj hp
        exact ⟨.bool (!b), fun w => by simp [execOp, hx, Op.unary], h1⟩
      · rename_i k n hx
        obtain rfl := Option.some.inj hp
        exact ⟨.int k (k.wrap (0 - n)), fun w => by simp [execOp, hx, Op.unary, Op.intArith], h1⟩
      · cases hp
    · exact hg.elim
  case convert s d x =>
    split at hK
    · rename_i ds k kx n h1 h2 h3
      exact ⟨.int k (k.wrap n), fun w => by simp [execOp, convert, run_underlying' h1, run_underlying' h2, h3, Conv.intToInt], hK⟩
    · rename_i ds b h1 h2 h3
      exact ⟨.string b, fun w => by cases ds <;> simp [execOp, convert, run_underlying' h1, run_underlying' h2, h3], hK⟩
    · exact hK.elim
  case fieldAddr s x f =>
    split at hK
    · rename_i fs hu
      split at hK
      · rename_i fd hf
        split at hK
        · rename_i n hs
          obtain ⟨i, hi, hn⟩ := sizeO_spec hs
          obtain ⟨a, ha, hk⟩ := pW_spec hK
          exact ⟨.pointer (some (a.add fd.offset)), fun w => by simp [execOp, Instr.fieldAt, run_underlying' hu, hf, ha, Instr.sureAddr, fieldPlace, run_sizeOf' hi, hn], hk⟩
        · exact hK.elim
      · exact hK.elim
    · exact hK.elim
  case field t x f =>
    split at hK
    · rename_i fs cs hu hx
      split at hK
      · rename_i fd hf
        obtain ⟨v, hr, hk⟩ := partT_ok hK
        exact ⟨v, fun w => by simp [execOp, Instr.field, run_underlying' hu, hf, hx, asAgg, hr w], hk⟩
      · exact hK.elim
    · exact hK.elim
  case indexAddr t x i =>
    split at hK
    · rename_i n el hu
      obtain ⟨a, ha, hk⟩ := pW_spec hK
      obtain ⟨k, j, hj, hk⟩ := iW_spec hk
      obtain ⟨⟨⟨h0, h1⟩, hs⟩, hk⟩ := hk
      obtain ⟨z, hz⟩ := Option.isSome_iff_exists.1 hs
      obtain ⟨ie, hi, rfl⟩ := sizeO_spec hz
      exact ⟨.pointer (some (a.add (j.toNat * ie.size))), fun w => by simp [execOp, Instr.indexAt, hj, asIntOf, run_underlying' hu, ha, Instr.sureAddr, h0, h1, run_sizeOf' hi], by simpa [sizeN_of hi] using hk⟩
    · rename_i el hu
      split at hK
      · rename_i b n c hx
        obtain ⟨k, j, hj, hk⟩ := iW_spec hK
        obtain ⟨a, rfl, hk⟩ := ptrW_spec hk
        obtain ⟨⟨⟨h0, h1⟩, hs⟩, hk⟩ := hk
        obtain ⟨z, hz⟩ := Option.isSome_iff_exists.1 hs
        obtain ⟨ie, hi, rfl⟩ := sizeO_spec hz
        exact ⟨.pointer (some (a.add (j.toNat * ie.size))), fun w => by simp [execOp, Instr.indexAt, hj, asIntOf, run_underlying' hu, hx, h0, h1, run_sizeOf' hi], by simpa [sizeN_of hi] using hk⟩
      · exact hK.elim
    · exact hK.elim
  case index t x i =>
    split at hK
    · rename_i n el cs hu hx
      obtain ⟨k, j, hj, hk⟩ := iW_spec hK
      obtain ⟨⟨⟨h0, h1⟩, hs⟩, hk⟩ := hk
      obtain ⟨z, hz⟩ := Option.isSome_iff_exists.1 hs
      obtain ⟨ie, hi, rfl⟩ := sizeO_spec hz
      rw [sizeN_of hi] at hk
      obtain ⟨v, hr, hk⟩ := elemT_ok hk
      exact ⟨v, fun w => by simp [execOp, Instr.index, hj, asIntOf, run_underlying' hu, hx, h0, h1, run_sizeOf' hi, hr w], hk⟩
    · rename_i s hu hx
      obtain ⟨k, j, hj, h0, b, hb, hk⟩ := iW_spec hK
      exact ⟨.int .u8 b.toNat, fun w => by simp [execOp, Instr.index, hj, asIntOf, run_underlying' hu, hx, h0, hb], hk⟩
    · exact hK.elim
  case slice t x lo hi mx =>
    obtain ⟨v, hr, hk⟩ := sliceT_ok hK
    exact ⟨v, fun w => by simp [execOp, hr w], hk⟩
  case makeInterface t x =>
    split at hK
    · exact hK.elim
    · rename_i d hd hu
      exact ⟨.iface t (ρ x), fun w => by cases d <;> first | exact absurd rfl (hd _) | simp [execOp, Instr.makeInterface, run_underlying' hu], hK⟩
    · exact hK.elim
  case makeFunc fn first captured =>
    rw [mapArr, mapArr] at hK
    exact ⟨.func fn (first.map ρ) (captured.map ρ), fun w => by simp [execOp, Instr.makeFunc], hK⟩
  case extract t i =>
    split at hK
    · rename_i vs ht
      split at hK
      · rename_i v hv
        have hv' : vs[i]? = some v := by simpa using hv
        exact ⟨v, fun w => by simp [execOp, Instr.extract, ht, hv'], hK⟩
      · exact hK.elim
    · exact hK.elim
  case call c =>
    split at hK
    · rename_i hc
      split at hK
      · rename_i t' x' h1 h2
        rcases orG_spec hK with ⟨p, hp, hk⟩ | hg
        · obtain ⟨v, hr, hk⟩ := lenT_ok hp hk
          refine ⟨v, fun w => ?_, hk⟩
          have e1 : c.argTypes = #[t'] := Array.ext' h1
          have e2 : c.args = #[x'] := Array.ext' h2
          have hr' := (show _ = _ from hr w : (Builtin.len_ #[t'] type #[ρ x']).run P w = .ok v w)
          simp [execOp, resolve, hc, invoke, builtin, e1, e2, hr']
        · exact hg.elim
      · exact hK.elim
    · rename_i hc
      split at hK
      · rename_i t' x' h1 h2
        rcases orG_spec hK with ⟨p, hp, hk⟩ | hg
        · obtain ⟨v, hr, hk⟩ := capT_ok hp hk
          refine ⟨v, fun w => ?_, hk⟩
          have e1 : c.argTypes = #[t'] := Array.ext' h1
          have e2 : c.args = #[x'] := Array.ext' h2
          have hr' := (show _ = _ from hr w : (Builtin.cap_ #[t'] type #[ρ x']).run P w = .ok v w)
          simp [execOp, resolve, hc, invoke, builtin, e1, e2, hr']
        · exact hg.elim
      · exact hK.elim
    · rename_i hc
      rcases orG_spec hK with ⟨p, hp, hk⟩ | hg
      · obtain ⟨v, h1, h2, hk⟩ := mmT_ok (P := P) (ats := c.argTypes) (ty := type) hp hk
        refine ⟨v, fun w => ?_, hk⟩
        have h1 := h1 w
        rw [mapArr] at h1
        simp [execOp, resolve, hc, invoke, builtin, h1]
      · exact hg.elim
    · rename_i hc
      rcases orG_spec hK with ⟨p, hp, hk⟩ | hg
      · obtain ⟨v, h1, h2, hk⟩ := mmT_ok (P := P) (ats := c.argTypes) (ty := type) hp hk
        refine ⟨v, fun w => ?_, hk⟩
        have h2 := h2 w
        rw [mapArr] at h2
        simp [execOp, resolve, hc, invoke, builtin, h2]
      · exact hg.elim
    · exact hK.elim
  all_goals exact hK.elim
set_option maxHeartbeats 1000000 in
theorem opH_ok {o : Oper} {ρ : Operand → Value} {K : Value → Heap → Prop} {h : Heap} (hK : opH P o ρ K h) : OpOk P o ρ K h := by
  obtain ⟨dst, op, type, pos, after, guard⟩ := o
  cases op <;> simp only [opH] at hK
  case load t x =>
    obtain ⟨a, ha, hk⟩ := pW_spec hK
    refine ok_of_gen (gen_of_run fun w e => ?_)
    obtain ⟨v, hr, hk⟩ := run_loadT hk w e
    exact ⟨v, w, by simp [execOp, Instr.loadAt, ha, Instr.sureAddr, hr], by rw [e]; exact hk, Rest.refl w⟩
  case store t x v =>
    obtain ⟨a, ha, hk⟩ := pW_spec hK
    refine ok_of_gen fun w e => ?_
    obtain ⟨w', hr, hk, hq⟩ := run_storeT hk w e
    exact ⟨_, w', .inr ⟨by simp [execOp, Instr.storeAt, ha, Instr.sureAddr, hr], rfl⟩, hk, hq⟩
  case alloc t =>
    split at hK
    · rename_i z hz
      rw [zeroC_of hz] at hK
      refine ok_of_gen (gen_of_run fun w e => ⟨.pointer (some ⟨w.heap.size, 0, none⟩), w.alloc (.cells z.cells t), by simp [execOp, Instr.alloc, run_zeroValue' hz, run_newVar'], ?_, Rest.alloc _ _⟩)
      subst e; exact hK
    · exact hK.elim
  case box t x =>
    refine ok_of_gen (gen_of_run fun w e => ⟨.pointer (some ⟨w.heap.size, 0, none⟩), w.alloc (.cells (ρ x).cells t), by simp [execOp, Instr.box, run_newVar'], ?_, Rest.alloc _ _⟩)
    subst e; exact hK
  case buildSlice t len parts =>
    refine ok_of_gen (gen_of_run fun w e => ?_)
    obtain ⟨v, w', hr, r⟩ := buildSliceT_ok (parts := parts.map fun p => (p.1, ρ p.2)) (by simpa using hK) w e
    exact ⟨v, w', by simp [execOp, hr], r⟩
  case makeSlice t l c =>
    split at hK
    · rename_i el hu
      split at hK
      · rename_i z hz
        obtain ⟨kl, ln, hl, hK⟩ := iW_spec hK
        obtain ⟨kc, cn, hc, hK⟩ := iW_spec hK
        refine ok_of_gen (gen_of_run fun w e => ?_)
        obtain ⟨v, w', hr, r⟩ := mkW_ok (l := .int kl ln) (c := .int kc cn) rfl rfl hu hz hK w e
        exact ⟨v, w', by simp [execOp, hl, hc, hr], r⟩
      · exact hK.elim
    · exact hK.elim
  case call c =>
    split at hK
    · rename_i fo hc
      split at hK
      · split at hK
        · rename_i g first captured hv
          exact ok_of_call rfl hc hv hK
        · exact hK.elim
      · unfold callO callW at hK
        split at hK
        · rename_i g first captured hv
          exact ok_of_callO rfl hc hv (hK.mono fun r h' ⟨s, e, hk⟩ => by rw [e]; exact hk)
        · rename_i l first captured hv
          split at hK
          · rename_i h1 h2
            exact ok_of_yield rfl hc hv h1 h2 (hK.mono fun b h' ⟨s, e, hk⟩ => by rw [e]; exact hk)
          · exact hK.elim
        · exact hK.elim
    · rename_i r name hc
      unfold invW at hK
      split at hK
      · rename_i t u hv
        obtain ⟨f, rv, hm, hk⟩ := hK
        refine ok_of_x (g := f) (args := #[rv] ++ c.args.map ρ) (fun w => ?_) ?_
        · have := hm w
          have e0 : (#[Value.iface t u] ++ c.args.map ρ)[0]? = some (.iface t u) := by rw [Array.getElem?_append_left (by simp)]; rfl
          have e1 : (c.args.map ρ).extract 0 c.args.size = c.args.map ρ := by
            simp
          simp [execOp, resolve, hc, invoke, hv, callMethod, e0, e1, this]
        · have e : (#[rv] ++ c.args.map ρ).toList = rv :: c.args.toList.map ρ := by simp
          rw [e]
          exact CallX.mono hk fun v h' ⟨s, e, hk⟩ => by rw [e]; exact hk
      · exact hK.elim
    · exact hK.elim
    · rename_i hc
      refine ok_of_gen (gen_of_run fun w e => ?_)
      obtain ⟨a, n, k, w', hr, hk, hq⟩ := hK w e
      refine ⟨.slice a n k, w', ?_, hk, hq⟩
      rw [mapArr] at hr
      simp only [Array.toArray_toList] at hr
      have hr' : (Builtin.append_ c.argTypes type (c.args.map ρ)).run P w = .ok (.slice a n k) w' := hr
      simp [execOp, resolve, hc, invoke, builtin, hr']
    · rename_i hc
      refine ok_of_gen (gen_of_run fun w e => ?_)
      obtain ⟨n, w', hr, hk, hq⟩ := hK w e
      refine ⟨.int .i64 n, w', ?_, hk, hq⟩
      rw [mapArr] at hr
      simp only [Array.toArray_toList] at hr
      have hr' : (Builtin.copy_ c.argTypes type (c.args.map ρ)).run P w = .ok (.int .i64 n) w' := hr
      simp [execOp, resolve, hc, invoke, builtin, hr']
    · rename_i hc
      refine ok_of_gen (gen_of_run fun w e => ?_)
      obtain ⟨w', hr, hk, hq⟩ := hK w e
      refine ⟨.tuple #[], w', ?_, hk, hq⟩
      rw [mapArr] at hr
      simp only [Array.toArray_toList] at hr
      have hr' : (Builtin.clear_ c.argTypes type (c.args.map ρ)).run P w = .ok (.tuple #[]) w' := hr
      simp [execOp, resolve, hc, invoke, builtin, hr']
    · rename_i hc
      refine ok_of_gen (gen_of_run fun w e => ?_)
      obtain ⟨w', hr, hk, hq⟩ := hK w e
      refine ⟨.tuple #[], w', ?_, hk, hq⟩
      rw [mapArr] at hr
      simp only [Array.toArray_toList] at hr
      have hr' : (Builtin.delete_ c.argTypes type (c.args.map ρ)).run P w = .ok (.tuple #[]) w' := hr
      simp [execOp, resolve, hc, invoke, builtin, hr']
    · rename_i hc
      refine ok_of_gen (gen_of_run fun w e => ?_)
      obtain ⟨n, hr, hk⟩ := hK w e
      refine ⟨.int .i64 n, w, ?_, by rw [e]; exact hk, Rest.refl w⟩
      rw [mapArr] at hr
      simp only [Array.toArray_toList] at hr
      have hr' : (Builtin.len_ c.argTypes type (c.args.map ρ)).run P w = .ok (.int .i64 n) w := hr
      simp [execOp, resolve, hc, invoke, builtin, hr']
    · exact ok_of_gen hK
  case makeMap t r =>
    split at hK
    · refine ok_of_gen (gen_of_run fun w e => ?_)
      obtain ⟨r, w', hr, hk⟩ := hK w e
      exact ⟨.map r, w', by simp [execOp, hr], hk⟩
    · exact ok_of_gen hK
  case lookup t m k ok =>
    split at hK
    · refine ok_of_gen (gen_of_run fun w e => ?_)
      obtain ⟨s, hr, hk⟩ := hK w e
      refine ⟨_, w, ?_, by rw [e]; exact hk, Rest.refl w⟩
      simp [execOp, hr]
    · refine ok_of_gen (gen_of_run fun w e => ?_)
      obtain ⟨s, b, hr, hk⟩ := hK w e
      refine ⟨_, w, ?_, by rw [e]; exact hk, Rest.refl w⟩
      simp [execOp, hr]
    · exact ok_of_gen hK
  case range t x =>
    split at hK
    · refine ok_of_gen (gen_of_run fun w e => ?_)
      obtain ⟨a, w', hr, hk⟩ := hK w e
      exact ⟨.pointer (some a), w', by simp [execOp, hr], hk⟩
    · exact ok_of_gen hK
  case next it s =>
    split at hK
    · refine ok_of_gen (gen_of_run fun w e => ?_)
      obtain ⟨w', hr, hq⟩ := hK w e
      rcases hr with ⟨hr, hk⟩ | ⟨k, x, hr, hk⟩
      · exact ⟨_, w', by simp [execOp, hr], hk, hq⟩
      · exact ⟨_, w', by simp [execOp, hr], hk, hq⟩
    · exact ok_of_gen hK
  case entry it =>
    refine ok_of_gen (gen_of_run fun w e => ?_)
    obtain ⟨k, x, hr, hk⟩ := hK w e
    refine ⟨_, w, ?_, by rw [e]; exact hk, Rest.refl w⟩
    simp [execOp, hr]
  case mapUpdate t m k x =>
    refine ok_of_gen fun w e => ?_
    obtain ⟨w', hr, hk, hq⟩ := hK w e
    exact ⟨_, w', .inr ⟨by simp [execOp, hr], rfl⟩, hk, hq⟩
  all_goals first | exact ok_of_gen hK | exact hK.elim
theorem opW_ok {o : Oper} {ρ : Operand → Value} {K : Value → Heap → Prop} {h : Heap} (hK : opW P o ρ K h) : OpOk P o ρ K h := by
  rcases orG_spec hK with ⟨p, hp, hk⟩ | hg
  · obtain ⟨v, hr, hk⟩ := opP_ok hp hk
    exact ok_of_gen (gen_of_run fun w e => ⟨v, w, hr w, by rw [e]; exact hk, Rest.refl w⟩)
  · exact opH_ok hg
end
/- THE CODE: environments are the lists of the temporaries. -/
def getE (env : List Value) (i : Nat) : Value := match env[i]? with | some v => v | none => undef
def ev (env : List Value) : Operand → Value
  | .tmp t => getE env t
  | .const v => v
  | .global g => .pointer (some ⟨g, 0, none⟩)
  | .func f => .func (.func f) #[] #[]
def putE (env : List Value) (d : Option Tmp) (v : Value) : List Value := match d with | some d => env.set d v | none => env
def unC : (c : CTy) → Value → (c.T → Prop) → Prop
  | .int k, .int k' n, F => ckB (kEq k k') (F n)
  | .bool, .bool b, F => F b
  | .str, .string s, F => F s
  | .slice, .slice a n c, F => F (a, n, c)
  | .ptr, .pointer p, F => F p
  | .map, .map p, F => F p
  | .any, v, F => F v
  | _, _, _ => False
def unCs : (cs : List CTy) → List Value → (CT cs → Prop) → Prop
  | [], [], F => F ()
  | [], _ :: _, _ => False
  | c :: cs, l, F => match cs, F, l with
    | [], F, [v] => unC c v F
    | d :: ds, F, v :: vs => unC c v fun x => unCs (d :: ds) vs fun y => F (x, y)
    | _, _, _ => False
def unT : (t : Ty) → Value → (t.T → Prop) → Prop
  | .sc c, v, F => unC c v F
  | .agg cs, .agg a, F => unCs cs a.toList F
  | .raw n, .agg a, F => ∃ h : a.toList.length = n, F ⟨a.toList, h⟩
  | _, _, _ => False
def getL : (live : List (Nat × Ty)) → List Value → (TT (live.map (·.2)) → Prop) → Prop
  | [], _, F => F ()
  | (i, t) :: rest, e, F => match rest, F with
    | [], F => unT t (getE e i) F
    | r :: rs, F => unT t (getE e i) fun x => getL (r :: rs) e fun y => F (x, y)
def setL : (live : List (Nat × Ty)) → TT (live.map (·.2)) → List Value → List Value
  | [], _, e => e
  | (i, t) :: rest, s, e => match rest, s with
    | [], s => e.set i (t.val s)
    | r :: rs, s => setL (r :: rs) s.2 (e.set i (t.val s.1))
def junkL (j : Nat → Value) : List Nat → List Value → List Value
  | [], e => e
  | d :: ds, e => junkL j ds (e.set d (j d))
/-- The temporaries of 'e', of which those in 'ds' are any, and the live ones are told. -/
def embL (e : List Value) (ds : List Nat) (live : List (Nat × Ty)) (s : TT (live.map (·.2))) (j : Nat → Value) : List Value := setL live s (junkL j ds e)
def dstO (o : Oper) : List Nat := match o.dst with | some d => [d] | none => []
def dstR : List Oper → List Nat
  | [] => []
  | o :: rest => dstO o ++ dstR rest
def dstC : Code → List Nat
  | .region _ ops _ => dstR ops.toList
  | .seq a b => dstC a ++ dstC b
  | .cond _ a b => dstC a ++ dstC b
  | .block _ a => dstC a
  | .loop a => dstC a
  | .scope a => dstC a
  | _ => []
def loopT (ts : List Ty) (B : TT ts → (Nat → Value) → (TT ts → Heap → Prop) → Heap → Prop) (s0 : TT ts) (h : Heap) : Prop :=
  ∃ (I : TT ts → Heap → Prop) (μ : TT ts → Heap → Nat), I s0 h ∧ ∀ s j h', I s h' → B s j (fun s' h'' => I s' h'' ∧ μ s' h'' < μ s h') h'
def cutT (ts : List Ty) (A : (TT ts → Heap → Prop) → Heap → Prop) (B : TT ts → (Nat → Value) → Heap → Prop) (h : Heap) : Prop :=
  A (fun s h' => ∀ j, B s j h') h
/-- A test of the region's own: which of the two ways. -/
def gdW (b : Bool) (want : Bool) (run skip : Bool → Prop) : Prop :=
  br b (match want with | true => run true | false => skip true) (match want with | true => skip false | false => run false)
def regW (P : Program) (ops : List Oper) : List Oper → List Value → (List Value → Heap → Prop) → Heap → Prop
  | [], env, N, h => N env h
  | o :: rest, env, N, h => match o.guard with
    | none => opW P o (ev env) (fun v h' => regW P ops rest (putE env o.dst v) N h') h
    | some (j, want) => match (ops[j]?).bind (·.dst) with
      | none => regW P ops rest (putE env o.dst undef) N h
      | some d => match env[d]? with
        | some (.bool b) => gdW b want (fun b' => opW P o (ev (env.set d (.bool b'))) (fun v h' => regW P ops rest (putE (env.set d (.bool b')) o.dst v) N h') h)
            (fun b' => regW P ops rest (putE (env.set d (.bool b')) o.dst undef) N h)
        | _ => regW P ops rest (putE env o.dst undef) N h
/-- Only the temporaries in 'ds' may have turned. -/
def Keeps (ds : List Nat) (e e' : List Value) : Prop := e'.length = e.length ∧ ∀ i, i ∉ ds → e'[i]? = e[i]?
theorem Keeps.refl (ds : List Nat) (e : List Value) : Keeps ds e e := ⟨rfl, fun _ _ => rfl⟩
theorem Keeps.trans {ds : List Nat} {a b c : List Value} (h : Keeps ds a b) (k : Keeps ds b c) : Keeps ds a c := ⟨k.1.trans h.1, fun i hi => (k.2 i hi).trans (h.2 i hi)⟩
theorem Keeps.mono {ds ds' : List Nat} {a b : List Value} (h : Keeps ds a b) (hs : ∀ x ∈ ds, x ∈ ds') : Keeps ds' a b := ⟨h.1, fun i hi => h.2 i fun hh => hi (hs i hh)⟩
theorem Keeps.put {ds : List Nat} {e : List Value} {d : Option Tmp} {v : Value} (h : ∀ x, d = some x → x ∈ ds) : Keeps ds e (putE e d v) := by
  cases d with
  | none => exact Keeps.refl _ _
  | some x => exact ⟨by simp [putE], fun i hi => by
      have : x ≠ i := fun hx => hi (hx ▸ h x rfl)
      simp [putE, List.getElem?_set_ne this]⟩
theorem eval_ev (a : Act) : a.eval = ev a.tmps.toList := by
  funext x
  cases x <;> simp [Act.eval, ev, getE]
  rename_i t
  cases h : a.tmps[t]? <;> simp
theorem put_toList (a : Act) (d : Option Tmp) (v : Value) : (a.put d v).tmps.toList = putE a.tmps.toList d v := by
  cases d <;> simp [Act.put, putE]
theorem put_defers (a : Act) (d : Option Tmp) (v : Value) : (a.put d v).defers = a.defers := by cases d <;> rfl
theorem unC_spec {c : CTy} {v : Value} {F : c.T → Prop} (h : unC c v F) : ∃ x, v = c.val x ∧ F x := by
  unfold unC at h
  split at h
  · obtain ⟨h1, h2⟩ := ckB_spec h; obtain rfl := kEq_spec h1; exact ⟨_, rfl, h2⟩
  all_goals first | exact ⟨_, rfl, h⟩ | exact h.elim
theorem unCs_spec : ∀ {cs : List CTy} {l : List Value} {F : CT cs → Prop}, unCs cs l F → ∃ x, l = cvals cs x ∧ F x
  | [], [], F, h => ⟨(), rfl, h⟩
  | [], _ :: _, F, h => h.elim
  | [c], [v], F, h => by obtain ⟨x, rfl, hf⟩ := unC_spec (c := c) h; exact ⟨x, rfl, hf⟩
  | [c], [], F, h => h.elim
  | [c], _ :: _ :: _, F, h => h.elim
  | c :: d :: ds, [], F, h => h.elim
  | c :: d :: ds, v :: vs, F, h => by
    obtain ⟨x, rfl, hf⟩ := unC_spec (c := c) h
    obtain ⟨y, rfl, hg⟩ := unCs_spec (cs := d :: ds) hf
    exact ⟨(x, y), rfl, hg⟩
theorem unT_spec {t : Ty} {v : Value} {F : t.T → Prop} (h : unT t v F) : ∃ x, v = t.val x ∧ F x := by
  unfold unT at h
  split at h
  · exact unC_spec h
  · obtain ⟨x, hx, hf⟩ := unCs_spec h
    exact ⟨x, by simp only [Ty.val]; rw [← hx], hf⟩
  · obtain ⟨hl, hf⟩ := h
    exact ⟨⟨_, hl⟩, by simp [Ty.val], hf⟩
  · exact h.elim
theorem getE_of {e : List Value} {i : Nat} (h : i < e.length) : e[i]? = some (getE e i) := by simp [getE, h]
theorem set_getE (e : List Value) (i : Nat) : e.set i (getE e i) = e := by
  apply List.ext_getElem?
  intro k
  by_cases hk : i = k
  · subst hk
    by_cases hl : i < e.length
    · simp [hl, getE]
    · simp [Nat.le_of_not_lt hl]
  · simp [List.getElem?_set_ne hk]
theorem getL_spec : ∀ {live : List (Nat × Ty)} {e : List Value} {F : TT (live.map (·.2)) → Prop}, getL live e F → ∃ s, setL live s e = e ∧ F s
  | [], e, F, h => ⟨(), rfl, h⟩
  | [(i, t)], e, F, h => by
    obtain ⟨x, hx, hf⟩ := unT_spec (t := t) h
    exact ⟨x, by simp only [setL]; rw [← hx, set_getE], hf⟩
  | (i, t) :: r :: rs, e, F, h => by
    obtain ⟨x, hx, hf⟩ := unT_spec (t := t) h
    obtain ⟨y, hy, hf⟩ := getL_spec (live := r :: rs) hf
    exact ⟨(x, y), by simp only [setL]; rw [← hx, set_getE]; exact hy, hf⟩
theorem junkL_keeps (j : Nat → Value) : ∀ (ds : List Nat) (e : List Value), (junkL j ds e).length = e.length ∧ ∀ i, (junkL j ds e)[i]? = if i ∈ ds ∧ i < e.length then some (j i) else e[i]?
  | [], e => by simp [junkL]
  | d :: ds, e => by
    obtain ⟨h1, h2⟩ := junkL_keeps j ds (e.set d (j d))
    refine ⟨by simpa [junkL] using h1, fun i => ?_⟩
    simp only [junkL, h2, List.length_set]
    by_cases hi : i ∈ ds ∧ i < e.length
    · simp [hi]
    · rw [if_neg hi]
      by_cases hd : d = i
      · subst hd
        by_cases hl : d < e.length
        · simp [hl]
        · simp [hl]
      · rw [List.getElem?_set_ne hd]
        by_cases hl : i < e.length
        · have : i ∉ ds := fun hh => hi ⟨hh, hl⟩
          simp [this, Ne.symm hd]
        · simp [hl]
theorem embL_of {ds : List Nat} {e e' : List Value} {live : List (Nat × Ty)} {s : TT (live.map (·.2))} (hk : Keeps ds e e') (hs : setL live s e' = e') : embL e ds live s (getE e') = e' := by
  have : junkL (getE e') ds e = e' := by
    obtain ⟨h1, h2⟩ := junkL_keeps (getE e') ds e
    apply List.ext_getElem?
    intro i
    rw [h2]
    by_cases hi : i ∈ ds ∧ i < e.length
    · rw [if_pos hi, getE_of (by rw [hk.1]; exact hi.2)]
    · rw [if_neg hi]
      by_cases hd : i ∈ ds
      · have hl : ¬ i < e.length := fun h => hi ⟨hd, h⟩
        have hl' : ¬ i < e'.length := by rw [hk.1]; exact hl
        simp [hl, hl']
      · exact (hk.2 i hd).symm
  rw [embL, this, hs]
section
variable {P : Program}
theorem setIfEq {env : List Value} {d : Nat} {v : Value} (h : env[d]? = some v) : env.set d v = env := by
  apply List.ext_getElem?
  intro k
  by_cases hk : d = k
  · subst hk
    have hl : d < env.length := by
      rcases Nat.lt_or_ge d env.length with h' | h'
      · exact h'
      · simp [h'] at h
    rw [List.getElem?_set_self hl]; exact h.symm
  · simp [List.getElem?_set_ne hk]
theorem gdW_spec {b want : Bool} {run skip : Bool → Prop} (h : gdW b want run skip) : (b = want ∧ run b) ∨ (b ≠ want ∧ skip b) := by
  cases b <;> cases want <;> simp [gdW, br] at h <;> simp [h]
theorem regW_ok {F : Fence} (hW : Wd F) {D : List Deferred} (ops : Array Oper) (ds : List Nat) : ∀ (l : List Oper) (k : Nat) (env : List Value) (N : List Value → Heap → Prop) (h : Heap),
    (∀ j, l[j]? = ops[k + j]?) → (∀ o ∈ l, ∀ d, o.dst = some d → d ∈ ds) → regW P ops.toList l env N h →
    ∀ (a : Act) (w : World) (Q : Exit → Act → World → Prop), a.tmps.toList = env → a.defers = D → w.heap = h →
      (∀ a' w', a'.defers = D → Keeps ds env a'.tmps.toList → N a'.tmps.toList w'.heap → Rest w w' → Q .normal a' w') →
      wpOpsIn F 0 P ops Q (List.range' k l.length) a w
  | [], k, env, N, h, _, _, hN, a, w, Q, he, hd, hh, hq => by
    simp only [List.length_nil, List.range'_zero, wpOpsIn]
    subst he; subst hh
    exact hq a w hd (Keeps.refl _ _) hN (Rest.refl w)
  | o :: l, k, env, N, h, hl, hds, hN, a, w, Q, he, hd, hh, hq => by
    have hk : ops[k]? = some o := by have := hl 0; simpa using this.symm
    have hl' : ∀ j, l[j]? = ops[k + 1 + j]? := fun j => by have := hl (j + 1); rw [show k + 1 + j = k + (j + 1) by omega, ← this]; simp
    have hds' : ∀ o ∈ l, ∀ d, o.dst = some d → d ∈ ds := fun o' ho => hds o' (List.mem_cons_of_mem _ ho)
    have hdo : ∀ d, o.dst = some d → d ∈ ds := hds o (List.mem_cons_self ..)
    have go : ∀ (env' : List Value), env' = env → opW P o (ev env') (fun v h' => regW P ops.toList l (putE env' o.dst v) N h') h →
        o.wpIn F 0 P a w (wpOpsIn F 0 P ops Q (List.range' (k + 1) l.length)) Q := by
      rintro env' rfl hop
      refine opW_ok hop F hW w a _ Q ?_ hh ?_
      · rw [eval_ev, he]
      · intro v w' hr hrest
        refine regW_ok hW (D := D) ops ds l (k + 1) _ N _ hl' hds' hr (a.put o.dst v) w' Q (by rw [put_toList, he]) (by rw [put_defers]; exact hd) rfl ?_
        intro a' w'' hd' hk' hn hr'
        exact hq a' w'' hd' ((Keeps.put hdo).trans hk') hn (hrest.trans hr')
    have sk : ∀ (env' : List Value), env' = env → regW P ops.toList l (putE env' o.dst undef) N h → wpOpsIn F 0 P ops Q (List.range' (k + 1) l.length) (a.put o.dst undef) w := by
      rintro env' rfl hr
      refine regW_ok hW (D := D) ops ds l (k + 1) _ N _ hl' hds' hr (a.put o.dst undef) w Q (by rw [put_toList, he]) (by rw [put_defers]; exact hd) hh ?_
      intro a' w'' hd' hk' hn hr'
      exact hq a' w'' hd' ((Keeps.put hdo).trans hk') hn hr'
    rw [List.length_cons, List.range'_succ]
    simp only [wpOpsIn, hk]
    unfold regW at hN
    cases hg : o.guard with
    | none =>
      simp only [hg] at hN
      have hw : Region.wanted o (yielded ops a.tmps) = true := by simp [Region.wanted, hg]
      rw [if_pos hw]
      exact go env rfl hN
    | some jw =>
      obtain ⟨j, want⟩ := jw
      simp only [hg, Array.getElem?_toList] at hN
      cases hdst : (ops[j]?).bind (·.dst) with
      | none =>
        simp only [hdst] at hN
        have hw : Region.wanted o (yielded ops a.tmps) = false := by simp [Region.wanted, hg, yielded, hdst]
        rw [if_neg (by simp [hw])]
        exact ⟨fun f _ => hW.fn f, sk env rfl hN⟩
      | some d =>
        simp only [hdst] at hN
        have hy : yielded ops a.tmps j = match env[d]? with | some (.bool b) => some b | _ => none := by
          simp only [yielded, hdst, Option.bind_some]
          rw [← he, Array.getElem?_toList]
          rfl
        split at hN
        · rename_i b hb
          have hw : Region.wanted o (yielded ops a.tmps) = (b == want) := by
            simp only [Region.wanted, hg, hy, hb]; cases b <;> cases want <;> rfl
          rcases gdW_spec hN with ⟨hbw, hrun⟩ | ⟨hbw, hskip⟩
          · rw [if_pos (by rw [hw]; simp [hbw])]
            exact go _ (setIfEq hb) hrun
          · rw [if_neg (by rw [hw]; simpa using hbw)]
            exact ⟨fun f _ => hW.fn f, sk _ (setIfEq hb) hskip⟩
        · rename_i hnb
          have hw : Region.wanted o (yielded ops a.tmps) = false := by
            have hy' : yielded ops a.tmps j = none := by
              rw [hy]
              cases he' : env[d]? with
              | none => rfl
              | some v => cases v <;> first | rfl | exact absurd he' (hnb _)
            simp only [Region.wanted, hg, hy']; cases want <;> rfl
          rw [if_neg (by simp [hw])]
          exact ⟨fun f _ => hW.fn f, sk env rfl hN⟩
theorem dst_R {o : Oper} {d : Nat} (hd : o.dst = some d) : ∀ {l : List Oper}, o ∈ l → d ∈ dstR l := by
  intro l
  induction l with
  | nil => intro h; cases h
  | cons o' l ih =>
    intro h
    rcases List.mem_cons.1 h with rfl | h
    · exact List.mem_append_left _ (by simp [dstO, hd])
    · exact List.mem_append_right _ (ih h)
theorem wp_loop_rel {F : Fence} {Q : Exit → Act → World → Prop} {c : Code} (J : Nat → Act → World → Prop) {n : Nat} {a : Act} {w : World} (h₀ : J n a w)
    (round : ∀ n a w, J n a w → c.wpIn F 0 P (Exit.then (fun a' w' => ∃ m, m < n ∧ J m a' w') Q) a w) : (Code.loop c).wpIn F 0 P Q a w := by
  intro b k cs hro hb hr
  have key : ∀ n a w, J n a w → ∃ e a' w', Q e a' w' ∧ ArrivesIn (Machine.fenced P F) P (lone (b.atR a (.code c :: .inLoop c :: k)) cs w) b k cs e a' w' := by
    intro n
    induction n using Nat.strongRecOn with
    | _ n ih =>
      intro a w hJ
      obtain ⟨e, a₁, w₁, hq, harr⟩ := round n a w hJ b (.inLoop c :: k) cs hro hb hr
      cases e with
      | normal =>
        obtain ⟨m, hm, hJ'⟩ := hq
        obtain ⟨e₂, a₂, w₂, hq₂, harr₂⟩ := ih m hm a₁ w₁ hJ'
        exact ⟨e₂, a₂, w₂, hq₂, .of_steps (StepsIn.trans harr (.one (fenced_calm (fr := b.atR a₁ (.inLoop c :: k)) hb hr rfl) stepR_inLoop)) harr₂⟩
      | exit id => exact ⟨_, a₁, w₁, hq, .pass rfl (fun _ _ => .inl (by simp)) harr⟩
      | goto l => exact ⟨_, a₁, w₁, hq, .pass rfl (fun _ _ => .inl (by simp)) harr⟩
      | ret => exact ⟨_, a₁, w₁, hq, .pass rfl (fun _ _ => .inl (by simp)) harr⟩
      | panic ch => exact ⟨_, a₁, w₁, hq, .pass rfl (fun _ _ => .inl (by simp)) harr⟩
      | outgrown => exact ⟨_, a₁, w₁, hq, .pass rfl (fun _ _ => .inl (by simp)) harr⟩
  obtain ⟨e, a', w', hq, harr⟩ := key n a w h₀
  exact ⟨e, a', w', hq, .of_steps (.one (fenced_calm hb hr rfl) stepR_loop) harr⟩
theorem region_ok {F : Fence} (hW : Wd F) {D : List Deferred} {id : Nat} {ops : Array Oper} {env : List Value} {N : List Value → Heap → Prop} {h : Heap} (hr : regW P ops.toList ops.toList env N h)
    (a : Act) (w : World) (Q : Exit → Act → World → Prop) (he : a.tmps.toList = env) (hd : a.defers = D) (hh : w.heap = h)
    (hq : ∀ a' w', a'.defers = D → Keeps (dstC (.region id ops false)) env a'.tmps.toList → N a'.tmps.toList w'.heap → Rest w w' → Q .normal a' w') : (Code.region id ops false).wpIn F 0 P Q a w := by
  refine wpIn_region ?_
  have := regW_ok (P := P) hW ops (dstC (.region id ops false)) ops.toList 0 env N h (fun j => by simp) (fun o ho d hd => dst_R hd ho) hr a w Q he hd hh hq
  rwa [Array.length_toList, ← List.range_eq_range'] at this
end
/- REGIONS THAT DRAW THEIR ORDER. -/
def Ext (h h' : Heap) : Prop := ∃ l : Array Obj, h' = h ++ l
theorem Ext.refl (h : Heap) : Ext h h := ⟨#[], by simp⟩
theorem Ext.trans {a b c : Heap} (h : Ext a b) (k : Ext b c) : Ext a c := by
  obtain ⟨l, rfl⟩ := h; obtain ⟨m, rfl⟩ := k; exact ⟨l ++ m, by simp [Array.append_assoc]⟩
theorem Ext.push (h : Heap) (o : Obj) : Ext h (h.push o) := ⟨#[o], by simp⟩
def Sim (w w' : World) : Prop := w'.heap = w.heap ∧ Rest w w'
theorem Sim.refl (w : World) : Sim w w := ⟨rfl, Rest.refl w⟩
theorem Sim.trans {a b c : World} (h : Sim a b) (k : Sim b c) : Sim a c := ⟨k.1.trans h.1, h.2.trans k.2⟩
theorem Sim.symm {a b : World} (h : Sim a b) : Sim b a := ⟨h.1.symm, Rest.of_heap h.2.os.symm h.2.tape.symm h.2.output.symm h.1.symm⟩
theorem cellH_ext {h h' : Heap} {a : Addr} {v : Value} (he : Ext h h') (hc : cellH h a = some v) : cellH h' a = some v := by
  obtain ⟨l, rfl⟩ := he
  have hlt : a.block < h.size := World.block_lt_of_cell? (hw h) a hc
  have : (h ++ l)[a.block]? = h[a.block]? := by simp [Array.getElem?_append_left, hlt]
  show World.cell? (hw (h ++ l)) a = some v
  rw [World.cell?_of_block (w := hw h) (a := a) this]; exact hc
/-- A call that leaves memory as it is, and gives the same whatever is new in memory. -/
def callQ (P : Program) (f : FuncId) (args : List Value) (ts : List Ty) (F : TT ts → Prop) (h : Heap) : Prop :=
  ∃ s, (∀ h', Ext h h' → CallsH P f args h' fun v h'' => v = retV ts s ∧ h'' = h') ∧ F s
/-- 0: neither reads nor turns memory; 1: reads it; 2: new blocks alone; 3: any other; 4: reads one cell that stays as it is, whatever else the region does. -/
def opKind (o : Oper) (q : Nat) : Nat :=
  match o.op with
  | .move _ | .assign _ | .pick .. | .build .. | .nilCheck _ | .binOp .. | .unOp .. | .convert .. | .fieldAddr .. | .field .. | .indexAddr .. | .index .. | .slice .. | .makeInterface .. | .makeFunc .. | .extract .. | .typeAssert .. => 0
  | .load .. => match q with | 3 => 4 | _ => 1
  | .alloc _ | .box .. | .buildSlice .. | .makeSlice .. => 2
  | .call c => match c.callee with
    | .builtin .len | .builtin .cap | .builtin .max | .builtin .min => 0
    | .value _ => match q with | 1 => 1 | 2 => 2 | _ => 3
    | _ => 3
  | _ => 3
def rdW (P : Program) (o : Oper) (ρ : Operand → Value) (F : Value → Prop) (h : Heap) : Prop :=
  match o.op with
  | .load t a => pW (ρ a) fun p => ldT P t p F h
  | .call c => match c.callee with
    | .value f => match ρ f with
      | .func (.func g) first captured => callQ P g (first.toList ++ c.args.toList.map ρ ++ captured.toList) (resTys P g) (fun s => F (retV (resTys P g) s)) h
      | _ => False
    | _ => False
  | _ => False
def dW (P : Program) (o : Oper) (q : Nat) (ρ : Operand → Value) (K : Value → Heap → Prop) (h : Heap) : Prop :=
  match opKind o q with
  | 0 => orG (opP P o.op ρ fun v => K v h) False
  | 1 => rdW P o ρ (fun v => K v h) h
  | 2 => match o.op with
    | .call _ => opH P o ρ (fun v h' => K v h' ∧ Ext h h') h
    | _ => opH P o ρ K h
  | _ => opH P o ρ K h
def memB (i : Nat) : List Nat → Bool
  | [] => false
  | j :: l => match Nat.beq i j with | true => true | false => memB i l
/-- How a call is told: 1: quiet; 2: it lays new blocks alone; 0: any. 3: of a load: its cell stays. -/
def qOf (i : Nat) (quiet : List Nat) : Nat := match memB i quiet with
  | true => 1
  | false => match memB (i + 100000) quiet with | true => 2 | false => match memB (i + 200000) quiet with | true => 3 | false => 0
/-- Does operation j wait for operation i, through others? -/
def hangsB (ops : Array Oper) (i : Nat) : Nat → Nat → Bool
  | 0, _ => false
  | n + 1, j => match ops[j]? with
    | none => false
    | some o => o.after.toList.any fun e => Region.binds .any e && (e.on == i || hangsB ops i n e.on)
/-- Cells that must be as they were told, till an operation has come up that turns memory and waits for the load. -/
def Rel (ops : Array Oper) (quiet : List Nat) (L : Array Bool) (i : Nat) : Prop := ∃ j o, ops[j]? = some o ∧ opKind o (qOf j quiet) = 3 ∧ L.getD j false = true ∧ ∃ n, hangsB ops i n j = true
def allT (ops : Array Oper) (quiet : List Nat) (T : List (Nat × Addr × Value)) (L : Array Bool) (h : Heap) : Prop := ∀ x ∈ T, Rel ops quiet L x.1 ∨ cellH h x.2.1 = some x.2.2
def andT : List (Nat × Addr × Value) → Heap → Prop → Prop
  | [], _, F => F
  | x :: T, h, F => cellH h x.2.1 = some x.2.2 ∧ andT T h F
def prune (ops : List Oper) (j : Nat) : List (Nat × Addr × Value) → List (Nat × Addr × Value)
  | [] => []
  | x :: T => match hangsB ops.toArray x.1 1 j with | true => prune ops j T | false => x :: prune ops j T
/-- Cells, one behind the other. -/
def cellsT (k : Nat) (p : Addr) : Nat → List Value → List (Nat × Addr × Value) → List (Nat × Addr × Value)
  | _, [], T => T
  | i, v :: vs, T => (k, p.add i, v) :: cellsT k p (i + 1) vs T
def dT (P : Program) (ops : List Oper) (i : Nat) (o : Oper) (q : Nat) (T : List (Nat × Addr × Value)) (ρ : Operand → Value) (K : Value → List (Nat × Addr × Value) → Heap → Prop) (h : Heap) : Prop :=
  match opKind o q with
  | 4 => match o.op with
    | .load t a => pW (ρ a) fun p => (match aggB P t with
      | some (false, _) => ldW (scTy P t) p (fun x => K ((scTy P t).val x) ((i, p, (scTy P t).val x) :: T) h) h
      | some (true, n) => match Nat.ble n wideAt with
        | true => ldAggW (cellTys P 8 t) p (fun s => ckB (Nat.beq (cvals (cellTys P 8 t) s).length n) <| K (.agg (cvals (cellTys P 8 t) s).toArray) (cellsT i p 0 (cvals (cellTys P 8 t) s) T) h) h
        | false => False
      | _ => False)
    | _ => False
  | 3 => opH P o ρ (fun v h' => andT (prune ops i T) h' (K v (prune ops i T) h')) h
  | _ => dW P o q ρ (fun v h' => K v T h') h
/-- Orders: one operation behind the other; at a fork any of some may come first. -/
inductive Od where
  | nil
  | one (i : Nat) (r : Od)
  | fork (i : Nat) (r m : Od)
def odp : List Nat → Od → Od
  | [], r => r
  | i :: l, r => .one i (odp l r)
def Od.len : Od → Nat
  | .nil => 0
  | .one _ r => r.len + 1
  | .fork _ r _ => r.len + 1
def Od.alts : Od → List Nat
  | .nil => []
  | .one i _ => [i]
  | .fork i _ m => i :: m.alts
def stepD (P : Program) (ops : List Oper) (quiet : List Nat) (i : Nat) (T : List (Nat × Addr × Value)) (env : List Value) (G : List (Nat × Addr × Value) → List Value → Heap → Prop) (h : Heap) : Prop :=
  match ops[i]? with
    | none => False
    | some o => match o.guard with
      | none => dT P ops i o (qOf i quiet) T (ev env) (fun v T' h' => G T' (putE env o.dst v) h') h
      | some (j, want) => match (ops[j]?).bind (·.dst) with
        | none => G T (putE env o.dst undef) h
        | some d => match env[d]? with
          | some (.bool b) => gdW b want (fun b' => dT P ops i o (qOf i quiet) T (ev (env.set d (.bool b'))) (fun v T' h' => G T' (putE (env.set d (.bool b')) o.dst v) h') h)
              (fun b' => G T (putE (env.set d (.bool b')) o.dst undef) h)
          | _ => G T (putE env o.dst undef) h
def regD (P : Program) (ops : List Oper) (quiet : List Nat) : Od → List (Nat × Addr × Value) → List Value → (List Value → Heap → Prop) → Heap → Prop
  | .nil, _, env, N, h => N env h
  | .one i r, T, env, N, h => stepD P ops quiet i T env (fun T' e' h' => regD P ops quiet r T' e' N h') h
  | .fork i r m, T, env, N, h => stepD P ops quiet i T env (fun T' e' h' => regD P ops quiet r T' e' N h') h ∧ regD P ops quiet m T env N h
/-- The orders in which the formula goes serve for all orders; 'pre': what else may come first. -/
def ordB (ops : Array Oper) (quiet : List Nat) : List Nat → Od → Array Bool → Bool
  | pre, .nil, L => pre.isEmpty && (Region.ready .any ops L).isEmpty
  | pre, .one i rest, L => (match ops[i]? with
    | none => false
    | some o => match opKind o (qOf i quiet) with
      | 0 | 4 => pre.isEmpty && ((Region.ready .any ops L).contains i && Region.free .any ops L i)
      | 1 => pre.isEmpty && ((Region.ready .any ops L).contains i && Region.free .any ops L i && (List.range ops.size).all fun j =>
          L.getD j true || (match ops[j]? with | some oj => opKind oj (qOf j quiet) != 3 || hangsB ops i ops.size j | none => true))
      | _ => Region.ready .any ops L == pre ++ [i]) && ordB ops quiet [] rest (L.setIfInBounds i true)
  | pre, .fork i r m, L => (match ops[i]? with
    | none => false
    | some o => match opKind o (qOf i quiet) with
      | 2 | 3 => true
      | _ => false) && (Nat.beq (r.len + 1) m.len && (ordB ops quiet [] r (L.setIfInBounds i true) && ordB ops quiet (pre ++ [i]) m L))
section
variable {P : Program} {ops : Array Oper} {Q : Exit → Act → World → Prop} {F : Fence}
def QRun (P : Program) (w : World) (v : Value) : Result Next → Prop
  | .ok (.value u) w' => u = v ∧ Sim w w'
  | .ok (.enter f args) w' => Calls P f args w' fun e w'' => e = .returned v ∧ Sim w w''
  | _ => False
/-- In state 'a', in every world whose heap extends h, operation 'o' gives v, and memory stays. -/
def QY (P : Program) (ops : Array Oper) (H : Heap → Prop) (o : Oper) (v : Value) (a : Act) : Prop :=
  (Region.wanted o (yielded ops a.tmps) = true ∧ ∀ w : World, H w.heap → QRun P w v ((execOp a.eval o).run P w)) ∨ (Region.wanted o (yielded ops a.tmps) = false ∧ v = undef)
theorem QY.of_same {H : Heap → Prop} {o : Oper} {v : Value} {a a' : Act} (hy : QY P ops H o v a) (he : execOp a'.eval o = execOp a.eval o)
    (hw : Region.wanted o (yielded ops a'.tmps) = Region.wanted o (yielded ops a.tmps)) : QY P ops H o v a' := by
  unfold QY at *; rw [he, hw]; exact hy
theorem QY.wpOp (hW : Wd F) {H : Heap → Prop} {i : Nat} {o : Oper} {v : Value} {a : Act} (hi : ops[i]? = some o) (hy : QY P ops H o v a) {K : Act → World → Prop} {w : World} (hH : H w.heap)
    (h : ∀ w', Sim w w' → K (a.put o.dst v) w') : wpOpIn F 0 P ops Q i K a w := by
  unfold Go.wpOpIn
  simp only [hi]
  rcases hy with ⟨hw, hv⟩ | ⟨hw, rfl⟩
  · simp only [hw, if_true, Oper.wpIn]
    refine ⟨fun f _ => hW.fn f, ?_⟩
    have hq := hv w hH
    cases hr : (execOp a.eval o).run P w with
    | halt x w' => rw [hr] at hq; exact hq.elim
    | ok n w' =>
      rw [hr] at hq
      cases n <;> try exact hq.elim
      case value u =>
        rw [semAt_run hr (fun d h => by cases h)]
        obtain ⟨rfl, hs⟩ := hq; exact h _ hs
      case enter f args =>
        rw [semAt_run hr (fun d h => by cases h)]
        refine ⟨hW.one, (hW.calls hq).mono ?_⟩
        rintro e w'' ⟨rfl, hs⟩
        exact h _ hs
  · simp only [hw, Bool.false_eq_true, if_false]; exact ⟨fun f _ => hW.fn f, h w (Sim.refl w)⟩
theorem semAt_put {ro : Option Nat} (o : Oper) (hs : ∀ cs b, o.op ≠ .select cs b) (a : Act) (dst : Option Tmp) (v : Value) (h : ∀ d, dst = some d → d ∉ o.looksAt ops) :
    o.semAt ro (a.put dst v).eval = o.semAt ro a.eval := by
  by_cases hd : ∃ c, o.op = .defer c
  · obtain ⟨c, hc⟩ := hd
    have hr : resolve (a.put dst v).eval c o.type = resolve a.eval c o.type := resolve_congr c _ fun x hx => Act.eval_put fun d hd hxd => h d hd (by
      subst hxd
      exact List.mem_append_left _ (List.mem_filterMap.2 ⟨.tmp d, by simpa [hc, Op.operands] using hx, rfl⟩))
    have he := execOp_put (ops := ops) o hs a dst v h
    cases ro with
    | none => exact he
    | some l => simp only [Oper.semAt, hc, hr]
  · rw [Oper.semAt_eq ro _ o (fun c hc => hd ⟨c, hc⟩), Oper.semAt_eq ro _ o (fun c hc => hd ⟨c, hc⟩)]
    exact execOp_put o hs a dst v h
theorem wpOp_putQ (hW : Wd F) {H : Heap → Prop} {j : Nat} {oi oj : Oper} {v : Value} (hj : ops[j]? = some oj) (hap : oi.apart ops oj = true)
    (hsi : ∀ cs b, oi.op ≠ .select cs b) (hsj : ∀ cs b, oj.op ≠ .select cs b)
    (hQ : ∀ c a w, Q (.panic c) (a.put oi.dst v) w → Q (.panic c) a w) {K : Act → World → Prop} {a : Act} {w : World}
    (hy : QY P ops H oi v a) (h : wpOpIn F 0 P ops Q j K (a.put oi.dst v) w) :
    wpOpIn F 0 P ops Q j (fun a' w' => QY P ops H oi v a' ∧ K (a'.put oi.dst v) w') a w := by
  obtain ⟨h1, h2, h3⟩ := Oper.apart_spec hap
  have keep : ∀ (a : Act), QY P ops H oi v a → ∀ u, QY P ops H oi v (a.put oj.dst u) := fun a hy u =>
    hy.of_same (execOp_put oi hsi a oj.dst u h3) (wanted_put oi a oj.dst u h3)
  have keepD : ∀ d, QY P ops H oi v { a with defers := d :: a.defers } := fun d => hy.of_same rfl rfl
  unfold wpOpIn at *
  simp only [hj] at *
  rw [wanted_put oj a oi.dst v h1] at h
  split
  · rename_i hw
    simp only [hw, if_true] at h
    unfold Oper.wpIn at *
    refine ⟨fun f _ => hW.fn f, ?_⟩
    replace h := h.2
    rw [semAt_put oj hsj a oi.dst v h1] at h
    generalize (oj.semAt F.round a.eval).run P w = r at *
    cases r with
    | ok n w' =>
      cases n <;> simp only [Oper.uponIn] at h ⊢
      case value u => exact ⟨keep a hy u, by rw [← Act.put_comm a v u h2]; exact h⟩
      case skip => exact ⟨keep a hy _, by rw [← Act.put_comm a v undef h2]; exact h⟩
      case defer d =>
        refine ⟨keep _ (keepD d) _, ?_⟩
        rw [← Act.put_comm _ v undef h2, ← Act.put_defers]
        exact h
      case enter f args =>
        refine ⟨h.1, CallsIn.mono h.2 fun e w'' he => ?_⟩
        cases e with
        | returned u => exact ⟨keep a hy u, by rw [← Act.put_comm a v u h2]; exact he⟩
        | panicked c => exact hQ _ _ _ he
        | outgrown => exact he
      case row row args => exact ⟨h.1, RowsIn.mono h.2 fun u w'' he => ⟨keep a hy u, by rw [← Act.put_comm a v u h2]; exact he⟩⟩
      case round l fn tmps assign body =>
        refine ⟨h.1, RoundIn.mono h.2 fun e w'' he => ?_⟩
        cases e with
        | returned u => exact ⟨keep a hy u, by rw [← Act.put_comm a v u h2]; exact he⟩
        | panicked c => exact hQ _ _ _ he
        | outgrown => exact he
    | halt x w' =>
      cases x <;> simp only [Oper.uponIn] at h ⊢
      case panic u => exact hQ _ _ _ h
  · rename_i hw
    simp only [hw] at h
    exact ⟨fun f _ => hW.fn f, keep a hy _, by rw [← Act.put_comm a v undef h2]; exact h.2⟩
/-- Has an operation that turns memory come up since? -/
def Broke (ops : Array Oper) (quiet : List Nat) (L0 L : Array Bool) : Prop :=
  ∃ j o, ops[j]? = some o ∧ opKind o (qOf j quiet) = 3 ∧ L0.getD j true = false ∧ L.getD j false = true
def Kept (ops : Array Oper) (quiet : List Nat) (L0 : Array Bool) (h : Heap) (T : List (Nat × Addr × Value)) (L : Array Bool) (w : World) : Prop := (Broke ops quiet L0 L ∨ Ext h w.heap) ∧ allT ops quiet T L w.heap
def anyH (F : Fence) (P : Program) (ops : Array Oper) (Q : Exit → Act → World → Prop) (quiet : List Nat) (L0 : Array Bool) (h : Heap) (T : List (Nat × Addr × Value)) : Nat → Array Bool → Act → World → Prop
  | 0, L, a, w => Region.ready .any ops L = [] ∧ ∀ w1, Sim w w1 → Q .normal a w1
  | n + 1, L, a, w => ∀ w1, Sim w w1 → (Region.ready .any ops L = [] → Q .normal a w1) ∧
      ∀ i ∈ Region.ready .any ops L, wpOpIn F 0 P ops Q i (fun a' w' => Kept ops quiet L0 h T (L.setIfInBounds i true) w' ∧ anyH F P ops Q quiet L0 h T n (L.setIfInBounds i true) a' w') a w1
theorem anyH_sim {quiet : List Nat} {L0 : Array Bool} {h : Heap} {T : List (Nat × Addr × Value)} : ∀ {n : Nat} {L : Array Bool} {a : Act} {w w' : World}, Sim w w' → anyH F P ops Q quiet L0 h T n L a w → anyH F P ops Q quiet L0 h T n L a w'
  | 0, _, _, _, _, hs, ⟨h1, h2⟩ => ⟨h1, fun w1 h3 => h2 w1 (hs.trans h3)⟩
  | _ + 1, _, _, _, _, hs, h1 => fun w1 h3 => h1 w1 (hs.trans h3)
theorem wpAny_of_anyH {quiet : List Nat} {L0 : Array Bool} {h : Heap} {T : List (Nat × Addr × Value)} : ∀ (n : Nat) (L : Array Bool) (a : Act) (w : World), anyH F P ops Q quiet L0 h T n L a w → wpAnyIn F 0 P .any ops Q n L a w
  | 0, _, _, w, hh => ⟨hh.1, hh.2 w (Sim.refl w)⟩
  | n + 1, _, _, w, hh => ⟨(hh w (Sim.refl w)).1, fun i hi => wpOpIn_mono (fun a' w' h' => wpAny_of_anyH n _ a' w' h'.2) ((hh w (Sim.refl w)).2 i hi)⟩
def Sub (L L' : Array Bool) : Prop := ∀ b, L.getD b false = true → L'.getD b false = true
theorem Sub.refl (L : Array Bool) : Sub L L := fun _ h => h
theorem Sub.trans {L L' L'' : Array Bool} (h : Sub L L') (k : Sub L' L'') : Sub L L'' := fun b hb => k b (h b hb)
theorem Sub.set (L : Array Bool) (i : Nat) : Sub L (L.setIfInBounds i true) := fun _ h => getD_set_true h
theorem Rel.mono {quiet : List Nat} {L L' : Array Bool} {i : Nat} (h : Rel ops quiet L i) (s : Sub L L') : Rel ops quiet L' i := by
  obtain ⟨j, o, h1, h2, h3, h4⟩ := h; exact ⟨j, o, h1, h2, s j h3, h4⟩
theorem allT_mono {quiet : List Nat} {T : List (Nat × Addr × Value)} {L L' : Array Bool} {h : Heap} (hT : allT ops quiet T L h) (s : Sub L L') : allT ops quiet T L' h := fun x hx => (hT x hx).imp (Rel.mono · s) id
theorem anyH_weak {quiet : List Nat} {L0 : Array Bool} {h : Heap} {T1 T : List (Nat × Addr × Value)} : ∀ {n : Nat} {L : Array Bool} {a : Act} {w : World}, (∀ L' h', Sub L L' → allT ops quiet T1 L' h' → allT ops quiet T L' h') → anyH F P ops Q quiet L0 h T1 n L a w → anyH F P ops Q quiet L0 h T n L a w
  | 0, _, _, _, _, hh => hh
  | _ + 1, _, _, _, hT, hh => fun w1 hs => ⟨(hh w1 hs).1, fun i hi => wpOpIn_mono (fun _ _ h' => ⟨⟨h'.1.1, hT _ _ (Sub.set _ _) h'.1.2⟩, anyH_weak (fun L' h' s => hT L' h' ((Sub.set _ _).trans s)) h'.2⟩) ((hh w1 hs).2 i hi)⟩
theorem getD_set_mono {L : Array Bool} {i j : Nat} (h : L.getD j false = true) : (L.setIfInBounds i true).getD j false = true := getD_set_true h
theorem Broke.mono {quiet : List Nat} {L0 L : Array Bool} {i : Nat} (h : Broke ops quiet L0 L) : Broke ops quiet L0 (L.setIfInBounds i true) := by
  obtain ⟨j, o, h1, h2, h3, h4⟩ := h
  exact ⟨j, o, h1, h2, h3, getD_set_mono h4⟩
theorem anyH_broke {quiet : List Nat} {L0 L1 : Array Bool} {h0 h1 : Heap} {T : List (Nat × Addr × Value)} : ∀ {n : Nat} {L : Array Bool} {a : Act} {w : World}, Broke ops quiet L0 L → anyH F P ops Q quiet L1 h1 T n L a w → anyH F P ops Q quiet L0 h0 T n L a w
  | 0, _, _, _, _, hh => hh
  | _ + 1, _, _, _, hb, hh => fun w1 hs => ⟨(hh w1 hs).1, fun i hi => wpOpIn_mono (fun _ _ h' => ⟨⟨.inl hb.mono, h'.1.2⟩, anyH_broke hb.mono h'.2⟩) ((hh w1 hs).2 i hi)⟩
theorem anyH_ext {quiet : List Nat} {L0 L1 : Array Bool} {h0 h1 : Heap} {T : List (Nat × Addr × Value)} (he : Ext h0 h1) (hb : ∀ L, Broke ops quiet L1 L → Broke ops quiet L0 L) : ∀ {n : Nat} {L : Array Bool} {a : Act} {w : World}, anyH F P ops Q quiet L1 h1 T n L a w → anyH F P ops Q quiet L0 h0 T n L a w
  | 0, _, _, _, hh => hh
  | _ + 1, _, _, _, hh => fun w1 hs => ⟨(hh w1 hs).1, fun i hi => wpOpIn_mono (fun _ _ h' => ⟨⟨h'.1.1.imp (hb _) (he.trans ·), h'.1.2⟩, anyH_ext he hb h'.2⟩) ((hh w1 hs).2 i hi)⟩
/-- What has come up, and all that it waits for. -/
def Closed (ops : Array Oper) (L : Array Bool) : Prop := ∀ j o, ops[j]? = some o → L.getD j false = true → ∀ e ∈ o.after, Region.binds .any e = true → L.getD e.on false = true
theorem Closed.set {L : Array Bool} {i : Nat} (h : Closed ops L) (hi : i ∈ Region.ready .any ops L) : Closed ops (L.setIfInBounds i true) := by
  intro j o hj hl e he hb
  obtain ⟨hu, o', ho', hall⟩ := mem_ready.1 hi
  by_cases hij : i = j
  · subst hij
    rw [hj] at ho'; obtain rfl := Option.some.inj ho'
    exact getD_set_true (hall e he hb)
  · rw [getD_set_ne false hij] at hl
    exact getD_set_true (h j o hj hl e he hb)
theorem hangs_listed {L : Array Bool} (hc : Closed ops L) {i : Nat} : ∀ (n j : Nat), hangsB ops i n j = true → L.getD j false = true → L.getD i false = true
  | 0, _, h, _ => by simp [hangsB] at h
  | n + 1, j, h, hl => by
    unfold hangsB at h
    cases ho : ops[j]? with
    | none => simp [ho] at h
    | some o =>
      simp only [ho, List.any_eq_true, Bool.and_eq_true, Bool.or_eq_true, beq_iff_eq] at h
      obtain ⟨e, he, hb, h⟩ := h
      have h1 := hc j o ho hl e (by simpa using he) hb
      rcases h with h | h
      · rw [← h]; exact h1
      · exact hangs_listed hc n e.on h h1
theorem getD_tf {L : Array Bool} {i : Nat} (h : L.getD i true = false) : L.getD i false = false := by
  rcases Nat.lt_or_ge i L.size with h' | h'
  · simp [h'] at h ⊢; exact h
  · simp [Array.getElem?_eq_none h'] at h
theorem anyH_first (hW : Wd F) {quiet : List Nat} {L0 : Array Bool} {h : Heap} {i : Nat} {oi : Oper} {v : Value} {H : Heap → Prop} {T T1 : List (Nat × Addr × Value)} (hT : ∀ L h', allT ops quiet T1 L h' → allT ops quiet T L h') (hi : ops[i]? = some oi) (hsel : ∀ (j : Nat) (o : Oper) cs b, ops[j]? = some o → o.op ≠ .select cs b)
    (hQ : ∀ c a w, Q (.panic c) (a.put oi.dst v) w → Q (.panic c) a w) (hk : opKind oi (qOf i quiet) ≠ 3)
    (hH : (∀ h', H h') ∨ ((∀ h', Ext h h' → H h') ∧ ∀ j o, ops[j]? = some o → opKind o (qOf j quiet) = 3 → L0.getD j true = false → ∃ n, hangsB ops i n j = true) ∨ (∀ L h', ¬ Rel ops quiet L i → allT ops quiet T1 L h' → H h')) :
    ∀ (fuel : Nat) (L : Array Bool) (a : Act) (w : World),
      (∀ j oj, ops[j]? = some oj → j ≠ i → L.getD j true = false → (∀ e ∈ oj.after, Region.binds .any e = true → e.on ≠ i) → oi.apart ops oj = true) →
      Closed ops L → i ∈ Region.ready .any ops L → QY P ops H oi v a → Kept ops quiet L0 h T1 L w →
      anyH F P ops Q quiet L0 h T1 fuel (L.setIfInBounds i true) (a.put oi.dst v) w → anyH F P ops Q quiet L0 h T (fuel + 1) L a w := by
  have hnow : ∀ (L : Array Bool) (w : World), Closed ops L → L.getD i true = false → Kept ops quiet L0 h T1 L w → H w.heap := by
    intro L w hc hu hkept
    rcases hH with hall | ⟨hext, hbar⟩ | hst
    · exact hall _
    · rcases hkept.1 with ⟨j, o, hj, hj3, hj0, hjl⟩ | he
      · obtain ⟨n, hn⟩ := hbar j o hj hj3 hj0
        have := hangs_listed hc n j hn hjl
        rw [getD_tf hu] at this; cases this
      · exact hext _ he
    · refine hst L _ ?_ hkept.2
      rintro ⟨j, o, hj, hj3, hjl, n, hn⟩
      have := hangs_listed hc n j hn hjl
      rw [getD_tf hu] at this; cases this
  have self : ∀ (L : Array Bool) (a : Act) (w w1 : World), Closed ops L → L.getD i true = false → QY P ops H oi v a → Kept ops quiet L0 h T1 L w → Sim w w1 →
      ∀ fuel, anyH F P ops Q quiet L0 h T1 fuel (L.setIfInBounds i true) (a.put oi.dst v) w →
      wpOpIn F 0 P ops Q i (fun a' w' => Kept ops quiet L0 h T (L.setIfInBounds i true) w' ∧ anyH F P ops Q quiet L0 h T fuel (L.setIfInBounds i true) a' w') a w1 := by
    intro L a w w1 hc hu hy hkept hs fuel HH
    refine hy.wpOp hW hi (hnow L w1 hc hu ⟨hkept.1.imp id fun e => by rw [hs.1]; exact e, by rw [hs.1]; exact hkept.2⟩) ?_
    intro w' hs'
    exact ⟨⟨hkept.1.imp Broke.mono (fun e => by rw [hs'.1, hs.1]; exact e), hT _ _ (by rw [hs'.1, hs.1]; exact allT_mono hkept.2 (Sub.set _ _))⟩, anyH_weak (fun L' h' _ => hT L' h') (anyH_sim (hs.trans hs') HH)⟩
  intro fuel
  induction fuel with
  | zero =>
    intro L a w _ hc hr hy hkept HH w1 hs
    refine ⟨fun h => (by rw [h] at hr; cases hr), fun j hj => ?_⟩
    by_cases hji : j = i
    · subst hji; exact self L a w w1 hc (mem_ready.1 hr).1 hy hkept hs 0 HH
    · have := ready_mono hj hji
      rw [HH.1] at this
      cases this
  | succ fuel ih =>
    intro L a w hfree hc hr hy hkept HH w1 hs
    refine ⟨fun h => (by rw [h] at hr; cases hr), fun j hj => ?_⟩
    by_cases hji : j = i
    · subst hji; exact self L a w w1 hc (mem_ready.1 hr).1 hy hkept hs _ HH
    · have h1 := (HH w1 hs).2 j (ready_mono hj hji)
      obtain ⟨hjun, oj, hoj, hall⟩ := mem_ready.1 hj
      have hnot : ∀ e ∈ oj.after, Region.binds .any e = true → e.on ≠ i := fun e he hb heq => by
        have h1 := hall e he hb
        rw [heq, getD_tf (mem_ready.1 hr).1] at h1
        cases h1
      have h2 := wpOp_putQ hW hoj (hfree j oj hoj hji hjun hnot) (fun cs b => hsel i oi cs b hi) (fun cs b => hsel j oj cs b hoj) hQ hy h1
      have hfree' : ∀ k ok, ops[k]? = some ok → k ≠ i → (L.setIfInBounds j true).getD k true = false →
          (∀ e ∈ ok.after, Region.binds .any e = true → e.on ≠ i) → oi.apart ops ok = true := fun k ok hk hki hun hno => by
        refine hfree k ok hk hki ?_ hno
        by_cases hjk : j = k
        · subst hjk; exact hjun
        · rw [getD_set_ne true hjk] at hun; exact hun
      refine wpOpIn_mono (fun a' w' h3 => ?_) h2
      obtain ⟨hy', hkept', h4⟩ := h3
      have hkj : Kept ops quiet L0 h T1 (L.setIfInBounds j true) w' := by
        refine ⟨hkept'.1.imp ?_ id, fun x hx => (hkept'.2 x hx).imp ?_ id⟩
        rotate_left
        · rintro ⟨k, o, hk1, hk2, hk3, hk4⟩
          refine ⟨k, o, hk1, hk2, ?_, hk4⟩
          have hki : i ≠ k := fun e => hk (by subst e; rw [hi] at hk1; obtain rfl := Option.some.inj hk1; exact hk2)
          rw [Array.setIfInBounds_comm _ _ (Ne.symm hji), getD_set_ne false hki] at hk3
          exact hk3
        rintro ⟨k, o, hk1, hk2, hk3, hk4⟩
        refine ⟨k, o, hk1, hk2, hk3, ?_⟩
        have hki : i ≠ k := fun e => hk (by subst e; rw [hi] at hk1; obtain rfl := Option.some.inj hk1; exact hk2)
        rw [Array.setIfInBounds_comm _ _ (Ne.symm hji), getD_set_ne false hki] at hk4
        exact hk4
      refine ⟨⟨hkj.1, hT _ _ hkj.2⟩, ih _ a' w' hfree' (hc.set hj) (ready_mono hr (Ne.symm hji)) hy' hkj ?_⟩
      rw [Array.setIfInBounds_comm _ _ hji]
      exact h4
end
section
variable {P : Program} {ops : Array Oper} {Q : Exit → Act → World → Prop}
theorem run_loadT_ext {t : TypeId} {a : Addr} {K : Value → Prop} {h : Heap} (hK : ldT P t a K h) : ∃ v, K v ∧ ∀ w : World, Ext h w.heap → (loadVar t a).run P w = .ok v w := by
  unfold ldT at hK
  split at hK
  · rename_i n ha
    obtain ⟨⟨i, hi, rfl⟩, hagg⟩ := aggB_spec ha
    obtain ⟨x, hc, hk⟩ := hK
    refine ⟨_, hk, fun w e => ?_⟩
    have hc := cellH_ext e hc
    rw [← cellH_eq] at hc
    simp [loadVar, hagg, hc]
  · rename_i n ha
    obtain ⟨⟨i, hi, rfl⟩, hagg⟩ := aggB_spec ha
    split at hK
    · obtain ⟨s, hc, hk⟩ := hK
      obtain ⟨hl, hk⟩ := ckB_spec hk
      have hl := Nat.eq_of_beq_eq_true hl
      refine ⟨_, hk, fun w e => ?_⟩
      have hr := run_loadCells_list (P := P) w a (cvals _ s) (fun j v hj => by have := cellH_ext e (cellsAre_spec _ _ hc j v hj); rw [← cellH_eq] at this; simpa using this)
      rw [hl] at hr
      simp [loadVar, hagg, run_sizeOf' hi, hr]
    · obtain ⟨s, hc, hk⟩ := hK
      refine ⟨_, hk, fun w e => ?_⟩
      have hr := run_loadCells_list (P := P) w a s.1 (fun j v hj => by have := cellH_ext e (cellsAre_spec _ _ hc j v hj); rw [← cellH_eq] at this; simpa using this)
      rw [s.2] at hr
      simp [loadVar, hagg, run_sizeOf' hi, hr]
  · exact hK.elim
theorem rdW_ok {o : Oper} {ρ : Operand → Value} {F : Value → Prop} {h : Heap} (hK : rdW P o ρ F h) : ∃ v, F v ∧ ∀ w : World, Ext h w.heap → QRun P w v ((execOp ρ o).run P w) := by
  unfold rdW at hK
  split at hK
  · rename_i t x ho
    obtain ⟨a, ha, hk⟩ := pW_spec hK
    obtain ⟨v, hF, hr⟩ := run_loadT_ext hk
    refine ⟨v, hF, fun w e => ?_⟩
    have : (execOp ρ o).run P w = .ok (.value v) w := by simp [execOp, ho, Instr.loadAt, ha, Instr.sureAddr, hr w e]
    rw [this]; exact ⟨rfl, Sim.refl w⟩
  · rename_i c ho
    split at hK
    · rename_i fo hc
      split at hK
      · rename_i g first captured hv
        obtain ⟨s, hcall, hF⟩ := hK
        refine ⟨_, hF, fun w e => ?_⟩
        obtain ⟨hok, hcall⟩ := hcall w.heap e
        have hrun : (execOp ρ o).run P w = .ok (.enter g (first ++ c.args.map ρ ++ captured)) w := by
          simp [execOp, ho, resolve, hc, hv, Deferred.ofValue, invoke, run_callFunc' hok]
        have ea : (first.toList ++ c.args.toList.map ρ ++ captured.toList).toArray = first ++ c.args.map ρ ++ captured := by simp
        have hcall := hcall w rfl
        rw [ea] at hcall
        rw [hrun]
        refine Calls.mono hcall ?_
        rintro e' w' ⟨v, rfl, ⟨rfl, hh⟩, hq⟩
        exact ⟨rfl, hh, hq⟩
      · exact hK.elim
    · exact hK.elim
  · exact hK.elim
theorem opH_ext {o : Oper} {q : Nat} {ρ : Operand → Value} {K : Value → Heap → Prop} {h : Heap} (hnc : ∀ c, o.op ≠ .call c) (hk : opKind o q = 2) (hK : opH P o ρ K h) : opH P o ρ (fun v h' => K v h' ∧ Ext h h') h := by
  obtain ⟨dst, op, type, pos, after, guard⟩ := o
  cases op <;> first | (simp [opKind] at hk; done) | (simp only [opKind] at hk; split at hk <;> cases hk; done) | skip
  case alloc t =>
    simp only [opH] at hK ⊢
    split
    · rename_i z hz; simp only [hz] at hK; exact ⟨hK, Ext.push _ _⟩
    · rename_i hz; simp only [hz] at hK
  case box t x => exact ⟨hK, Ext.push _ _⟩
  case buildSlice t len parts =>
    simp only [opH, buildSliceT] at hK ⊢
    split
    · rename_i e he
      simp only [he] at hK
      split
      · rename_i n z h1 h2
        simp only [h1, h2] at hK
        split
        · rename_i cs h3 h4
          simp only [h3, h4] at hK
          exact ⟨hK, Ext.push _ _⟩
        · rename_i h3
          split at hK
          · rename_i cs h4 h5; exact absurd h5 (h3 cs h4)
          · exact hK
      · rename_i h1
        split at hK
        · rename_i n z h2 h3; exact absurd h3 (h1 n z h2)
        · exact hK
    · rename_i h1
      split at hK
      · rename_i e he; exact absurd he (h1 e)
      · exact hK
  case makeSlice t l c =>
    simp only [opH] at hK ⊢
    split
    · rename_i e he
      simp only [he] at hK
      split
      · rename_i z hz
        simp only [hz] at hK
        obtain ⟨kl, nl, h1, hK⟩ := iW_spec hK
        obtain ⟨kc, nc, h2, hK⟩ := iW_spec hK
        simp only [h1, h2, iW]
        exact ⟨hK.1, hK.2, Ext.push _ _⟩
      · rename_i hz; simp only [hz] at hK
    · rename_i h1
      split at hK
      · rename_i e he; exact absurd he (h1 e)
      · exact hK
  case call c => exact absurd rfl (hnc c)
theorem dW_two {o : Oper} {q : Nat} {ρ : Operand → Value} {K : Value → Heap → Prop} {h : Heap} (hk : opKind o q = 2) (hD : dW P o q ρ K h) : opH P o ρ (fun v h' => K v h' ∧ Ext h h') h := by
  simp only [dW, hk] at hD
  split at hD
  · exact hD
  · rename_i hn; exact opH_ext hn hk hD
theorem stepD_step {quiet : List Nat} {T : List (Nat × Addr × Value)} {i : Nat} {o : Oper} {env : List Value} {G : List (Nat × Addr × Value) → List Value → Heap → Prop} {h : Heap} {a : Act} (hi : ops[i]? = some o) (he : a.tmps.toList = env)
    (hD : stepD P ops.toList quiet i T env G h) :
    (Region.wanted o (yielded ops a.tmps) = true ∧ dT P ops.toList i o (qOf i quiet) T (ev env) (fun v T' h' => G T' (putE env o.dst v) h') h) ∨
    (Region.wanted o (yielded ops a.tmps) = false ∧ G T (putE env o.dst undef) h) := by
  unfold stepD at hD
  simp only [Array.getElem?_toList, hi] at hD
  cases hg : o.guard with
  | none =>
    simp only [hg] at hD
    exact .inl ⟨by simp [Region.wanted, hg], hD⟩
  | some jw =>
    obtain ⟨j, want⟩ := jw
    simp only [hg] at hD
    cases hdst : (ops[j]?).bind (·.dst) with
    | none =>
      simp only [hdst] at hD
      exact .inr ⟨by simp [Region.wanted, hg, yielded, hdst], hD⟩
    | some d =>
      simp only [hdst] at hD
      have hy : yielded ops a.tmps j = match env[d]? with | some (.bool b) => some b | _ => none := by
        simp only [yielded, hdst, Option.bind_some]
        rw [← he, Array.getElem?_toList]
        rfl
      split at hD
      · rename_i b hb
        have hw : Region.wanted o (yielded ops a.tmps) = (b == want) := by
          simp only [Region.wanted, hg, hy, hb]; cases b <;> cases want <;> rfl
        rcases gdW_spec hD with ⟨hbw, hrun⟩ | ⟨hbw, hskip⟩
        · refine .inl ⟨by rw [hw]; simp [hbw], ?_⟩
          rw [setIfEq hb] at hrun; exact hrun
        · refine .inr ⟨by rw [hw]; simpa using hbw, ?_⟩
          rw [setIfEq hb] at hskip; exact hskip
      · rename_i hnb
        refine .inr ⟨?_, hD⟩
        have hy' : yielded ops a.tmps j = none := by
          rw [hy]
          cases he' : env[d]? with
          | none => rfl
          | some v => cases v <;> first | rfl | exact absurd he' (hnb _)
        simp only [Region.wanted, hg, hy']; cases want <;> rfl
theorem broke_set {quiet : List Nat} {L : Array Bool} {i : Nat} (L' : Array Bool) (h : Broke ops quiet (L.setIfInBounds i true) L') : Broke ops quiet L L' := by
  obtain ⟨j, o, h1, h2, h3, h4⟩ := h
  refine ⟨j, o, h1, h2, ?_, h4⟩
  by_cases hij : i = j
  · subst hij
    rcases Nat.lt_or_ge i L.size with h' | h'
    · simp [h'] at h3
    · simp at h3
  · rw [getD_set_ne true hij] at h3; exact h3
theorem allT_ext {quiet : List Nat} {T : List (Nat × Addr × Value)} {L : Array Bool} {h h' : Heap} (he : Ext h h') (hT : allT ops quiet T L h) : allT ops quiet T L h' := fun x hx => (hT x hx).imp id (cellH_ext he)
theorem andT_spec {quiet : List Nat} {T : List (Nat × Addr × Value)} {L : Array Bool} {h : Heap} {F : Prop} : andT T h F → allT ops quiet T L h ∧ F := by
  induction T with
  | nil => intro hf; exact ⟨(fun x hx => (by cases hx)), hf⟩
  | cons y T ih =>
    rintro ⟨h1, h2⟩
    refine ⟨fun x hx => ?_, (ih h2).2⟩
    rcases List.mem_cons.1 hx with rfl | hx
    · exact .inr h1
    · exact (ih h2).1 x hx
theorem prune_mem {j : Nat} : ∀ {T : List (Nat × Addr × Value)} {x : Nat × Addr × Value}, x ∈ T → x ∈ prune ops.toList j T ∨ hangsB ops x.1 1 j = true
  | [], _, h => by cases h
  | y :: T, x, h => by
    unfold prune
    rcases List.mem_cons.1 h with rfl | h
    · split
      · rename_i e; exact .inr (by simpa using e)
      · exact .inl (List.mem_cons_self ..)
    · rcases prune_mem h with h | h
      · split
        · exact .inl h
        · exact .inl (List.mem_cons_of_mem _ h)
      · exact .inr h
theorem prune_all {quiet : List Nat} {j : Nat} {o : Oper} (hi : ops[j]? = some o) (hk : opKind o (qOf j quiet) = 3) {T : List (Nat × Addr × Value)} {L : Array Bool} (hl : L.getD j false = true) {h : Heap} (hT : allT ops quiet (prune ops.toList j T) L h) : allT ops quiet T L h := by
  intro x hx
  rcases prune_mem (j := j) hx with h | h
  · exact hT x h
  · exact .inl ⟨j, o, hi, hk, hl, 1, h⟩
theorem cellsT_mem {k : Nat} {p : Addr} : ∀ (vs : List Value) (i : Nat) (T : List (Nat × Addr × Value)), ∃ N, cellsT k p i vs T = N ++ T ∧ (∀ (j : Nat) (v : Value), vs[j]? = some v → (k, p.add (i + j), v) ∈ N) ∧ ∀ x ∈ N, ∃ (j : Nat) (v : Value), vs[j]? = some v ∧ x = (k, p.add (i + j), v)
  | [], _, _ => ⟨[], rfl, fun j v h => by simp at h, fun _ h => by cases h⟩
  | u :: vs, i, T => by
    obtain ⟨N, h1, h2, h3⟩ := cellsT_mem (k := k) (p := p) vs (i + 1) T
    refine ⟨(k, p.add i, u) :: N, by simp [cellsT, h1], fun j v hj => ?_, fun x hx => ?_⟩
    · cases j with
      | zero => simp at hj; subst hj; exact List.mem_cons_self ..
      | succ j => simp at hj; have := h2 j v hj; rw [show i + 1 + j = i + (j + 1) by omega] at this; exact List.mem_cons_of_mem _ this
    · rcases List.mem_cons.1 hx with rfl | hx
      · exact ⟨0, u, rfl, rfl⟩
      · obtain ⟨j, v, hj, rfl⟩ := h3 x hx
        exact ⟨j + 1, v, by simpa using hj, by rw [show i + 1 + j = i + (j + 1) by omega]⟩
theorem ldS_ok {i : Nat} {o : Oper} {ρ : Operand → Value} {T : List (Nat × Addr × Value)} {K : Value → List (Nat × Addr × Value) → Heap → Prop} {q : Nat} {h : Heap} (hk : opKind o q = 4) (hD : dT P ops.toList i o q T ρ K h) :
    ∃ N v, (∀ x ∈ N, x.1 = i ∧ cellH h x.2.1 = some x.2.2) ∧ K v (N ++ T) h ∧ ∀ w : World, (∀ x ∈ N, cellH w.heap x.2.1 = some x.2.2) → QRun P w v ((execOp ρ o).run P w) := by
  simp only [dT, hk] at hD
  split at hD
  · rename_i t x ho
    obtain ⟨p, hp, hD⟩ := pW_spec hD
    split at hD
    · rename_i n hag
      obtain ⟨y, hc, hD⟩ := hD
      have hagg := (aggB_spec hag).2
      refine ⟨[(i, p, (scTy P t).val y)], _, fun x hx => ?_, hD, fun w e => ?_⟩
      · obtain rfl := List.mem_singleton.1 hx; exact ⟨rfl, hc⟩
      have e := e _ (List.mem_singleton.2 rfl)
      simp only [] at e
      rw [← cellH_eq] at e
      have hr : (loadVar t p).run P w = .ok ((scTy P t).val y) w := by simp [loadVar, hagg, e]
      have : (execOp ρ o).run P w = .ok (.value ((scTy P t).val y)) w := by simp [execOp, ho, Instr.loadAt, hp, Instr.sureAddr, hr]
      rw [this]; exact ⟨rfl, Sim.refl w⟩
    · rename_i n hag
      split at hD
      · obtain ⟨y, hc, hD⟩ := hD
        obtain ⟨hl, hD'⟩ := ckB_spec hD
        have hl := Nat.eq_of_beq_eq_true hl
        obtain ⟨⟨ii, hi, rfl⟩, hagg⟩ := aggB_spec hag
        obtain ⟨N, m1, m2, m3⟩ := cellsT_mem (k := i) (p := p) (cvals (cellTys P 8 t) y) 0 T
        rw [m1] at hD'
        refine ⟨N, _, fun x hx => ?_, hD', fun w e => ?_⟩
        · obtain ⟨j, v, hj, rfl⟩ := m3 x hx
          exact ⟨rfl, cellsAre_spec _ _ hc j v hj⟩
        have hr := run_loadCells_list (P := P) w p (cvals _ y) (fun j v hj => by have := e _ (m2 j v hj); simp only [] at this; rw [← cellH_eq] at this; simpa using this)
        rw [hl] at hr
        have hr : (loadVar t p).run P w = .ok (.agg (cvals (cellTys P 8 t) y).toArray) w := by simp [loadVar, hagg, run_sizeOf' hi, hr]
        have : (execOp ρ o).run P w = .ok (.value (.agg (cvals (cellTys P 8 t) y).toArray)) w := by simp [execOp, ho, Instr.loadAt, hp, Instr.sureAddr, hr]
        rw [this]; exact ⟨rfl, Sim.refl w⟩
      · exact hD.elim
    · exact hD.elim
  · exact hD.elim
/-- One operation that neither reads nor turns memory, or reads it alone. -/
theorem pure_ok {F : Fence} (hW : Wd F) {quiet : List Nat} (hsel : Region.noSelect ops = true) (hQp : ∀ c a w, ¬ Q (.panic c) a w) {i : Nat} {o : Oper} {n : Nat} {T : List (Nat × Addr × Value)} {L : Array Bool} {env : List Value} {G : List (Nat × Addr × Value) → List Value → Heap → Prop} {h : Heap} {a : Act} {w : World}
    (hi : ops[i]? = some o) (he : a.tmps.toList = env) (hh : w.heap = h) (hc : Closed ops L) (hAll : allT ops quiet T L h) (hD : stepD P ops.toList quiet i T env G h)
    (hrd : (Region.ready .any ops L).contains i = true) (hfr : Region.free .any ops L i = true)
    (hkind : opKind o (qOf i quiet) = 0 ∨ opKind o (qOf i quiet) = 4 ∨ (opKind o (qOf i quiet) = 1 ∧ ((List.range ops.size).all fun j =>
          L.getD j true || (match ops[j]? with | some oj => opKind oj (qOf j quiet) != 3 || hangsB ops i ops.size j | none => true)) = true))
    (ihk : ∀ (T' : List (Nat × Addr × Value)) (v : Value), G T' (putE env o.dst v) h → allT ops quiet T' (L.setIfInBounds i true) h → anyH F P ops Q quiet (L.setIfInBounds i true) h T' n (L.setIfInBounds i true) (a.put o.dst v) w) :
    anyH F P ops Q quiet L h T (n + 1) L a w := by
  have hpan : ∀ (v : Value) c a w, Q (.panic c) (a.put o.dst v) w → Q (.panic c) a w := fun v c a w hh => (hQp _ _ _ hh).elim
  have first : ∀ (T1 : List (Nat × Addr × Value)) (v : Value) (H : Heap → Prop), (∀ L h', allT ops quiet T1 L h' → allT ops quiet T L h') → allT ops quiet T1 L h → opKind o (qOf i quiet) ≠ 3 →
      ((∀ h', H h') ∨ ((∀ h', Ext h h' → H h') ∧ ∀ j o, ops[j]? = some o → opKind o (qOf j quiet) = 3 → L.getD j true = false → ∃ n, hangsB ops i n j = true) ∨ (∀ L h', ¬ Rel ops quiet L i → allT ops quiet T1 L h' → H h')) →
      QY P ops H o v a → G T1 (putE env o.dst v) h → anyH F P ops Q quiet L h T (n + 1) L a w := by
    intro T1 v H hT hAll1 hk3 hH hy hr
    have hrd' : i ∈ Region.ready .any ops L := by simpa using hrd
    refine anyH_first hW hT hi (Region.noSelect_spec hsel) (hpan v) hk3 hH _ L a w (Region.free_spec hi hfr) hc hrd' hy ⟨.inr (by rw [hh]; exact Ext.refl _), by rw [hh]; exact hAll1⟩ ?_
    exact anyH_ext (Ext.refl _) (fun L' => broke_set L') (ihk T1 v hr (allT_mono hAll1 (Sub.set _ _)))
  have step := stepD_step hi he hD
  rcases hkind with hkind | h4 | ⟨hkind, h1⟩
  · rcases step with ⟨hw, hr⟩ | ⟨hw, hr⟩
    · simp only [dT, dW, hkind] at hr
      rcases orG_spec hr with ⟨p, hp, hk⟩ | hf
      · obtain ⟨v, hrun, hk⟩ := opP_ok hp hk
        exact first T v (fun _ => True) (fun _ _ h => h) hAll (by simp [hkind]) (.inl fun _ => trivial) (.inl ⟨hw, fun w _ => by rw [eval_ev, he, hrun w]; exact ⟨rfl, Sim.refl w⟩⟩) hk
      · exact hf.elim
    · exact first T undef (fun _ => True) (fun _ _ h => h) hAll (by simp [hkind]) (.inl fun _ => trivial) (.inr ⟨hw, rfl⟩) hr
  · rcases step with ⟨hw, hr⟩ | ⟨hw, hr⟩
    · obtain ⟨N, v, hcell, hk, hrun⟩ := ldS_ok h4 hr
      refine first (N ++ T) v (fun h' => ∀ x ∈ N, cellH h' x.2.1 = some x.2.2) (fun L h' ha x hx => ha x (List.mem_append_right _ hx)) (fun x hx => ?_) (by simp [h4]) (.inr (.inr fun L h' hn ha x hx => ?_)) (.inl ⟨hw, fun w hw' => by rw [eval_ev, he]; exact hrun w hw'⟩) hk
      · rcases List.mem_append.1 hx with hx | hx
        · exact .inr (hcell x hx).2
        · exact hAll x hx
      · rcases ha x (List.mem_append_left _ hx) with h1 | h1
        · rw [(hcell x hx).1] at h1; exact (hn h1).elim
        · exact h1
    · exact first T undef (fun _ => True) (fun _ _ h => h) hAll (by simp [h4]) (.inl fun _ => trivial) (.inr ⟨hw, rfl⟩) hr
  · have hbar : ∀ j o, ops[j]? = some o → opKind o (qOf j quiet) = 3 → L.getD j true = false → ∃ n, hangsB ops i n j = true := by
      intro j oj hj hj3 hju
      have := h1
      rw [List.all_eq_true] at this
      have := this j (List.mem_range.2 (Array.getElem?_eq_some_iff.1 hj).1)
      simp only [hj, hju, hj3, Bool.false_or, bne_self_eq_false] at this
      exact ⟨_, this⟩
    rcases step with ⟨hw, hr⟩ | ⟨hw, hr⟩
    · simp only [dT, dW, hkind] at hr
      obtain ⟨v, hk, hrun⟩ := rdW_ok hr
      exact first T v (fun h' => Ext h h') (fun _ _ h => h) hAll (by simp [hkind]) (.inr (.inl ⟨fun _ he => he, hbar⟩)) (.inl ⟨hw, fun w hw' => by rw [eval_ev, he]; exact hrun w hw'⟩) hk
    · exact first T undef (fun _ => True) (fun _ _ h => h) hAll (by simp [hkind]) (.inl fun _ => trivial) (.inr ⟨hw, rfl⟩) hr
/-- One operation that turns memory, or lays new blocks. -/
theorem eff_ok {F : Fence} (hW : Wd F) {quiet : List Nat} {j : Nat} {o : Oper} {n : Nat} {T : List (Nat × Addr × Value)} {L : Array Bool} {env : List Value} {G : List (Nat × Addr × Value) → List Value → Heap → Prop} {h : Heap} {a : Act} {w : World}
    (hi : ops[j]? = some o) (he : a.tmps.toList = env) (hh : w.heap = h) (hAll : allT ops quiet T L h) (hD : stepD P ops.toList quiet j T env G h)
    (hrd' : j ∈ Region.ready .any ops L) (hkind : opKind o (qOf j quiet) = 2 ∨ opKind o (qOf j quiet) = 3)
    (ihk : ∀ (T' : List (Nat × Addr × Value)) (v : Value) (w' : World), G T' (putE env o.dst v) w'.heap → allT ops quiet T' (L.setIfInBounds j true) w'.heap → Rest w w' → anyH F P ops Q quiet (L.setIfInBounds j true) w'.heap T' n (L.setIfInBounds j true) (a.put o.dst v) w')
    (w1 : World) (hs : Sim w w1) : wpOpIn F 0 P ops Q j (fun a' w' => Kept ops quiet L h T (L.setIfInBounds j true) w' ∧ anyH F P ops Q quiet L h T n (L.setIfInBounds j true) a' w') a w1 := by
  have step := stepD_step hi he hD
  have fin : ∀ (T' : List (Nat × Addr × Value)) (v : Value) (w' : World), (∀ L' h', Sub (L.setIfInBounds j true) L' → allT ops quiet T' L' h' → allT ops quiet T L' h') → G T' (putE env o.dst v) w'.heap → allT ops quiet T' (L.setIfInBounds j true) w'.heap → Rest w1 w' → (opKind o (qOf j quiet) = 3 ∨ Ext h w'.heap) →
      Kept ops quiet L h T (L.setIfInBounds j true) w' ∧ anyH F P ops Q quiet L h T n (L.setIfInBounds j true) (a.put o.dst v) w' := by
    intro T' v w' hsub hr hall hrest hor
    have hany := anyH_weak hsub (ihk T' v w' hr hall (hs.2.trans hrest))
    have hall := hsub _ _ (Sub.refl _) hall
    rcases hor with h3 | hext
    · have hbr : Broke ops quiet L (L.setIfInBounds j true) := by
        refine ⟨j, o, hi, h3, (mem_ready.1 hrd').1, ?_⟩
        have hlt : j < L.size := by
          rcases Nat.lt_or_ge j L.size with h' | h'
          · exact h'
          · have := (mem_ready.1 hrd').1
            simp [Array.getElem?_eq_none h'] at this
        simp [hlt]
      exact ⟨⟨.inl hbr, hall⟩, anyH_broke hbr hany⟩
    · exact ⟨⟨.inr hext, hall⟩, anyH_ext hext (fun L' => broke_set L') hany⟩
  unfold wpOpIn
  simp only [hi]
  rcases step with ⟨hw, hr⟩ | ⟨hw, hr⟩
  · rw [if_pos hw]
    rcases hkind with h2 | h3
    · have hr : dW P o (qOf j quiet) (ev env) (fun v h' => G T (putE env o.dst v) h') h := by
        simp only [dT, h2] at hr; exact hr
      refine opH_ok (dW_two h2 hr) F hW w1 a _ Q (by rw [eval_ev, he]) (by rw [hs.1]; exact hh) ?_
      intro v w' hr' hrest
      exact fin T v w' (fun _ _ _ h => h) hr'.1 (allT_mono (allT_ext hr'.2 hAll) (Sub.set _ _)) hrest (.inr hr'.2)
    · have hopH : opH P o (ev env) (fun v h' => andT (prune ops.toList j T) h' (G (prune ops.toList j T) (putE env o.dst v) h')) h := by
        simp only [dT, h3] at hr; exact hr
      refine opH_ok hopH F hW w1 a _ Q (by rw [eval_ev, he]) (by rw [hs.1]; exact hh) ?_
      intro v w' hr' hrest
      obtain ⟨hall, hr'⟩ := andT_spec (ops := ops) (quiet := quiet) (L := L.setIfInBounds j true) hr'
      refine fin _ v w' (fun L' h' s ht => prune_all hi h3 (s j ?_) ht) hr' hall hrest (.inl h3)
      have hlt : j < L.size := by
        rcases Nat.lt_or_ge j L.size with h' | h'
        · exact h'
        · have := (mem_ready.1 hrd').1
          simp [Array.getElem?_eq_none h'] at this
      simp [hlt]
  · rw [if_neg (by simp [hw])]
    exact ⟨fun f _ => hW.fn f, fin T undef w1 (fun _ _ _ h => h) (by rw [hs.1, hh]; exact hr) (by rw [hs.1, hh]; exact allT_mono hAll (Sub.set _ _)) (Rest.refl w1) (.inr (by rw [hs.1, hh]; exact Ext.refl _))⟩
theorem anyH_of {F : Fence} {quiet : List Nat} {T : List (Nat × Addr × Value)} {L : Array Bool} {h : Heap} {n : Nat} {a : Act} {w : World} (hne : Region.ready .any ops L ≠ [])
    (hall : ∀ j ∈ Region.ready .any ops L, ∀ w1, Sim w w1 → wpOpIn F 0 P ops Q j (fun a' w' => Kept ops quiet L h T (L.setIfInBounds j true) w' ∧ anyH F P ops Q quiet L h T n (L.setIfInBounds j true) a' w') a w1) :
    anyH F P ops Q quiet L h T (n + 1) L a w := fun w1 hs => ⟨fun h => (hne h).elim, fun j hj => hall j hj w1 hs⟩
theorem regD_ok {F : Fence} (hW : Wd F) {D : List Deferred} (quiet ds : List Nat) (hds : ∀ o ∈ ops.toList, ∀ d, o.dst = some d → d ∈ ds) (hsel : Region.noSelect ops = true) (hQp : ∀ c a w, ¬ Q (.panic c) a w) :
    ∀ (od : Od) (pre : List Nat) (T : List (Nat × Addr × Value)) (L : Array Bool) (env : List Value) (N : List Value → Heap → Prop) (h : Heap), ordB ops quiet pre od L = true → Closed ops L → regD P ops.toList quiet od T env N h → allT ops quiet T L h →
    ∀ (a : Act) (w : World), a.tmps.toList = env → a.defers = D → w.heap = h →
      (∀ a' w', a'.defers = D → Keeps ds env a'.tmps.toList → N a'.tmps.toList w'.heap → Rest w w' → Q .normal a' w') →
      (pre = [] → anyH F P ops Q quiet L h T od.len L a w) ∧
      (pre ≠ [] → Region.ready .any ops L = pre ++ od.alts ∧ ∀ j ∈ od.alts, ∀ w1, Sim w w1 → wpOpIn F 0 P ops Q j (fun a' w' => Kept ops quiet L h T (L.setIfInBounds j true) w' ∧ anyH F P ops Q quiet L h T (od.len - 1) (L.setIfInBounds j true) a' w') a w1)
  | .nil, pre, T, L, env, N, h, ho, _, hD, _, a, w, he, hd, hh, hq => by
    unfold ordB at ho
    rw [Bool.and_eq_true] at ho
    refine ⟨fun _ => ⟨by simpa using ho.2, fun w1 hs => ?_⟩, fun hp => (hp (by simpa using ho.1)).elim⟩
    subst he; subst hh
    exact hq a w1 hd (Keeps.refl _ _) (by rw [hs.1]; exact hD) hs.2
  | .one i rest, pre, T, L, env, N, h, ho, hc, hD, hAll, a, w, he, hd, hh, hq => by
    unfold ordB at ho
    rw [Bool.and_eq_true] at ho
    obtain ⟨h1, ho⟩ := ho
    unfold regD at hD
    cases hi : ops[i]? with
    | none => simp [hi] at h1
    | some o =>
      simp only [hi] at h1
      have hdo : ∀ d, o.dst = some d → d ∈ ds := fun d hd => hds o (by simpa using Array.mem_of_getElem? hi) d hd
      have ihk : i ∈ Region.ready .any ops L → ∀ (T' : List (Nat × Addr × Value)) (v : Value) (w' : World), regD P ops.toList quiet rest T' (putE env o.dst v) N w'.heap → allT ops quiet T' (L.setIfInBounds i true) w'.heap → Rest w w' →
          anyH F P ops Q quiet (L.setIfInBounds i true) w'.heap T' rest.len (L.setIfInBounds i true) (a.put o.dst v) w' := by
        intro hrd T' v w' hr hall hrest
        refine (regD_ok hW (D := D) quiet ds hds hsel hQp rest [] T' _ _ N _ ho (hc.set hrd) hr hall (a.put o.dst v) w' (by rw [put_toList, he]) (by rw [put_defers]; exact hd) rfl ?_).1 rfl
        intro a' w'' hd' hk' hn hr'
        exact hq a' w'' hd' ((Keeps.put hdo).trans hk') hn (hrest.trans hr')
      have hpure : opKind o (qOf i quiet) ≠ 2 → opKind o (qOf i quiet) ≠ 3 → pre = [] ∧ anyH F P ops Q quiet L h T (rest.len + 1) L a w := by
        intro n2 n3
        have h4 : opKind o (qOf i quiet) ≤ 4 := by
          unfold opKind; (repeat' split) <;> decide
        have hk : opKind o (qOf i quiet) = 0 ∨ opKind o (qOf i quiet) = 4 ∨ opKind o (qOf i quiet) = 1 := by omega
        have key : pre = [] ∧ (Region.ready .any ops L).contains i = true ∧ Region.free .any ops L i = true ∧ (opKind o (qOf i quiet) = 0 ∨ opKind o (qOf i quiet) = 4 ∨ (opKind o (qOf i quiet) = 1 ∧ ((List.range ops.size).all fun j =>
          L.getD j true || (match ops[j]? with | some oj => opKind oj (qOf j quiet) != 3 || hangsB ops i ops.size j | none => true)) = true)) := by
          rcases hk with hk | hk | hk
          · simp only [hk, Bool.and_eq_true] at h1
            exact ⟨by simpa using h1.1, h1.2.1, h1.2.2, .inl hk⟩
          · simp only [hk, Bool.and_eq_true] at h1
            exact ⟨by simpa using h1.1, h1.2.1, h1.2.2, .inr (.inl hk)⟩
          · simp only [hk, Bool.and_eq_true] at h1
            exact ⟨by simpa using h1.1, h1.2.1.1, h1.2.1.2, .inr (.inr ⟨hk, h1.2.2⟩)⟩
        obtain ⟨hp, hrd, hfr, hkk⟩ := key
        refine ⟨hp, pure_ok hW hsel hQp hi he hh hc hAll hD hrd hfr hkk fun T' v hg ha => ?_⟩
        have := ihk (by simpa using hrd) T' v w (by rw [hh]; exact hg) (by rw [hh]; exact ha) (Rest.refl w)
        rw [hh] at this; exact this
      have heff : opKind o (qOf i quiet) = 2 ∨ opKind o (qOf i quiet) = 3 → Region.ready .any ops L = pre ++ [i] ∧ ∀ w1, Sim w w1 → wpOpIn F 0 P ops Q i (fun a' w' => Kept ops quiet L h T (L.setIfInBounds i true) w' ∧ anyH F P ops Q quiet L h T rest.len (L.setIfInBounds i true) a' w') a w1 := by
        intro hk
        have hrd : Region.ready .any ops L = pre ++ [i] := by
          rcases hk with hk | hk
          · simp only [hk] at h1; exact eq_of_beq h1
          · simp only [hk] at h1; exact eq_of_beq h1
        have hmem : i ∈ Region.ready .any ops L := by rw [hrd]; simp
        exact ⟨hrd, fun w1 hs => eff_ok hW hi he hh hAll hD hmem hk (fun T' v w' hg ha hr => ihk hmem T' v w' hg ha hr) w1 hs⟩
      by_cases hk : opKind o (qOf i quiet) = 2 ∨ opKind o (qOf i quiet) = 3
      · obtain ⟨hrd, heff'⟩ := heff hk
        refine ⟨fun hp => ?_, fun _ => ⟨hrd, fun j hj w1 hs => ?_⟩⟩
        · subst hp
          refine anyH_of (by rw [hrd]; simp) fun j hj => ?_
          rw [hrd] at hj
          obtain rfl : j = i := by simpa using hj
          exact heff'
        · obtain rfl : j = i := by simpa [Od.alts] using hj
          exact heff' w1 hs
      · obtain ⟨hp, hany⟩ := hpure (fun e => hk (.inl e)) (fun e => hk (.inr e))
        exact ⟨fun _ => hany, fun hn => (hn hp).elim⟩
  | .fork i r m, pre, T, L, env, N, h, ho, hc, hD, hAll, a, w, he, hd, hh, hq => by
    unfold ordB at ho
    simp only [Bool.and_eq_true] at ho
    obtain ⟨h1, hlen, hor, hom⟩ := ho
    have hlen := Nat.eq_of_beq_eq_true hlen
    unfold regD at hD
    obtain ⟨hD, hDm⟩ := hD
    obtain ⟨-, hm⟩ := regD_ok hW (D := D) quiet ds hds hsel hQp m (pre ++ [i]) T L env N h hom hc hDm hAll a w he hd hh hq
    obtain ⟨hrd, hm⟩ := hm (by simp)
    have hrd : Region.ready .any ops L = pre ++ i :: m.alts := by rw [hrd]; simp
    cases hi : ops[i]? with
    | none => simp [hi] at h1
    | some o =>
      simp only [hi] at h1
      have hk : opKind o (qOf i quiet) = 2 ∨ opKind o (qOf i quiet) = 3 := by
        split at h1
        · rename_i e; exact .inl e
        · rename_i e; exact .inr e
        · cases h1
      have hdo : ∀ d, o.dst = some d → d ∈ ds := fun d hd => hds o (by simpa using Array.mem_of_getElem? hi) d hd
      have hmem : i ∈ Region.ready .any ops L := by rw [hrd]; simp
      have heff : ∀ w1, Sim w w1 → wpOpIn F 0 P ops Q i (fun a' w' => Kept ops quiet L h T (L.setIfInBounds i true) w' ∧ anyH F P ops Q quiet L h T r.len (L.setIfInBounds i true) a' w') a w1 := by
        intro w1 hs
        refine eff_ok hW hi he hh hAll hD hmem hk (fun T' v w' hr hall hrest => ?_) w1 hs
        refine (regD_ok hW (D := D) quiet ds hds hsel hQp r [] T' _ _ N _ hor (hc.set hmem) hr hall (a.put o.dst v) w' (by rw [put_toList, he]) (by rw [put_defers]; exact hd) rfl ?_).1 rfl
        intro a' w'' hd' hk' hn hr'
        exact hq a' w'' hd' ((Keeps.put hdo).trans hk') hn (hrest.trans hr')
      have all : ∀ j ∈ i :: m.alts, ∀ w1, Sim w w1 → wpOpIn F 0 P ops Q j (fun a' w' => Kept ops quiet L h T (L.setIfInBounds j true) w' ∧ anyH F P ops Q quiet L h T r.len (L.setIfInBounds j true) a' w') a w1 := by
        intro j hj w1 hs
        rcases List.mem_cons.1 hj with rfl | hj
        · exact heff w1 hs
        · have := hm j hj w1 hs
          rw [show m.len - 1 = r.len by omega] at this; exact this
      refine ⟨fun hp => ?_, fun _ => ⟨hrd, all⟩⟩
      subst hp
      refine anyH_of (by rw [hrd]; simp) fun j hj w1 hs => all j (by rw [hrd] at hj; simpa using hj) w1 hs
theorem draw_ok {F : Fence} (hW : Wd F) {D : List Deferred} (hm : P.follows .mixedOrders = true) {id : Nat} {quiet : List Nat} {order : Od} {env : List Value} {N : List Value → Heap → Prop} {h : Heap} (hsel : Region.noSelect ops = true)
    (ho : ordB ops quiet [] order (Array.replicate ops.size false) = true) (hlen : order.len = ops.size) (hD : regD P ops.toList quiet order [] env N h)
    (a : Act) (w : World) (Q : Exit → Act → World → Prop) (he : a.tmps.toList = env) (hd : a.defers = D) (hh : w.heap = h)
    (hq : ∀ a' w', a'.defers = D → Keeps (dstC (.region id ops true)) env a'.tmps.toList → N a'.tmps.toList w'.heap → Rest w w' → Q .normal a' w') : (Code.region id ops true).wpIn F 0 P Q a w := by
  let Q' : Exit → Act → World → Prop := fun e a w => match e with | .normal => Q .normal a w | _ => False
  refine wpIn_mono (Q := Q') ?_ (fun e a w hq' => by cases e <;> first | exact hq' | exact hq'.elim)
  refine wpIn_region_any hm ?_
  have key : anyH F P ops Q' quiet (Array.replicate ops.size false) h [] order.len (Array.replicate ops.size false) a { w with drawn := w.drawn + 1 } := by
    refine (regD_ok (Q := Q') hW quiet (dstC (.region id ops true)) (fun o ho d hd => dst_R hd ho) hsel (fun c a w hf => hf) order [] [] _ env N h ho ?_ hD (fun x hx => by cases hx) a { w with drawn := w.drawn + 1 } he hd hh ?_).1 rfl
    · intro j o hj hl
      have : (Array.replicate ops.size false).getD j false = false := by
        rcases Nat.lt_or_ge j ops.size with h' | h' <;> simp [h']
      rw [this] at hl; cases hl
    · intro a' w' h1 h2 h3 h4
      exact hq a' w' h1 h2 h3 ⟨h4.os, h4.tape, h4.output, h4.size, h4.keep⟩
  rw [hlen] at key
  exact wpAny_of_anyH _ _ _ _ key
end
/- THE LOOP OVER A FUNCTION. -/
/-- All blocks but b are as they were, and none is new. -/
structure Only (b : Nat) (h h' : Heap) : Prop where
  size : h'.size = h.size
  same : ∀ k, k ≠ b → h'[k]? = h[k]?
/-- All blocks are as they were, but of those for the rounds' deferred calls, from block n on, some may be shut. -/
structure Taken (n : Nat) (h h' : Heap) : Prop where
  size : h'.size = h.size
  same : ∀ k : Nat, h'[k]? = h[k]? ∨ (n ≤ k ∧ h[k]? = some (Obj.deferred (some [])) ∧ h'[k]? = some (Obj.deferred none))
theorem Taken.refl (n : Nat) (h : Heap) : Taken n h h := ⟨rfl, fun _ => .inl rfl⟩
/-- How a round may be left but by its end. -/
inductive Jm where
  | ret | exit (i : Nat)
def Jm.code : Jm → Code
  | .ret => .ret
  | .exit i => .exit i
/-- A loop's record, between rounds: ready, or done. -/
structure LoopO where
  rdy : Obj
  dn : Jm → Obj
def NoC (h : Heap) (l : Nat) : Prop := ∀ c t f, h[l]? ≠ some (.cells c t f)
structure LoopOk (o : LoopO) : Prop where
  rdy : ∀ c t f, o.rdy ≠ .cells c t f
  dn : ∀ j c t f, o.dn j ≠ .cells c t f
  ne : ∀ j, o.rdy ≠ o.dn j
  inj : ∀ i j, o.dn i = o.dn j → i = j
/-- A round begins: the record was ready. -/
def roundIn (l : Nat) (o : LoopO) (F : Heap → Prop) (h : Heap) : Prop := h[l]? = some o.rdy ∧ ∀ h', Only l h h' → NoC h' l → F h'
/-- A round ends: the record is x. -/
def roundEnd (l : Nat) (x : Obj) (F : Heap → Prop) (h : Heap) : Prop := ∀ h', Only l h h' → h'[l]? = some x → F h'
/-- The loop is over, its record x. -/
def roundDone (l : Nat) (x : Obj) (F : Heap → Prop) (h : Heap) : Prop := h[l]? = some x ∧ ∀ h', Only l h h' → F h'
def exW (l : Nat) (o : LoopO) (J : Nat → Heap → Prop) (h : Heap) : List Nat → Prop
  | [] => False
  | i :: is => roundDone l (o.dn (.exit i)) (J i) h ∨ exW l o J h is
/-- The function that was gone through has returned. -/
def endW (l : Nat) (o : LoopO) (xs : List Nat) (N : Heap → Prop) (J : Nat → Heap → Prop) (R : Heap → Prop) (h : Heap) : Prop :=
  roundDone l o.rdy N h ∨ roundDone l (o.dn .ret) R h ∨ exW l o J h xs
def rangeW (P : Program) (gf : FuncId) (first lb : List Value) (tys : List Ty) (B : Nat → LoopO → TT tys → (Bool → Heap → Prop) → Heap → Prop)
    (E : Nat → LoopO → Heap → Prop) (h : Heap) : Prop :=
  ∀ (l : Nat) (o : LoopO), LoopOk o → l = h.size + 1 →
    (∀ (s : TT tys) (h1 : Heap) (Y : Bool → Heap → Prop), h1[l]? = some o.rdy → B l o s Y h1 → YieldH P l (vals tys s) h1 Y) →
    CallsH P gf (first ++ [.func (.yield l) #[] #[]] ++ lb) ((h.push (.deferred (some []))).push o.rdy) fun _ h3 => E l o h3
/-- A function's value. -/
def rfW (v : Value) (F : FuncId → List Value → List Value → Prop) : Prop := match v with | .func (.func f) first cap => F f first.toList cap.toList | _ => False
def parE : List Nat → List Value → List Value → List Value
  | p :: ps, v :: vs, e => parE ps vs (e.set p v)
  | _, _, e => e
/-- Is there a loop over a function in it? -/
def hasRF : Code → Bool
  | .seq a b => hasRF a || hasRF b
  | .cond _ a b => hasRF a || hasRF b
  | .block _ a => hasRF a
  | .scope a => hasRF a
  | .loop a => hasRF a
  | .rangeFunc .. => true
  | _ => false
def tkW (rf : Bool) (n : Nat) (F : Heap → Prop) (h : Heap) : Prop := match rf with | false => F h | true => ∀ h', Taken n h h' → F h'
/-- How a piece of code is gone through: which temporaries are told at a loop's head, and at a cut. -/
inductive Ann where
  | leaf
  | seq (a b : Ann)
  | cut (live : List (Nat × Ty)) (a b : Ann)
  | cond (a b : Ann)
  | block (a : Ann)
  | bcut (live : List (Nat × Ty)) (a : Ann)
  | loop (live : List (Nat × Ty)) (a : Ann)
  | draw (order : Od) (quiet : List Nat)
  | range (tys : List Ty) (xs : List Nat) (a b : Ann)
def cw (P : Program) (rf : Bool) : Code → Ann → List Value → (List Value → Heap → Prop) → (Nat → List Value → Heap → Prop) → (List Value → Heap → Prop) → Heap → Prop
  | .skip, _, e, N, _, _, h => N e h
  | .label _, _, e, N, _, _, h => N e h
  | .exit id, _, e, _, X, _, h => X id e h
  | .ret, _, e, _, _, R, h => R e h
  | .region _ ops d, n, e, N, _, _, h => match d with
    | false => regW P ops.toList ops.toList e N h
    | true => match n with
      | .draw order quiet => ckB (Region.noSelect ops && ordB ops quiet [] order (Array.replicate ops.size false) && Nat.beq order.len ops.size) (regD P ops.toList quiet order [] e N h)
      | _ => False
  | .seq a b, .seq x y, e, N, X, R, h => cw P rf a x e (fun e' h' => cw P rf b y e' N X R h') X R h
  | .seq a b, .cut live x y, e, N, X, R, h =>
    cutT (live.map (·.2)) (fun K h' => cw P rf a x e (fun e' h'' => getL live e' fun s => K s h'') X R h') (fun s j h' => cw P rf b y (embL e (dstC a) live s j) N X R h') h
  | .cond c a b, .cond x y, e, N, X, R, h => bW (ev e c) fun t => br t (cw P rf a x e N X R h) (cw P rf b y e N X R h)
  | .block id a, .block x, e, N, X, R, h => cw P rf a x e N (fun i e' h' => match Nat.beq i id with | true => N e' h' | false => X i e' h') R h
  | .block id a, .bcut live x, e, N, X, R, h =>
    cutT (live.map (·.2)) (fun K h' => cw P rf a x e (fun e' h'' => getL live e' fun s => K s h'') (fun i e' h'' => match Nat.beq i id with | true => getL live e' fun s => K s h'' | false => X i e' h'') R h')
      (fun s j h' => N (embL e (dstC a) live s j) h') h
  | .scope a, .block x, e, N, X, R, h => cw P rf a x e N X R h
  | .loop a, .loop live x, e, _, X, R, h =>
    getL live e fun s0 => loopT (live.map (·.2)) (fun s j K h' => cw P rf a x (embL e (dstC a) live s j) (fun e' h'' => getL live e' fun s' => K s' h'') X R h') s0 h
  | .rangeFunc g ps a b, .range tys xs x y, e, N, X, R, h =>
    ckB (rf && Nat.beq tys.length ps.size) <| rfW (ev e g) fun gf first lb => rangeW P gf first lb tys
      (fun l o s Y h1 => cw P false a x (parE ps.toList (vals tys s) e)
        (fun e1 h2 => roundIn l o (fun h3 => cw P false b y e1 (fun _ h4 => roundEnd l o.rdy (Y true) h4) (fun i _ h4 => ckB (memB i xs) (roundEnd l (o.dn (.exit i)) (Y false) h4)) (fun _ h4 => roundEnd l (o.dn .ret) (Y false) h4) h3) h2)
        (fun _ _ _ => False) (fun _ _ => False) h1)
      (fun l o h3 => endW l o xs (fun h' => N e h') (fun i h' => X i e h') (fun h' => R e h') h3) h
  | _, _, _, _, _, _, _ => False
def mkD (D : Nat) : Deferred := { target := .collected D, args := #[] }
/-- The deferred calls of an activation: the marks of its loops over functions. -/
structure DOk (b : Bool) (n0 : Nat) (ds : List Deferred) (h : Heap) : Prop where
  none : b = false → ds = []
  marks : ∃ Ds : List Nat, ds = Ds.map mkD ∧ Ds.Nodup ∧ ∀ D ∈ Ds, n0 ≤ D ∧ h[D]? = some (.deferred (some []))
theorem DOk.nil (b : Bool) (n0 : Nat) (h : Heap) : DOk b n0 [] h := ⟨fun _ => rfl, [], rfl, List.nodup_nil, fun _ h => by cases h⟩
theorem DOk.rest {b : Bool} {n0 : Nat} {ds : List Deferred} {w w' : World} (h : DOk b n0 ds w.heap) (r : Rest w w') : DOk b n0 ds w'.heap := by
  obtain ⟨h1, Ds, h2, h3, h4⟩ := h
  exact ⟨h1, Ds, h2, h3, fun D hD => ⟨(h4 D hD).1, r.keep D _ (h4 D hD).2 rfl⟩⟩
theorem DOk.push {n0 : Nat} {ds : List Deferred} {w w' : World} (h : DOk true n0 ds w.heap) (hn : n0 ≤ w.heap.size) (r : Rest w w') (hD : w'.heap[w.heap.size]? = some (.deferred (some []))) : DOk true n0 (mkD w.heap.size :: ds) w'.heap := by
  obtain ⟨_, Ds, h2, h3, h4⟩ := h
  refine ⟨(fun h => (by cases h)), w.heap.size :: Ds, by rw [h2]; rfl, List.nodup_cons.2 ⟨fun hm => ?_, h3⟩, fun D hm => ?_⟩
  · have := (Array.getElem?_eq_some_iff.1 (h4 _ hm).2).1
    omega
  · rcases List.mem_cons.1 hm with rfl | hm
    · exact ⟨hn, hD⟩
    · exact ⟨(h4 D hm).1, r.keep D _ (h4 D hm).2 rfl⟩
theorem rfW_spec {v : Value} {F : FuncId → List Value → List Value → Prop} (h : rfW v F) : ∃ f first cap, v = .func (.func f) first cap ∧ F f first.toList cap.toList := by
  unfold rfW at h; split at h
  · exact ⟨_, _, _, rfl, h⟩
  · exact h.elim
theorem parE_eq : ∀ (ps : List Nat) (vs : List Value) (t : Array Value), ((ps.zip vs).foldl (fun (t : Array Value) (x : Nat × Value) => t.setIfInBounds x.1 x.2) t).toList = parE ps vs t.toList
  | [], _, _ => by simp [parE]
  | _ :: _, [], _ => by simp [parE]
  | p :: ps, v :: vs, t => by
    simp only [List.zip_cons_cons, List.foldl_cons, parE]
    rw [parE_eq ps vs]; simp
theorem putObj_only (w : World) (l : Nat) (o : Obj) : Only l w.heap (w.putObj l o).heap := ⟨by simp, fun k hk => World.putObj_heap_other hk⟩
theorem Rest.putObj {w : World} {l : Nat} {o o' : Obj} (h : w.heap[l]? = some o) (hp : pinned o = false) : Rest w (w.putObj l o') := by
  refine ⟨rfl, rfl, rfl, by simp, fun i x hi hx => ?_⟩
  by_cases e : i = l
  · subst e; rw [h] at hi; obtain rfl := Option.some.inj hi; rw [hp] at hx; cases hx
  · rw [World.putObj_heap_other e]; exact hi
theorem memB_spec {i : Nat} : ∀ {xs : List Nat}, memB i xs = true → i ∈ xs
  | [], h => by cases h
  | j :: l, h => by
    unfold memB at h; split at h
    · rename_i hb; rw [Nat.eq_of_beq_eq_true hb]; exact List.mem_cons_self ..
    · exact List.mem_cons_of_mem _ (memB_spec h)
theorem exW_spec {l : Nat} {o : LoopO} {J : Nat → Heap → Prop} {h : Heap} : ∀ {xs : List Nat}, exW l o J h xs → ∃ i, h[l]? = some (o.dn (.exit i)) ∧ ∀ h', Only l h h' → J i h'
  | [], h => h.elim
  | i :: is, h => by
    rcases h with h | h
    · exact ⟨i, h⟩
    · exact exW_spec h
theorem vals_length : ∀ {ts : List Ty} (s : TT ts), (vals ts s).length = ts.length
  | [], _ => rfl
  | [_], _ => rfl
  | _ :: d :: ds, s => by simp only [vals, List.length_cons]; rw [vals_length (ts := d :: ds) s.2]; rfl
/-- A scope whose code jumps nowhere. -/
theorem stepR_scope {P : Program} {b : Frame} {a : Act} {k : List Item} {cs : List Frame} {w : World} {c : Code} : step P (lone (b.atR a (.code (.scope c) :: k)) cs w) = .next (lone (b.atR a (.code c :: .inScope c :: k)) cs w) :=
  step_lone_go (by simp [stepG, stepG.exec, Frame.atR])
theorem stepR_inScope {P : Program} {b : Frame} {a : Act} {k : List Item} {cs : List Frame} {w : World} {c : Code} : step P (lone (b.atR a (.inScope c :: k)) cs w) = .next (lone (b.atR a k) cs w) :=
  step_lone_go (by simp [stepG, stepG.exec, Frame.atR])
theorem wpIn_scope_straight {P : Program} {F : Fence} {Q : Exit → Act → World → Prop} {c : Code} {a : Act} {w : World} (h : c.wpIn F 0 P (Exit.noGoto Q) a w) : (Code.scope c).wpIn F 0 P Q a w := by
  intro b k cs hro hb hr
  obtain ⟨e, a₁, w₁, hq, harr⟩ := h b (.inScope c :: k) cs hro hb hr
  have i1 : (lone (b.atR a (.code (.scope c) :: k)) cs w).fenced P F := fenced_calm hb hr rfl
  have one : ∀ {m}, StepsIn (Machine.fenced P F) P (lone (b.atR a (.code c :: .inScope c :: k)) cs w) m → StepsIn (Machine.fenced P F) P (lone (b.atR a (.code (.scope c) :: k)) cs w) m := fun hs => .head i1 stepR_scope hs
  cases e with
  | normal => exact ⟨.normal, a₁, w₁, hq, one (StepsIn.trans harr (.one (fenced_calm (fr := b.atR a₁ (.inScope c :: k)) hb hr rfl) stepR_inScope))⟩
  | exit id =>
    refine ⟨.exit id, a₁, w₁, hq, ?_, ?_⟩
    · intro k' hk
      exact one (harr.1 k' (by simp [exitTo, hk]))
    · intro h1 h2
      obtain ⟨k1, hk1, hs⟩ := harr.2 h1 (by simp [exitTo, h2])
      exact ⟨k1, hk1, one hs⟩
  | goto l => exact hq.elim
  | ret => exact ⟨_, a₁, w₁, hq, .of_steps (.one i1 stepR_scope) harr⟩
  | panic ch => exact ⟨_, a₁, w₁, hq, .of_steps (.one i1 stepR_scope) harr⟩
  | outgrown => exact ⟨_, a₁, w₁, hq, .of_steps (.one i1 stepR_scope) harr⟩
section
variable {P : Program}
theorem cw_ok (hm : P.follows .mixedOrders = true) : ∀ (c : Code) (F : Fence) (rf : Bool) (n0 : Nat) (n : Ann) (env : List Value) (N : List Value → Heap → Prop) (X : Nat → List Value → Heap → Prop) (R : List Value → Heap → Prop) (h : Heap),
    Wd F → (rf = true → F = Fence.wide) →
    cw P rf c n env N X R h → ∀ (a : Act) (w : World) (Q : Exit → Act → World → Prop), a.tmps.toList = env → DOk rf n0 a.defers w.heap → n0 ≤ w.heap.size → w.heap = h →
      (∀ a' w', DOk rf n0 a'.defers w'.heap → Keeps (dstC c) env a'.tmps.toList → N a'.tmps.toList w'.heap → Rest w w' → Q .normal a' w') →
      (∀ i a' w', DOk rf n0 a'.defers w'.heap → Keeps (dstC c) env a'.tmps.toList → X i a'.tmps.toList w'.heap → Rest w w' → Q (.exit i) a' w') →
      (∀ a' w', DOk rf n0 a'.defers w'.heap → R a'.tmps.toList w'.heap → Rest w w' → Q .ret a' w') → c.wpIn F 0 P Q a w := by
  intro c
  induction c with
  | skip =>
    intro F rf n0 n env N X R h hW hrf hc a w Q he hd hn0 hh hN hX hR
    subst he; subst hh
    cases n <;> exact wpIn_skip (hN a w hd (Keeps.refl _ _) hc (Rest.refl w))
  | label l =>
    intro F rf n0 n env N X R h hW hrf hc a w Q he hd hn0 hh hN hX hR
    subst he; subst hh
    cases n <;> exact wpIn_label (hN a w hd (Keeps.refl _ _) hc (Rest.refl w))
  | exit id =>
    intro F rf n0 n env N X R h hW hrf hc a w Q he hd hn0 hh hN hX hR
    subst he; subst hh
    cases n <;> exact wpIn_exit (hX id a w hd (Keeps.refl _ _) hc (Rest.refl w))
  | ret =>
    intro F rf n0 n env N X R h hW hrf hc a w Q he hd hn0 hh hN hX hR
    subst he; subst hh
    cases n <;> exact wpIn_ret (hR a w hd hc (Rest.refl w))
  | region id ops d =>
    intro F rf n0 n env N X R h hW hrf hc a w Q he hd hn0 hh hN hX hR
    cases d with
    | false => cases n <;> exact region_ok hW (D := a.defers) (id := id) hc a w Q he rfl hh fun a' w' h1 h2 h3 h4 => hN a' w' (by rw [h1]; exact hd.rest h4) h2 h3 h4
    | true =>
      cases n <;> try exact hc.elim
      case draw order quiet =>
        obtain ⟨hk, hD⟩ := ckB_spec hc
        simp only [Bool.and_eq_true] at hk
        exact draw_ok hW (D := a.defers) hm hk.1.1 hk.1.2 (Nat.eq_of_beq_eq_true hk.2) hD a w Q he rfl hh fun a' w' h1 h2 h3 h4 => hN a' w' (by rw [h1]; exact hd.rest h4) h2 h3 h4
  | seq x y ihx ihy =>
    intro F rf n0 n env N X R h hW hrf hc a w Q he hd hn0 hh hN hX hR
    cases n <;> try exact hc.elim
    case seq n1 n2 =>
      refine wpIn_seq (ihx F rf n0 n1 env _ X R h hW hrf hc a w _ he hd hn0 hh ?_ ?_ ?_)
      · intro a1 w1 hd1 hk1 h1 r1
        refine ihy F rf n0 n2 _ N X R _ hW hrf h1 a1 w1 Q rfl hd1 (Nat.le_trans hn0 r1.size) rfl ?_ ?_ ?_
        · intro a2 w2 hd2 hk2 h2 r2
          exact hN a2 w2 hd2 ((hk1.mono fun z hz => List.mem_append_left _ hz).trans (hk2.mono fun z hz => List.mem_append_right _ hz)) h2 (r1.trans r2)
        · intro i a2 w2 hd2 hk2 h2 r2
          exact hX i a2 w2 hd2 ((hk1.mono fun z hz => List.mem_append_left _ hz).trans (hk2.mono fun z hz => List.mem_append_right _ hz)) h2 (r1.trans r2)
        · intro a2 w2 hd2 h2 r2
          exact hR a2 w2 hd2 h2 (r1.trans r2)
      · intro i a1 w1 hd1 hk1 h1 r1
        exact hX i a1 w1 hd1 (hk1.mono fun z hz => List.mem_append_left _ hz) h1 r1
      · exact hR
    case cut live n1 n2 =>
      refine wpIn_seq (ihx F rf n0 n1 env _ X R h hW hrf hc a w _ he hd hn0 hh ?_ ?_ ?_)
      · intro a1 w1 hd1 hk1 h1 r1
        obtain ⟨s, hs, h1⟩ := getL_spec h1
        have h2 := h1 (getE a1.tmps.toList)
        simp only [embL_of hk1 hs] at h2
        refine ihy F rf n0 n2 _ N X R _ hW hrf h2 a1 w1 Q rfl hd1 (Nat.le_trans hn0 r1.size) rfl ?_ ?_ ?_
        · intro a2 w2 hd2 hk2 h2 r2
          exact hN a2 w2 hd2 ((hk1.mono fun z hz => List.mem_append_left _ hz).trans (hk2.mono fun z hz => List.mem_append_right _ hz)) h2 (r1.trans r2)
        · intro i a2 w2 hd2 hk2 h2 r2
          exact hX i a2 w2 hd2 ((hk1.mono fun z hz => List.mem_append_left _ hz).trans (hk2.mono fun z hz => List.mem_append_right _ hz)) h2 (r1.trans r2)
        · intro a2 w2 hd2 h2 r2
          exact hR a2 w2 hd2 h2 (r1.trans r2)
      · intro i a1 w1 hd1 hk1 h1 r1
        exact hX i a1 w1 hd1 (hk1.mono fun z hz => List.mem_append_left _ hz) h1 r1
      · exact hR
  | cond t x y ihx ihy =>
    intro F rf n0 n env N X R h hW hrf hc a w Q he hd hn0 hh hN hX hR
    cases n <;> try exact hc.elim
    case cond n1 n2 =>
      obtain ⟨b, hb, hk⟩ := bW_spec hc
      refine wpIn_cond (t := b) (by rw [eval_ev, he]; exact hb) ?_
      cases b with
      | true => exact ihx F rf n0 n1 env N X R h hW hrf hk a w Q he hd hn0 hh (fun a' w' h1 h2 => hN a' w' h1 (h2.mono fun z hz => List.mem_append_left _ hz)) (fun i a' w' h1 h2 => hX i a' w' h1 (h2.mono fun z hz => List.mem_append_left _ hz)) hR
      | false => exact ihy F rf n0 n2 env N X R h hW hrf hk a w Q he hd hn0 hh (fun a' w' h1 h2 => hN a' w' h1 (h2.mono fun z hz => List.mem_append_right _ hz)) (fun i a' w' h1 h2 => hX i a' w' h1 (h2.mono fun z hz => List.mem_append_right _ hz)) hR
  | block id x ih =>
    intro F rf n0 n env N X R h hW hrf hc a w Q he hd hn0 hh hN hX hR
    cases n <;> try exact hc.elim
    case block n1 =>
      refine wpIn_block (ih F rf n0 n1 env N _ R h hW hrf hc a w _ he hd hn0 hh hN ?_ hR)
      intro i a' w' h1 h2 h3 h4
      simp only [Exit.inBlock]
      by_cases hi : i = id
      · subst hi
        rw [if_pos rfl]
        simp only [Nat.beq_refl] at h3
        exact hN a' w' h1 h2 h3 h4
      · rw [if_neg hi]
        have : Nat.beq i id = false := by rw [← Bool.not_eq_true]; exact fun hh => hi (Nat.eq_of_beq_eq_true hh)
        simp only [this] at h3
        exact hX i a' w' h1 h2 h3 h4
    case bcut live n1 =>
      have fin : ∀ a' w', DOk rf n0 a'.defers w'.heap → Keeps (dstC (.block id x)) env a'.tmps.toList → getL live a'.tmps.toList (fun s => ∀ j, N (embL env (dstC x) live s j) w'.heap) → Rest w w' → Q .normal a' w' := by
        intro a' w' h1 h2 h3 h4
        obtain ⟨s, hs, h3⟩ := getL_spec h3
        have h5 := h3 (getE a'.tmps.toList)
        simp only [embL_of (show Keeps (dstC x) env a'.tmps.toList from h2) hs] at h5
        exact hN a' w' h1 h2 h5 h4
      refine wpIn_block (ih F rf n0 n1 env _ _ R h hW hrf hc a w _ he hd hn0 hh (fun a' w' h1 h2 h3 h4 => fin a' w' h1 h2 h3 h4) ?_ hR)
      intro i a' w' h1 h2 h3 h4
      simp only [Exit.inBlock]
      by_cases hi : i = id
      · subst hi
        rw [if_pos rfl]
        simp only [Nat.beq_refl] at h3
        exact fin a' w' h1 h2 h3 h4
      · rw [if_neg hi]
        have : Nat.beq i id = false := by rw [← Bool.not_eq_true]; exact fun hh => hi (Nat.eq_of_beq_eq_true hh)
        simp only [this] at h3
        exact hX i a' w' h1 h2 h3 h4
  | loop x ih =>
    intro F rf n0 n env N X R h hW hrf hc a w Q he hd hn0 hh hN hX hR
    cases n <;> try exact hc.elim
    case loop live n1 =>
      obtain ⟨s0, hs0, I, μ, h0, hround⟩ := getL_spec hc
      refine wp_loop_rel (fun m a' w' => (DOk rf n0 a'.defers w'.heap ∧ Keeps (dstC x) env a'.tmps.toList ∧ Rest w w') ∧ ∃ s, setL live s a'.tmps.toList = a'.tmps.toList ∧ I s w'.heap ∧ m = μ s w'.heap)
        (n := μ s0 w.heap) ⟨⟨hd, by rw [he]; exact Keeps.refl _ _, Rest.refl w⟩, s0, by rw [he]; exact hs0, by rw [hh]; exact h0, rfl⟩ ?_
      rintro m a1 w1 ⟨⟨hd1, hk1, r1⟩, s, hs, hI, rfl⟩
      have hb := hround s (getE a1.tmps.toList) w1.heap hI
      simp only [embL_of hk1 hs] at hb
      refine ih F rf n0 n1 _ _ X R _ hW hrf hb a1 w1 _ rfl hd1 (Nat.le_trans hn0 r1.size) rfl ?_ ?_ ?_
      · intro a2 w2 hd2 hk2 h2 r2
        obtain ⟨s', hs', hI', hm'⟩ := getL_spec h2
        exact ⟨_, hm', ⟨hd2, hk1.trans hk2, r1.trans r2⟩, s', hs', hI', rfl⟩
      · intro i a2 w2 hd2 hk2 h2 r2
        exact hX i a2 w2 hd2 (hk1.trans hk2) h2 (r1.trans r2)
      · intro a2 w2 hd2 h2 r2
        exact hR a2 w2 hd2 h2 (r1.trans r2)
  | rangeFunc g ps x y ihx ihy =>
    intro F rf n0 n env N X R h hW hrf hc a w Q he hd hn0 hh hN hX hR
    cases n <;> try exact hc.elim
    case range tys xs n1 n2 =>
      simp only [cw] at hc
      obtain ⟨hk, hc1⟩ := ckB_spec hc
      clear hc
      rw [Bool.and_eq_true] at hk
      obtain ⟨hrt, hlen⟩ := hk
      have hlen := Nat.eq_of_beq_eq_true hlen
      subst hrt
      obtain rfl := hrf rfl
      obtain ⟨gf, first, lb, hg, hc⟩ := rfW_spec hc1
      refine wpIn_rangeFunc fun fn _ => ?_
      let rec0 : Loop := { state := .ready, pending := none, fn, tmps := a.tmps, params := ps, assign := x, body := y, defers := w.heap.size }
      let o : LoopO := ⟨.loop rec0, fun j => .loop { rec0 with state := .done, pending := some j.code }⟩
      let w1 := (w.alloc (.deferred (some []))).alloc (.loop rec0)
      have hsz : w1.heap.size = w.heap.size + 2 := by simp [w1, World.size_alloc]
      have hrl : w1.heap[w.heap.size + 1]? = some o.rdy := by
        show ((w.heap.push _).push _)[w.heap.size + 1]? = _
        rw [Array.getElem?_push, if_pos (by simp)]
      have hDl : w1.heap[w.heap.size]? = some (.deferred (some [])) := by
        show ((w.heap.push _).push _)[w.heap.size]? = _
        rw [Array.getElem?_push, if_neg (by simp)]; simp
      have ho : LoopOk o := by
        refine ⟨fun c t f e => (by cases e), fun j c t f e => (by cases e), fun j e => ?_, fun i j e => ?_⟩
        · injection e with e; injection e with e; cases e
        · injection e with e
          injection e with _ e
          injection e with e
          cases i <;> cases j <;> simp [Jm.code] at e ⊢
          exact e
      have hy : ∀ (s : TT tys) (h1 : Heap) (Y : Bool → Heap → Prop), h1[w.heap.size + 1]? = some o.rdy →
          cw P false x n1 (parE ps.toList (vals tys s) env) (fun e1 h2 => roundIn (w.heap.size + 1) o (fun h3 => cw P false y n2 e1 (fun _ h4 => roundEnd (w.heap.size + 1) o.rdy (Y true) h4)
            (fun i _ h4 => ckB (memB i xs) (roundEnd (w.heap.size + 1) (o.dn (.exit i)) (Y false) h4)) (fun _ h4 => roundEnd (w.heap.size + 1) (o.dn .ret) (Y false) h4) h3) h2)
            (fun _ _ _ => False) (fun _ _ => False) h1 → YieldH P (w.heap.size + 1) (vals tys s) h1 Y := by
        intro s h1 Y hr hB w' hw'
        subst hw'
        have hsz : (vals tys s).toArray.size = ps.size := by rw [List.size_toArray, vals_length, hlen]
        refine ⟨_, _, _, _, run_yield (r := rec0) hr hsz, ?_⟩
        refine roundIn_of_wpIn trivial ?_
        refine ihx (Fence.wide.inRound (w.heap.size + 1)) false 0 n1 _ _ _ _ _ (.inr ⟨_, rfl⟩) (fun h => by cases h) hB _ w' _ ?_ (DOk.nil _ _ _) (Nat.zero_le _) rfl ?_ ?_ ?_
        · rw [← he]
          have := parE_eq ps.toList (vals tys s) a.tmps
          rw [← this]
          simp only [rec0]
          rw [← Array.foldl_toList, Array.toList_zip]
        · rintro a1 w2 hd1 _ ⟨hr2, hF⟩ r2
          refine ⟨_, run_beginRound (r := rec0) hr2 rfl, ?_⟩
          let w3 := w2.putObj (w.heap.size + 1) (.loop { rec0 with state := .busy })
          have hl2 := (Array.getElem?_eq_some_iff.1 hr2).1
          have hb3 : w3.heap[w.heap.size + 1]? = some (.loop { rec0 with state := .busy }) := World.putObj_heap_same hl2
          have hF := hF w3.heap (putObj_only _ _ _) (fun c t f e => by rw [hb3] at e; cases e)
          have d1 : a1.defers = [] := hd1.none rfl
          have key : ∀ (j : Option Jm) (w4 : World) (x : Obj) (b : Bool), Rest w3 w4 → x = (match j with | none => o.rdy | some j => o.dn j) → b = j.isNone → roundEnd (w.heap.size + 1) x (Y b) w4.heap →
              ∃ v w5, (Instr.endRound (w.heap.size + 1) (j.map Jm.code)).run P w4 = .ok v w5 ∧ ∃ b, Ending.returned v = .returned (.bool b) ∧ Y b w5.heap ∧ Rest w' w5 := by
            intro j w4 x b r4 hx hbj he4
            have h4 : w4.heap[w.heap.size + 1]? = some (.loop { rec0 with state := .busy }) := r4.keep _ _ hb3 rfl
            have hl4 := (Array.getElem?_eq_some_iff.1 h4).1
            refine ⟨_, _, run_endRound (j.map Jm.code) h4, b, ?_, ?_, ?_⟩
            · subst hbj; cases j <;> rfl
            · refine he4 _ (putObj_only _ _ _) ?_
              rw [World.putObj_heap_same hl4, hx]
              cases j <;> rfl
            · refine ⟨?_, ?_, ?_, ?_, ?_⟩
              · exact r4.os.trans r2.os
              · exact r4.tape.trans r2.tape
              · exact r4.output.trans r2.output
              · have := r2.size; have h' := r4.size
                have h3 : w3.heap.size = w2.heap.size := by simp [w3]
                simp only [World.putObj_size]; omega
              · intro i ob hi hp
                have hne : i ≠ w.heap.size + 1 := by
                  rintro rfl
                  rw [hr] at hi; obtain rfl := Option.some.inj hi; cases hp
                rw [World.putObj_heap_other hne]
                refine r4.keep i ob ?_ hp
                show (w2.putObj _ _).heap[i]? = _
                rw [World.putObj_heap_other hne]
                exact r2.keep i ob hi hp
          refine ihy (Fence.wide.inRound (w.heap.size + 1)) false 0 n2 _ _ _ _ _ (.inr ⟨_, rfl⟩) (fun h => by cases h) hF a1 w3 _ rfl (by rw [d1]; exact DOk.nil _ _ _) (Nat.zero_le _) rfl ?_ ?_ ?_
          · intro a4 w4 _ _ h4 r4
            exact key none w4 _ true r4 rfl rfl h4
          · intro i a4 w4 _ _ h4 r4
            exact key (some (.exit i)) w4 _ false r4 rfl rfl (ckB_spec h4).2
          · intro a4 w4 _ h4 r4
            exact key (some .ret) w4 _ false r4 rfl rfl h4
        · intro i a' w' _ _ hf _; exact hf.elim
        · intro a' w' _ hf _; exact hf.elim
      subst hh
      obtain ⟨hok, hcall⟩ := hc (w.heap.size + 1) o ho rfl hy
      have hcall := hcall w1 rfl
      have eargs : (first.toList ++ [Value.func (.yield (w.heap.size + 1)) #[] #[]] ++ lb.toList).toArray = first ++ #[.func (.yield (w.heap.size + 1)) #[] #[]] ++ lb := by simp
      rw [eargs] at hcall
      have hga : a.eval g = .func (.func gf) first lb := by rw [eval_ev, he]; exact hg
      refine ⟨w.heap.size + 1, [mkD w.heap.size], w1, ⟨.fn (.func gf) lb, first ++ #[.func (.yield (w.heap.size + 1)) #[] #[]]⟩, w1, gf, _, w1, run_enterLoop_outer fn a.tmps ps x y, ?_, fun _ _ => trivial, ?_, hW.one, (hW.calls hcall).mono ?_⟩
      · have hcst : ∀ v, a.eval (.const v) = v := fun _ => rfl
        simp [resolve, hga, hcst, Deferred.ofValue]
      · simp [invoke, run_callFunc' hok]
      · rintro e w3 ⟨v, rfl, hend, hrest⟩
        have r1 : Rest w w1 := (Rest.alloc w _).trans (Rest.alloc _ _)
        have d3 : ∀ w4, Rest w3 w4 → DOk true n0 (mkD w.heap.size :: a.defers) w4.heap := fun w4 r4 =>
          hd.push hn0 ((r1.trans hrest).trans r4) (r4.keep _ _ (hrest.keep _ _ hDl rfl) rfl)
        have kp : Keeps (dstC (.rangeFunc g ps x y)) env a.tmps.toList := by rw [he]; exact Keeps.refl _ _
        rcases hend with ⟨h3, hk⟩ | ⟨h3, hk⟩ | hx
        · refine ⟨none, _, run_endLoop (r := rec0) h3 (by simp [rec0]), ?_⟩
          have r4 : Rest w3 (w3.putObj (w.heap.size + 1) (.loop { rec0 with state := .exhausted })) := Rest.putObj h3 rfl
          exact hN _ _ (d3 _ r4) kp (by show N a.tmps.toList _; rw [he]; exact hk _ (putObj_only _ _ _)) ((r1.trans hrest).trans r4)
        · refine ⟨some .ret, _, run_endLoop (r := { rec0 with state := .done, pending := some .ret }) h3 (by simp), ?_⟩
          have r4 : Rest w3 (w3.putObj (w.heap.size + 1) (.loop { rec0 with state := .exhausted, pending := some .ret })) := Rest.putObj h3 rfl
          exact wpIn_ret (hR _ _ (d3 _ r4) (by show R a.tmps.toList _; rw [he]; exact hk _ (putObj_only _ _ _)) ((r1.trans hrest).trans r4))
        · obtain ⟨i, h3, hk⟩ := exW_spec hx
          refine ⟨some (.exit i), _, run_endLoop (r := { rec0 with state := .done, pending := some (.exit i) }) h3 (by simp), ?_⟩
          have r4 : Rest w3 (w3.putObj (w.heap.size + 1) (.loop { rec0 with state := .exhausted, pending := some (.exit i) })) := Rest.putObj h3 rfl
          exact wpIn_exit (hX i _ _ (d3 _ r4) kp (by show X i a.tmps.toList _; rw [he]; exact hk _ (putObj_only _ _ _)) ((r1.trans hrest).trans r4))
  | scope x ih =>
    intro F rf n0 n env N X R h hW hrf hc a w Q he hd hn0 hh hN hX hR
    cases n <;> try exact hc.elim
    case block n1 =>
      exact wpIn_scope_straight (ih F rf n0 n1 env N X R h hW hrf hc a w (Exit.noGoto Q) he hd hn0 hh hN hX hR)
  | goto l => intro F rf n0 n env N X R h hW hrf hc; cases n <;> exact hc.elim
  | refuse s => intro F rf n0 n env N X R h hW hrf hc; cases n <;> exact hc.elim
/-- The results of a function. -/
def resL (P : Program) : List ResultVar → List Value → (List Value → Prop) → Heap → Prop
  | [], _, F, _ => F []
  | .tmp t :: rest, e, F, h => resL P rest e (fun l => F (getE e t :: l)) h
  | .cell a t :: rest, e, F, h => pW (getE e a) fun p => ldT P t p (fun v => resL P rest e (fun l => F (v :: l)) h) h
def oneV : List Value → Value
  | [v] => v
  | l => .tuple l.toArray
def fnW (P : Program) (fn : Func) (c : Code) (n : Ann) (args : List Value) (K : Value → Heap → Prop) (h : Heap) : Prop :=
  cw P (hasRF c) c n (args ++ List.replicate (fn.ntmps - args.length) undef) (fun e h' => tkW (hasRF c) h.size (fun h'' => resL P fn.results.toList e (fun l => K (oneV l) h'') h'') h') (fun _ _ _ => False)
    (fun e h' => tkW (hasRF c) h.size (fun h'' => resL P fn.results.toList e (fun l => K (oneV l) h'') h'') h') h
theorem resL_ok {g : ResultVar → Sem Value} {w : World} {tmps : Array Value} (g1 : ∀ t, g (.tmp t) = pure (tmps.getD t undef)) (g2 : ∀ a t, g (.cell a t) = (asAddr (tmps.getD a undef) >>= fun p => loadVar t p)) :
    ∀ {l : List ResultVar} {e : List Value} {F : List Value → Prop} {h : Heap}, resL P l e F h → tmps.toList = e → w.heap = h → ∃ vs, (l.mapM g).run P w = .ok vs w ∧ F vs
  | [], e, F, h, hr, he, hh => ⟨[], by simp, hr⟩
  | .tmp t :: rest, e, F, h, hr, he, hh => by
    obtain ⟨vs, h1, h2⟩ := resL_ok g1 g2 (l := rest) hr he hh
    refine ⟨_, ?_, h2⟩
    have : tmps.getD t undef = getE e t := by
      subst he; simp only [getE, Array.getElem?_toList]; cases h : tmps[t]? <;> simp [h]
    simp only [List.mapM_cons, g1, Sem.run_bind, Sem.run_pure, Result.andThen_ok, h1, this]
  | .cell a t :: rest, e, F, h, hr, he, hh => by
    obtain ⟨p, hp, hr⟩ := pW_spec hr
    obtain ⟨v, h1, hr⟩ := run_loadT hr w hh
    obtain ⟨vs, h2, h3⟩ := resL_ok g1 g2 (l := rest) hr he hh
    refine ⟨_, ?_, h3⟩
    have : tmps.getD a undef = .pointer (some p) := by
      subst he; rw [← hp]; simp only [getE, Array.getElem?_toList]; cases h : tmps[a]? <;> simp [h]
    have ha : ∀ w, (asAddr (.pointer (some p))).run P w = .ok p w := fun _ => rfl
    simp only [List.mapM_cons, g2, Sem.run_bind, Sem.run_pure, Result.andThen_ok, h1, h2, this, ha]
theorem results_ok {fn : Func} {e : List Value} {K : Value → Prop} {w : World} {tmps : Array Value} (he : tmps.toList = e) (hr : resL P fn.results.toList e (fun l => K (oneV l)) w.heap) :
    ∃ v, (results fn tmps).run P w = .ok v w ∧ K v := by
  unfold results
  rw [Array.mapM_eq_mapM_toList]
  obtain ⟨vs, h1, h2⟩ := resL_ok (P := P) (w := w) (tmps := tmps) (g := fun | .tmp t => pure (tmps.getD t undef) | .cell a t => do loadVar t (← asAddr (tmps.getD a undef))) (fun _ => rfl) (fun _ _ => rfl) hr he rfl
  refine ⟨_, ?_, h2⟩
  simp only [Sem.run_bind, Sem.run_map, Sem.run_pure]
  refine (congrArg (fun r => (r.andThen fun a w' => Result.ok a.toArray w').andThen fun a w' => Result.ok (if h : a.size = 1 then a[0] else Value.tuple a) w') h1).trans ?_
  simp only [Result.andThen_ok]
  congr 1
  match vs with
  | [] => rfl
  | [v] => rfl
  | a :: b :: l => simp [oneV]
/-- THE CONTRACT OF A FUNCTION, OUT OF ITS FORMULA. -/
theorem fn_ok (hm : P.follows .mixedOrders = true) {f : FuncId} {fn : Func} {c : Code} {n : Ann} {args : List Value} {K : Value → Heap → Prop} {h : Heap} (hf : P.funcs[f]? = some fn) (hb : fn.body = some c)
    (hn : (fn.name == "runtime.NumGoroutine") = false) (hW : fnW P fn c n args K h) : CallsH P f args h K := by
  refine ⟨⟨fn, hf, hn, by rw [hb]; rfl⟩, fun w hw => ?_⟩
  refine callsIn_wide.1 (callsIn_of_wp_marks (n := 0) hf hb trivial ?_)
  have fin : ∀ (a' : Act) (w' : World), DOk (hasRF c) w.heap.size a'.defers w'.heap → tkW (hasRF c) h.size (fun h'' => resL P fn.results.toList a'.tmps.toList (fun l => K (oneV l) h'') h'') w'.heap → Rest w w' →
      LeavesInM Fence.wide 0 P fn a'.tmps (fun e w' => ∃ v, e = .returned v ∧ K v w'.heap ∧ Rest w w') a'.defers .returning w' := by
    intro a' w' hd hr hq
    obtain ⟨hnone, Ds, hds, hnd, hDs⟩ := hd
    have hK : ∀ w'', Taken w.heap.size w'.heap w''.heap → (hasRF c = false → w'' = w') → Rest w w'' → LeavesInM Fence.wide 0 P fn a'.tmps (fun e w' => ∃ v, e = .returned v ∧ K v w'.heap ∧ Rest w w') [] .returning w'' := by
      intro w'' ht he hq'
      have hr' : resL P fn.results.toList a'.tmps.toList (fun l => K (oneV l) w''.heap) w''.heap := by
        unfold tkW at hr
        cases hrf : hasRF c with
        | false => rw [hrf] at hr; rw [he hrf]; exact hr
        | true => rw [hrf] at hr; exact hr _ (hw ▸ ht)
      obtain ⟨v, h1, h2⟩ := results_ok (fn := fn) (K := fun v => K v w''.heap) rfl hr'
      exact ⟨v, h1, v, rfl, h2, hq'⟩
    cases hrf : hasRF c with
    | false =>
      rw [hnone hrf]
      exact hK w' (Taken.refl _ _) (fun _ => rfl) hq
    | true =>
      have hK' : ∀ w'', Taken w.heap.size w'.heap w''.heap → Rest w w'' → LeavesInM Fence.wide 0 P fn a'.tmps (fun e w' => ∃ v, e = .returned v ∧ K v w'.heap ∧ Rest w w') [] .returning w'' :=
        fun w'' h1 h2 => hK w'' h1 (fun h => by rw [hrf] at h; cases h) h2
      rw [hds]
      clear hds hK hnone
      have go : ∀ (Ds : List Nat) (u : World), Ds.Nodup → (∀ D ∈ Ds, w.heap.size ≤ D ∧ u.heap[D]? = some (.deferred (some []))) → Taken w.heap.size w'.heap u.heap → Rest w u →
          LeavesInM Fence.wide 0 P fn a'.tmps (fun e w' => ∃ v, e = .returned v ∧ K v w'.heap ∧ Rest w w') (Ds.map mkD) .returning u := by
        intro Ds
        induction Ds with
        | nil => intro u _ _ ht hq; exact hK' u ht hq
        | cons D Ds ih =>
          intro u hnd hall ht hq
          obtain ⟨h1, h2⟩ := hall D (List.mem_cons_self ..)
          refine ⟨by simp, .inl ⟨D, u.putObj D (.deferred none), rfl, run_takeDeferred h2, ih _ (List.nodup_cons.1 hnd).2 ?_ ?_ ?_⟩⟩
          · intro D' hD'
            have hne : D' ≠ D := fun e => (List.nodup_cons.1 hnd).1 (e ▸ hD')
            rw [World.putObj_heap_other hne]
            exact hall D' (List.mem_cons_of_mem _ hD')
          · refine ⟨by rw [World.putObj_size, ht.size], fun k => ?_⟩
            by_cases hk : k = D
            · subst hk
              refine .inr ⟨h1, ?_, World.putObj_heap_same (Array.getElem?_eq_some_iff.1 h2).1⟩
              rcases ht.same k with h | ⟨_, h, h'⟩
              · rw [← h]; exact h2
              · exact h
            · rw [World.putObj_heap_other hk]; exact ht.same k
          · refine ⟨hq.os, hq.tape, hq.output, by rw [World.putObj_size]; exact hq.size, fun i ob hi hp => ?_⟩
            have hne : i ≠ D := by
              rintro rfl
              have := (Array.getElem?_eq_some_iff.1 hi).1
              omega
            rw [World.putObj_heap_other hne]
            exact hq.keep i ob hi hp
      exact go Ds w' hnd hDs (Taken.refl _ _) hq
  refine cw_ok hm c Fence.wide (hasRF c) w.heap.size n _ _ _ _ h (.inl rfl) (fun _ => rfl) hW _ w _ ?_ (DOk.nil _ _ _) (Nat.le_refl _) hw ?_ ?_ ?_
  · simp
  · intro a' w' hd _ hr hq
    exact fin a' w' hd hr hq
  · intro i a' w' _ _ hr _
    exact hr.elim
  · intro a' w' hd hr hq
    exact fin a' w' hd hr hq
/-- A row of cells that repeats. -/
def repL (n : Nat) (l r : List Value) : Array Value := (List.flatten (List.replicate n l) ++ r).toArray
/-- The formula of a function of the program. -/
def funW (P : Program) (f : FuncId) (n : Ann) (args : List Value) (K : Value → Heap → Prop) (h : Heap) : Prop :=
  match P.funcs[f]? with
  | some fn => match fn.body with | some c => fnW P fn c n args K h | none => False
  | none => False
theorem fun_ok0 (hm : P.follows .mixedOrders = true) {f : FuncId} {fn : Func} {n : Ann} {args : List Value} {K : Value → Heap → Prop} {h : Heap} {F : Prop} (hf : P.funcs[f]? = some fn)
    (hn : (fn.name == "runtime.NumGoroutine") = false) (he : funW P f n args K h = F) (hF : F) : CallsH P f args h K := by
  rw [← he] at hF
  unfold funW at hF
  rw [hf] at hF
  simp only at hF
  cases hb : fn.body with
  | none => simp [hb] at hF
  | some c => simp only [hb] at hF; exact fn_ok hm hf hb hn hF
end
/- THE SAME FORMULAS OVER ENVIRONMENTS THAT ARE QUICKER TO LOOK INTO: what was put last stands first. -/
inductive Env where
  | base (l : List Value) (n : Nat)
  | put (e : Env) (d : Nat) (v : Value)
  | cut (e : Env) (ds : List Nat) (lv : List (Nat × Value)) (j : Nat → Value)
def maskOf : List Nat → Nat
  | [] => 0
  | d :: ds => Nat.lor (Nat.shiftLeft 1 d) (maskOf ds)
def assocR : List (Nat × Value) → Nat → Option Value
  | [], _ => none
  | (i, v) :: rest, k => match assocR rest k with
    | some x => some x
    | none => match Nat.beq k i with | true => some v | false => none
def Env.get : Env → Nat → Value
  | .base l _, i => getE l i
  | .put e d v, i => match Nat.beq i d with | true => v | false => Env.get e i
  | .cut e ds lv j, i => match assocR lv i with
    | some v => v
    | none => match Nat.testBit (maskOf ds) i with | true => j i | false => Env.get e i
def evE (e : Env) : Operand → Value
  | .tmp t => e.get t
  | .const v => v
  | .global g => .pointer (some ⟨g, 0, none⟩)
  | .func f => .func (.func f) #[] #[]
def putEE (e : Env) (d : Option Tmp) (v : Value) : Env := match d with | some d => .put e d v | none => e
def liveV : (live : List (Nat × Ty)) → TT (live.map (·.2)) → List (Nat × Value)
  | [], _ => []
  | (i, t) :: rest, s => match rest, s with
    | [], s => [(i, t.val s)]
    | r :: rs, s => (i, t.val s.1) :: liveV (r :: rs) s.2
def getLE : (live : List (Nat × Ty)) → Env → (TT (live.map (·.2)) → Prop) → Prop
  | [], _, F => F ()
  | (i, t) :: rest, e, F => match rest, F with
    | [], F => unT t (e.get i) F
    | r :: rs, F => unT t (e.get i) fun x => getLE (r :: rs) e fun y => F (x, y)
def regWE (P : Program) (ops : List Oper) : List Oper → Env → (Env → Heap → Prop) → Heap → Prop
  | [], env, N, h => N env h
  | o :: rest, env, N, h => match o.guard with
    | none => opW P o (evE env) (fun v h' => regWE P ops rest (putEE env o.dst v) N h') h
    | some (j, want) => match (ops[j]?).bind (·.dst) with
      | none => regWE P ops rest (putEE env o.dst undef) N h
      | some d => match env.get d with
        | .bool b => gdW b want (fun b' => opW P o (evE (.put env d (.bool b'))) (fun v h' => regWE P ops rest (putEE (.put env d (.bool b')) o.dst v) N h') h)
            (fun b' => regWE P ops rest (putEE (.put env d (.bool b')) o.dst undef) N h)
        | _ => regWE P ops rest (putEE env o.dst undef) N h
def stepDE (P : Program) (ops : List Oper) (quiet : List Nat) (i : Nat) (T : List (Nat × Addr × Value)) (env : Env) (G : List (Nat × Addr × Value) → Env → Heap → Prop) (h : Heap) : Prop :=
  match ops[i]? with
    | none => False
    | some o => match o.guard with
      | none => dT P ops i o (qOf i quiet) T (evE env) (fun v T' h' => G T' (putEE env o.dst v) h') h
      | some (j, want) => match (ops[j]?).bind (·.dst) with
        | none => G T (putEE env o.dst undef) h
        | some d => match env.get d with
          | .bool b => gdW b want (fun b' => dT P ops i o (qOf i quiet) T (evE (.put env d (.bool b'))) (fun v T' h' => G T' (putEE (.put env d (.bool b')) o.dst v) h') h)
              (fun b' => G T (putEE (.put env d (.bool b')) o.dst undef) h)
          | _ => G T (putEE env o.dst undef) h
def regDE (P : Program) (ops : List Oper) (quiet : List Nat) : Od → List (Nat × Addr × Value) → Env → (Env → Heap → Prop) → Heap → Prop
  | .nil, _, env, N, h => N env h
  | .one i r, T, env, N, h => stepDE P ops quiet i T env (fun T' e' h' => regDE P ops quiet r T' e' N h') h
  | .fork i r m, T, env, N, h => stepDE P ops quiet i T env (fun T' e' h' => regDE P ops quiet r T' e' N h') h ∧ regDE P ops quiet m T env N h
def parEE : List Nat → List Value → Env → Env
  | p :: ps, v :: vs, e => parEE ps vs (.put e p v)
  | _, _, e => e
def cwE (P : Program) (rf : Bool) : Code → Ann → Env → (Env → Heap → Prop) → (Nat → Env → Heap → Prop) → (Env → Heap → Prop) → Heap → Prop
  | .skip, _, e, N, _, _, h => N e h
  | .label _, _, e, N, _, _, h => N e h
  | .exit id, _, e, _, X, _, h => X id e h
  | .ret, _, e, _, _, R, h => R e h
  | .region _ ops d, n, e, N, _, _, h => match d with
    | false => regWE P ops.toList ops.toList e N h
    | true => match n with
      | .draw order quiet => ckB (Region.noSelect ops && ordB ops quiet [] order (Array.replicate ops.size false) && Nat.beq order.len ops.size) (regDE P ops.toList quiet order [] e N h)
      | _ => False
  | .seq a b, .seq x y, e, N, X, R, h => cwE P rf a x e (fun e' h' => cwE P rf b y e' N X R h') X R h
  | .seq a b, .cut live x y, e, N, X, R, h =>
    cutT (live.map (·.2)) (fun K h' => cwE P rf a x e (fun e' h'' => getLE live e' fun s => K s h'') X R h') (fun s j h' => cwE P rf b y (.cut e (dstC a) (liveV live s) j) N X R h') h
  | .cond c a b, .cond x y, e, N, X, R, h => bW (evE e c) fun t => br t (cwE P rf a x e N X R h) (cwE P rf b y e N X R h)
  | .block id a, .block x, e, N, X, R, h => cwE P rf a x e N (fun i e' h' => match Nat.beq i id with | true => N e' h' | false => X i e' h') R h
  | .block id a, .bcut live x, e, N, X, R, h =>
    cutT (live.map (·.2)) (fun K h' => cwE P rf a x e (fun e' h'' => getLE live e' fun s => K s h'') (fun i e' h'' => match Nat.beq i id with | true => getLE live e' fun s => K s h'' | false => X i e' h'') R h')
      (fun s j h' => N (.cut e (dstC a) (liveV live s) j) h') h
  | .scope a, .block x, e, N, X, R, h => cwE P rf a x e N X R h
  | .loop a, .loop live x, e, _, X, R, h =>
    getLE live e fun s0 => loopT (live.map (·.2)) (fun s j K h' => cwE P rf a x (.cut e (dstC a) (liveV live s) j) (fun e' h'' => getLE live e' fun s' => K s' h'') X R h') s0 h
  | .rangeFunc g ps a b, .range tys xs x y, e, N, X, R, h =>
    ckB (rf && Nat.beq tys.length ps.size) <| rfW (evE e g) fun gf first lb => rangeW P gf first lb tys
      (fun l o s Y h1 => cwE P false a x (parEE ps.toList (vals tys s) e)
        (fun e1 h2 => roundIn l o (fun h3 => cwE P false b y e1 (fun _ h4 => roundEnd l o.rdy (Y true) h4) (fun i _ h4 => ckB (memB i xs) (roundEnd l (o.dn (.exit i)) (Y false) h4)) (fun _ h4 => roundEnd l (o.dn .ret) (Y false) h4) h3) h2)
        (fun _ _ _ => False) (fun _ _ => False) h1)
      (fun l o h3 => endW l o xs (fun h' => N e h') (fun i h' => X i e h') (fun h' => R e h') h3) h
  | _, _, _, _, _, _, _ => False
def resLE (P : Program) : List ResultVar → Env → (List Value → Prop) → Heap → Prop
  | [], _, F, _ => F []
  | .tmp t :: rest, e, F, h => resLE P rest e (fun l => F (e.get t :: l)) h
  | .cell a t :: rest, e, F, h => pW (e.get a) fun p => ldT P t p (fun v => resLE P rest e (fun l => F (v :: l)) h) h
def allLt (n : Nat) : List Nat → Bool
  | [] => true
  | d :: ds => match Nat.blt d n with | true => allLt n ds | false => false
/-- All that a piece of code sets lies among its temporaries. -/
def okC (n : Nat) : Code → Bool
  | .region _ ops _ => allLt n (dstR ops.toList)
  | .seq a b => okC n a && okC n b
  | .cond _ a b => okC n a && okC n b
  | .block _ a => okC n a
  | .loop a => okC n a
  | .scope a => okC n a
  | .rangeFunc _ ps a b => allLt n ps.toList && (okC n a && okC n b)
  | _ => true
def okA (n : Nat) : Ann → Bool
  | .seq a b => okA n a && okA n b
  | .cut live a b => allLt n (live.map (·.1)) && (okA n a && okA n b)
  | .cond a b => okA n a && okA n b
  | .block a => okA n a
  | .bcut live a => allLt n (live.map (·.1)) && okA n a
  | .loop live a => allLt n (live.map (·.1)) && okA n a
  | .range _ _ a b => okA n a && okA n b
  | _ => true
def fnWE (P : Program) (fn : Func) (c : Code) (n : Ann) (args : List Value) (K : Value → Heap → Prop) (h : Heap) : Prop :=
  ckB (okC fn.ntmps c && okA fn.ntmps n) <| cwE P (hasRF c) c n (.base args fn.ntmps) (fun e h' => tkW (hasRF c) h.size (fun h'' => resLE P fn.results.toList e (fun l => K (oneV l) h'') h'') h') (fun _ _ _ => False)
    (fun e h' => tkW (hasRF c) h.size (fun h'' => resLE P fn.results.toList e (fun l => K (oneV l) h'') h'') h') h
def funWE (P : Program) (f : FuncId) (n : Ann) (args : List Value) (K : Value → Heap → Prop) (h : Heap) : Prop :=
  match P.funcs[f]? with
  | some fn => match fn.body with | some c => fnWE P fn c n args K h | none => False
  | none => False
theorem allLt_spec {n : Nat} : ∀ {l : List Nat}, allLt n l = true → ∀ d ∈ l, d < n
  | [], _, _, h => by cases h
  | a :: l, hl, d, hd => by
    unfold allLt at hl
    split at hl
    · rename_i hb
      rcases List.mem_cons.1 hd with rfl | hd
      · simpa [Nat.blt_eq] using hb
      · exact allLt_spec hl d hd
    · cases hl
def setV : List (Nat × Value) → List Value → List Value
  | [], e => e
  | (i, v) :: rest, e => setV rest (e.set i v)
def Env.den : Env → List Value
  | .base l n => l ++ List.replicate (n - l.length) undef
  | .put e d v => (Env.den e).set d v
  | .cut e ds lv j => setV lv (junkL j ds (Env.den e))
structure WF (n : Nat) (e : Env) : Prop where
  get : ∀ i, getE e.den i = e.get i
  len : n ≤ e.den.length
theorem getE_set {e : List Value} {d i : Nat} {v : Value} (h : d < e.length) : getE (e.set d v) i = if i = d then v else getE e i := by
  simp only [getE]
  by_cases hi : i = d
  · subst hi; simp [h]
  · rw [List.getElem?_set_ne (fun h => hi h.symm), if_neg hi]
theorem WF.base (l : List Value) (n : Nat) : WF n (.base l n) := by
  refine ⟨fun i => ?_, by simp only [Env.den, List.length_append, List.length_replicate]; omega⟩
  simp only [Env.den, Env.get, getE, List.getElem?_append]
  by_cases hi : i < l.length
  · simp [hi]
  · rw [if_neg hi]
    have : l[i]? = none := List.getElem?_eq_none (by omega)
    rw [this, List.getElem?_replicate]
    split
    · rename_i h; split at h
      · exact (Option.some.inj h).symm
      · cases h
    · rfl
theorem beq_iff {i d : Nat} : Nat.beq i d = true ↔ i = d := ⟨Nat.eq_of_beq_eq_true, fun h => by subst h; exact Nat.beq_refl _⟩
theorem WF.put {n : Nat} {e : Env} (h : WF n e) {d : Nat} (hd : d < n) (v : Value) : WF n (.put e d v) := by
  refine ⟨fun i => ?_, by simp only [Env.den, List.length_set]; exact h.len⟩
  simp only [Env.den, Env.get]
  rw [getE_set (Nat.lt_of_lt_of_le hd h.len)]
  cases hb : Nat.beq i d with
  | true => rw [if_pos (beq_iff.1 hb)]
  | false => rw [if_neg (fun e => by rw [beq_iff.2 e] at hb; cases hb)]; exact h.get i
theorem WF.putE {n : Nat} {e : Env} (h : WF n e) {d : Option Tmp} (hd : ∀ x, d = some x → x < n) (v : Value) : WF n (putEE e d v) := by
  cases d with
  | none => exact h
  | some x => exact h.put (hd x rfl) v
theorem den_putEE (e : Env) (d : Option Tmp) (v : Value) : (putEE e d v).den = putE e.den d v := by cases d <;> rfl
theorem setV_length : ∀ (lv : List (Nat × Value)) (e : List Value), (setV lv e).length = e.length
  | [], _ => rfl
  | (i, v) :: rest, e => by simp [setV, setV_length rest]
theorem getE_setV : ∀ (lv : List (Nat × Value)) (e : List Value), (∀ p ∈ lv, p.1 < e.length) → ∀ i, getE (setV lv e) i = match assocR lv i with | some v => v | none => getE e i
  | [], _, _, _ => rfl
  | (k, v) :: rest, e, h, i => by
    rw [setV, getE_setV rest _ (fun p hp => by rw [List.length_set]; exact h p (List.mem_cons_of_mem _ hp)) i]
    simp only [assocR]
    cases hr : assocR rest i with
    | some x => rfl
    | none =>
      simp only []
      rw [getE_set (h (k, v) (List.mem_cons_self ..))]
      cases hb : Nat.beq i k with
      | true => rw [if_pos (beq_iff.1 hb)]
      | false => rw [if_neg (fun e => by rw [beq_iff.2 e] at hb; cases hb)]
theorem testBit_maskOf (i : Nat) : ∀ (ds : List Nat), Nat.testBit (maskOf ds) i = true ↔ i ∈ ds
  | [] => by simp [maskOf]
  | d :: ds => by
    have h1 : maskOf (d :: ds) = (1 <<< d) ||| maskOf ds := rfl
    rw [h1, Nat.testBit_or, Bool.or_eq_true, testBit_maskOf i ds, List.mem_cons, Nat.one_shiftLeft, Nat.testBit_two_pow]
    simp [eq_comm]
theorem liveV_fst : ∀ (live : List (Nat × Ty)) (s : TT (live.map (·.2))) (p : Nat × Value), p ∈ liveV live s → p.1 ∈ live.map (·.1)
  | [], _, _, h => by cases h
  | [(i, t)], s, p, h => by
    simp only [liveV, List.mem_singleton] at h
    subst h; simp
  | (i, t) :: r :: rs, s, p, h => by
    simp only [liveV] at h
    rcases List.mem_cons.1 h with rfl | h
    · simp
    · exact List.mem_cons_of_mem _ (liveV_fst (r :: rs) s.2 p h)
theorem setL_eq : ∀ (live : List (Nat × Ty)) (s : TT (live.map (·.2))) (e : List Value), setL live s e = setV (liveV live s) e
  | [], _, _ => rfl
  | [(i, t)], s, e => rfl
  | (i, t) :: r :: rs, s, e => by
    simp only [setL, liveV, setV]
    exact setL_eq (r :: rs) s.2 _
theorem den_cut (e : Env) (ds : List Nat) (live : List (Nat × Ty)) (s : TT (live.map (·.2))) (j : Nat → Value) : (Env.cut e ds (liveV live s) j).den = embL e.den ds live s j := by
  rw [Env.den, embL, setL_eq]
theorem WF.cut {n : Nat} {e : Env} (h : WF n e) {ds : List Nat} (hd : ∀ d ∈ ds, d < n) {live : List (Nat × Ty)} (hl : ∀ d ∈ live.map (·.1), d < n) (s : TT (live.map (·.2))) (j : Nat → Value) : WF n (.cut e ds (liveV live s) j) := by
  have hlen := (junkL_keeps j ds e.den).1
  refine ⟨fun i => ?_, by rw [Env.den, setV_length, hlen]; exact h.len⟩
  rw [Env.den, getE_setV _ _ (fun p hp => by rw [hlen]; exact Nat.lt_of_lt_of_le (hl _ (liveV_fst live s p hp)) h.len)]
  simp only [Env.get]
  cases assocR (liveV live s) i with
  | some v => rfl
  | none =>
    simp only [getE, (junkL_keeps j ds e.den).2]
    cases hb : Nat.testBit (maskOf ds) i with
    | true =>
      have hm := (testBit_maskOf i ds).1 hb
      rw [if_pos ⟨hm, Nat.lt_of_lt_of_le (hd i hm) h.len⟩]
    | false =>
      rw [if_neg (fun hh => by rw [(testBit_maskOf i ds).2 hh.1] at hb; cases hb)]
      exact h.get i
theorem evE_eq {n : Nat} {e : Env} (h : WF n e) : evE e = ev e.den := by
  funext x; cases x <;> simp [evE, ev, h.get]
theorem getLE_eq {n : Nat} {e : Env} (h : WF n e) : ∀ (live : List (Nat × Ty)) (F : TT (live.map (·.2)) → Prop), getLE live e F = getL live e.den F
  | [], _ => rfl
  | [(i, t)], F => by simp only [getLE, getL, h.get]
  | (i, t) :: r :: rs, F => by
    simp only [getLE, getL, h.get]
    congr 1; funext x
    exact getLE_eq h (r :: rs) _
section
variable {P : Program} {n : Nat}
theorem regWE_eq (ops : List Oper) (hall : ∀ o ∈ ops, ∀ d, o.dst = some d → d < n) {N : Env → Heap → Prop} {N' : List Value → Heap → Prop} (hN : ∀ e h, WF n e → N e h = N' e.den h) :
    ∀ (l : List Oper), (∀ o ∈ l, ∀ d, o.dst = some d → d < n) → ∀ (e : Env) (h : Heap), WF n e → regWE P ops l e N h = regW P ops l e.den N' h
  | [], _, e, h, hw => hN e h hw
  | o :: rest, hl, e, h, hw => by
    have hr : ∀ o ∈ rest, ∀ d, o.dst = some d → d < n := fun o ho => hl o (List.mem_cons_of_mem _ ho)
    have hd : ∀ d, o.dst = some d → d < n := hl o (List.mem_cons_self ..)
    have ih : ∀ (e : Env) (v : Value) (h : Heap), WF n e → regWE P ops rest (putEE e o.dst v) N h = regW P ops rest (putE e.den o.dst v) N' h := by
      intro e v h hw
      rw [regWE_eq ops hall hN rest hr _ h (hw.putE hd v), den_putEE]
    unfold regWE regW
    cases hg : o.guard with
    | none =>
      simp only [evE_eq hw]
      congr 1; funext v h'; exact ih e v h' hw
    | some jw =>
      obtain ⟨j, want⟩ := jw
      simp only []
      cases hb : (ops[j]?).bind (·.dst) with
      | none => exact ih e undef h hw
      | some d =>
        have hdn : d < n := by
          cases hj : ops[j]? with
          | none => rw [hj] at hb; cases hb
          | some oj => rw [hj] at hb; exact hall oj (List.mem_of_getElem? hj) d hb
        simp only []
        have hget := hw.get d
        have hlt : d < e.den.length := Nat.lt_of_lt_of_le hdn hw.len
        rw [getE_of hlt, hget]
        cases hv : e.get d with
        | bool b =>
          simp only []
          have hw' : WF n (.put e d (.bool b)) := hw.put hdn _
          have hden : (Env.put e d (.bool b)).den = e.den.set d (.bool b) := rfl
          congr 1
          · funext b'
            have hw'' : WF n (.put e d (.bool b')) := hw.put hdn _
            rw [evE_eq hw'']
            congr 1; funext v h'; exact ih _ v h' hw''
          · funext b'
            exact ih _ undef h (hw.put hdn _)
        | _ => exact ih e undef h hw
theorem stepDE_eq (ops : List Oper) (quiet : List Nat) (hall : ∀ o ∈ ops, ∀ d, o.dst = some d → d < n) {G : List (Nat × Addr × Value) → Env → Heap → Prop} {G' : List (Nat × Addr × Value) → List Value → Heap → Prop} (hG : ∀ T e h, WF n e → G T e h = G' T e.den h)
    (i : Nat) (T : List (Nat × Addr × Value)) (e : Env) (h : Heap) (hw : WF n e) : stepDE P ops quiet i T e G h = stepD P ops quiet i T e.den G' h := by
  unfold stepDE stepD
  cases hi : ops[i]? with
  | none => rfl
  | some o =>
    have hd : ∀ d, o.dst = some d → d < n := hall o (List.mem_of_getElem? hi)
    have ih : ∀ (T : List (Nat × Addr × Value)) (e : Env) (v : Value) (h : Heap), WF n e → G T (putEE e o.dst v) h = G' T (putE e.den o.dst v) h := by
      intro T e v h hw
      rw [hG T _ h (hw.putE hd v), den_putEE]
    simp only []
    cases hg : o.guard with
    | none =>
      simp only [evE_eq hw]
      congr 1; funext v T' h'; exact ih T' e v h' hw
    | some jw =>
      obtain ⟨j, want⟩ := jw
      simp only []
      cases hb : (ops[j]?).bind (·.dst) with
      | none => exact ih T e undef h hw
      | some d =>
        have hdn : d < n := by
          cases hj : ops[j]? with
          | none => rw [hj] at hb; cases hb
          | some oj => rw [hj] at hb; exact hall oj (List.mem_of_getElem? hj) d hb
        simp only []
        have hget := hw.get d
        have hlt : d < e.den.length := Nat.lt_of_lt_of_le hdn hw.len
        rw [getE_of hlt, hget]
        cases hv : e.get d with
        | bool b =>
          simp only []
          congr 1
          · funext b'
            have hw'' : WF n (.put e d (.bool b')) := hw.put hdn _
            rw [evE_eq hw'']
            congr 1; funext v T' h'; exact ih T' _ v h' hw''
          · funext b'
            exact ih T _ undef h (hw.put hdn _)
        | _ => exact ih T e undef h hw
theorem regDE_eq (ops : List Oper) (quiet : List Nat) (hall : ∀ o ∈ ops, ∀ d, o.dst = some d → d < n) {N : Env → Heap → Prop} {N' : List Value → Heap → Prop} (hN : ∀ e h, WF n e → N e h = N' e.den h) :
    ∀ (l : Od) (T : List (Nat × Addr × Value)) (e : Env) (h : Heap), WF n e → regDE P ops quiet l T e N h = regD P ops quiet l T e.den N' h
  | .nil, _, e, h, hw => hN e h hw
  | .one i r, T, e, h, hw => by
    unfold regDE regD
    exact stepDE_eq ops quiet hall (G' := fun T' e' h' => regD P ops quiet r T' e' N' h') (fun T' e' h' hw' => regDE_eq ops quiet hall hN r T' e' h' hw') i T e h hw
  | .fork i r m, T, e, h, hw => by
    unfold regDE regD
    rw [stepDE_eq ops quiet hall (G' := fun T' e' h' => regD P ops quiet r T' e' N' h') (fun T' e' h' hw' => regDE_eq ops quiet hall hN r T' e' h' hw') i T e h hw, regDE_eq ops quiet hall hN m T e h hw]
theorem parEE_eq : ∀ (ps : List Nat) (vs : List Value) (e : Env), (∀ p ∈ ps, p < n) → WF n e → WF n (parEE ps vs e) ∧ (parEE ps vs e).den = parE ps vs e.den
  | [], _, e, _, hw => ⟨by simpa [parEE] using hw, by simp [parEE, parE]⟩
  | _ :: _, [], e, _, hw => ⟨by simpa [parEE] using hw, by simp [parEE, parE]⟩
  | p :: ps, v :: vs, e, hp, hw => by
    simp only [parEE, parE]
    exact parEE_eq ps vs _ (fun q hq => hp q (List.mem_cons_of_mem _ hq)) (hw.put (hp p (List.mem_cons_self ..)) v)
theorem okC_dst : ∀ {c : Code}, okC n c = true → ∀ d ∈ dstC c, d < n
  | .region _ ops _, h, d, hd => allLt_spec h d hd
  | .seq a b, h, d, hd => by
    simp only [okC, Bool.and_eq_true] at h
    rcases List.mem_append.1 hd with hd | hd
    · exact okC_dst h.1 d hd
    · exact okC_dst h.2 d hd
  | .cond _ a b, h, d, hd => by
    simp only [okC, Bool.and_eq_true] at h
    rcases List.mem_append.1 hd with hd | hd
    · exact okC_dst h.1 d hd
    · exact okC_dst h.2 d hd
  | .block _ a, h, d, hd => okC_dst (c := a) h d hd
  | .loop a, h, d, hd => okC_dst (c := a) h d hd
  | .scope a, h, d, hd => okC_dst (c := a) h d hd
  | .skip, _, _, hd => by cases hd
  | .exit _, _, _, hd => by cases hd
  | .label _, _, _, hd => by cases hd
  | .goto _, _, _, hd => by cases hd
  | .ret, _, _, hd => by cases hd
  | .rangeFunc .., _, _, hd => by cases hd
  | .refuse _, _, _, hd => by cases hd
theorem cwE_eq : ∀ (c : Code) (rf : Bool) (a : Ann) (e : Env) (N : Env → Heap → Prop) (X : Nat → Env → Heap → Prop) (R : Env → Heap → Prop) (N' : List Value → Heap → Prop) (X' : Nat → List Value → Heap → Prop) (R' : List Value → Heap → Prop) (h : Heap),
    okC n c = true → okA n a = true → WF n e → (∀ e h, WF n e → N e h = N' e.den h) → (∀ i e h, WF n e → X i e h = X' i e.den h) → (∀ e h, WF n e → R e h = R' e.den h) →
    cwE P rf c a e N X R h = cw P rf c a e.den N' X' R' h := by
  intro c
  induction c with
  | skip => intro rf a e N X R N' X' R' h _ _ hw hN _ _; cases a <;> exact hN e h hw
  | label l => intro rf a e N X R N' X' R' h _ _ hw hN _ _; cases a <;> exact hN e h hw
  | exit i => intro rf a e N X R N' X' R' h _ _ hw _ hX _; cases a <;> exact hX i e h hw
  | ret => intro rf a e N X R N' X' R' h _ _ hw _ _ hR; cases a <;> exact hR e h hw
  | goto l => intro rf a e N X R N' X' R' h _ _ _ _ _ _; cases a <;> rfl
  | refuse s => intro rf a e N X R N' X' R' h _ _ _ _ _ _; cases a <;> rfl
  | region id ops d =>
    intro rf a e N X R N' X' R' h hc ha hw hN hX hR
    have hall : ∀ o ∈ ops.toList, ∀ d, o.dst = some d → d < n := fun o ho d hd => allLt_spec hc d (dst_R hd ho)
    cases d with
    | false => cases a <;> exact regWE_eq _ hall hN _ hall e h hw
    | true =>
      cases a <;> try rfl
      case draw order quiet =>
        show ckB _ _ = ckB _ _
        rw [regDE_eq _ quiet hall hN order [] e h hw]
  | seq x y ihx ihy =>
    intro rf a e N X R N' X' R' h hc ha hw hN hX hR
    simp only [okC, Bool.and_eq_true] at hc
    cases a <;> try rfl
    case seq a1 a2 =>
      simp only [okA, Bool.and_eq_true] at ha
      exact ihx rf a1 e _ X R _ X' R' h hc.1 ha.1 hw (fun e' h' hw' => ihy rf a2 e' N X R N' X' R' h' hc.2 ha.2 hw' hN hX hR) hX hR
    case cut live a1 a2 =>
      simp only [okA, Bool.and_eq_true] at ha
      simp only [cwE, cw]
      congr 1
      · funext K h'
        exact ihx rf a1 e _ X R _ X' R' h' hc.1 ha.2.1 hw (fun e' h'' hw' => getLE_eq hw' live _) hX hR
      · funext s j h'
        rw [← den_cut]
        exact ihy rf a2 _ N X R N' X' R' h' hc.2 ha.2.2 (hw.cut (okC_dst hc.1) (allLt_spec ha.1) s j) hN hX hR
  | cond t x y ihx ihy =>
    intro rf a e N X R N' X' R' h hc ha hw hN hX hR
    simp only [okC, Bool.and_eq_true] at hc
    cases a <;> try rfl
    case cond a1 a2 =>
      simp only [okA, Bool.and_eq_true] at ha
      simp only [cwE, cw, evE_eq hw]
      congr 1; funext b
      rw [ihx rf a1 e N X R N' X' R' h hc.1 ha.1 hw hN hX hR, ihy rf a2 e N X R N' X' R' h hc.2 ha.2 hw hN hX hR]
  | block id x ih =>
    intro rf a e N X R N' X' R' h hc ha hw hN hX hR
    cases a <;> try rfl
    case block a1 =>
      refine ih rf a1 e N _ R N' _ R' h hc ha hw hN (fun i e' h' hw' => ?_) hR
      cases hb : Nat.beq i id with
      | true => exact hN e' h' hw'
      | false => exact hX i e' h' hw'
    case bcut live a1 =>
      simp only [okA, Bool.and_eq_true] at ha
      simp only [cwE, cw]
      congr 1
      · funext K h'
        refine ih rf a1 e _ _ R _ _ R' h' hc ha.2 hw (fun e' h'' hw' => getLE_eq hw' live _) (fun i e' h'' hw' => ?_) hR
        cases hb : Nat.beq i id with
        | true => exact getLE_eq hw' live _
        | false => exact hX i e' h'' hw'
      · funext s j h'
        rw [← den_cut]
        exact hN _ h' (hw.cut (okC_dst (c := x) hc) (allLt_spec ha.1) s j)
  | loop x ih =>
    intro rf a e N X R N' X' R' h hc ha hw hN hX hR
    cases a <;> try rfl
    case loop live a1 =>
      simp only [okA, Bool.and_eq_true] at ha
      simp only [cwE, cw]
      rw [getLE_eq hw]
      congr 1; funext s0
      congr 1; funext s j K h'
      rw [← den_cut]
      exact ih rf a1 _ _ X R _ X' R' h' hc ha.2 (hw.cut (okC_dst (c := x) hc) (allLt_spec ha.1) s j) (fun e' h'' hw' => getLE_eq hw' live _) hX hR
  | scope x ih =>
    intro rf a e N X R N' X' R' h hc ha hw hN hX hR
    cases a <;> try rfl
    case block a1 => exact ih rf a1 e N X R N' X' R' h hc ha hw hN hX hR
  | rangeFunc g ps x y ihx ihy =>
    intro rf a e N X R N' X' R' h hc ha hw hN hX hR
    cases a <;> try rfl
    case range tys xs a1 a2 =>
      simp only [okC, okA, Bool.and_eq_true] at hc ha
      simp only [cwE, cw, evE_eq hw]
      congr 2; funext gf first lb
      congr 1
      · funext l o s Y h1
        obtain ⟨hp1, hp2⟩ := parEE_eq ps.toList (vals tys s) e (allLt_spec hc.1) hw
        rw [← hp2]
        refine ihx false a1 _ _ _ _ _ _ _ h1 hc.2.1 ha.1 hp1 (fun e1 h2 hw1 => ?_) (fun _ _ _ _ => rfl) (fun _ _ _ => rfl)
        congr 1; funext h3
        exact ihy false a2 e1 _ _ _ _ _ _ h3 hc.2.2 ha.2 hw1 (fun _ _ _ => rfl) (fun _ _ _ _ => rfl) (fun _ _ _ => rfl)
      · funext l o h3
        congr 1
        · funext h'; exact hN e h' hw
        · funext i h'; exact hX i e h' hw
        · funext h'; exact hR e h' hw
theorem resLE_eq : ∀ (l : List ResultVar) (e : Env) (F : List Value → Prop) (h : Heap), WF n e → resLE P l e F h = resL P l e.den F h
  | [], _, _, _, _ => rfl
  | .tmp t :: rest, e, F, h, hw => by simp only [resLE, resL, hw.get]; exact resLE_eq rest e _ h hw
  | .cell a t :: rest, e, F, h, hw => by
    simp only [resLE, resL, hw.get]
    congr 1; funext p
    congr 1; funext v
    exact resLE_eq rest e _ h hw
theorem funWE_imp {f : FuncId} {a : Ann} {args : List Value} {K : Value → Heap → Prop} {h : Heap} (hh : funWE P f a args K h) : funW P f a args K h := by
  unfold funWE at hh
  unfold funW
  cases hf : P.funcs[f]? with
  | none => rw [hf] at hh; exact hh
  | some fn =>
    rw [hf] at hh
    simp only [] at hh ⊢
    cases hb : fn.body with
    | none => rw [hb] at hh; exact hh
    | some c =>
      rw [hb] at hh
      simp only [] at hh ⊢
      obtain ⟨hk, hh⟩ := ckB_spec hh
      rw [Bool.and_eq_true] at hk
      have hres : ∀ (e : Env) (h' : Heap), WF fn.ntmps e → tkW (hasRF c) h.size (fun h'' => resLE P fn.results.toList e (fun l => K (oneV l) h'') h'') h' = tkW (hasRF c) h.size (fun h'' => resL P fn.results.toList e.den (fun l => K (oneV l) h'') h'') h' := by
        intro e h' hw
        congr 1; funext h''
        exact resLE_eq _ e _ h'' hw
      rw [cwE_eq (n := fn.ntmps) c (hasRF c) a (.base args fn.ntmps) _ _ _ (fun e h' => tkW (hasRF c) h.size (fun h'' => resL P fn.results.toList e (fun l => K (oneV l) h'') h'') h') (fun _ _ _ => False) (fun e h' => tkW (hasRF c) h.size (fun h'' => resL P fn.results.toList e (fun l => K (oneV l) h'') h'') h') h hk.1 hk.2 (WF.base args fn.ntmps) hres (fun _ _ _ _ => rfl) hres] at hh
      exact hh
/-- THE CONTRACT OF A FUNCTION, OUT OF ITS FORMULA. -/
theorem fun_ok (hm : P.follows .mixedOrders = true) {f : FuncId} {fn : Func} {a : Ann} {args : List Value} {K : Value → Heap → Prop} {h : Heap} {F : Prop} (hf : P.funcs[f]? = some fn)
    (hn : (fn.name == "runtime.NumGoroutine") = false) (he : funWE P f a args K h = F) (hF : F) : CallsH P f args h K :=
  fun_ok0 hm hf hn rfl (funWE_imp (by rw [he]; exact hF))
end
end Go.Pl
