/-
  errors.As and errors.Is over chains of faults (and plain codes); fault.Code, Is, Wrap, Trail, Place over them. errors.errorType must read as the program lays it.
-/
import Derived.Test.YtgohecjnjadnpaaDoorWErrE
import Derived.Test.YtgohecjnjadnpaaDoorWFaultE
import Derived.Test.YtgohecjnjadnpaaDoorAs
import Derived.Test.YtgohecjnjadnpaaDoorApp
namespace Go.Proofs.YtgohecjnjadnpaaDoor.Err
open Go.RowKit Go.Extern.Stop Go.Stop Go.Extern Go.Pl Go.Proofs.YtgohecjnjadnpaaDoor.W Go.Proofs.YtgohecjnjadnpaaDoor.As
theorem ext_at {f : FuncId} {fn : Func} {e : Array Value → Sem Value} (hf : Tryd.prog.funcs[f]? = some fn) (hname : (fn.name == "runtime.NumGoroutine") = false)
    (hb : fn.body.isNone = true) (hn : Extern.findNext fn = none) (he : Extern.find fn = some e) {args : Array Value} {w w' : World} {v : Value} (h : (e args).run Tryd.prog w = .ok v w') :
    (callFunc f args).run Tryd.prog w = .ok (.value v) w' := by rw [run_callFunc_extern hf hname hb hn he, h]; rfl
theorem mKind (x : Value) (w : World) : (Go.method (Tryd.prog.types.size + Made.depth) 183 (.agg #[x]) "Kind").run Tryd.prog w = .ok (125, x) w := by kernel_rfl
theorem mElem (x : Value) (w : World) : (Go.method (Tryd.prog.types.size + Made.depth) 183 (.agg #[x]) "Elem").run Tryd.prog w = .ok (137, .agg #[x]) w := by kernel_rfl
theorem mImpl (x : Value) (w : World) : (Go.method (Tryd.prog.types.size + Made.depth) 183 (.agg #[x]) "Implements").run Tryd.prog w = .ok (138, .agg #[x]) w := by kernel_rfl
theorem mAsg (x : Value) (w : World) : (Go.method (Tryd.prog.types.size + Made.depth) 183 (.agg #[x]) "AssignableTo").run Tryd.prog w = .ok (135, .agg #[x]) w := by kernel_rfl
theorem mCmp (x : Value) (w : World) : (Go.method (Tryd.prog.types.size + Made.depth) 183 (.agg #[x]) "Comparable").run Tryd.prog w = .ok (136, .agg #[x]) w := by kernel_rfl
theorem typeOfE' (v : Value) (w : World) : (ReflectliteType.typeOf #[.iface 31 v]).run Tryd.prog w = .ok (.iface 183 (.agg #[.pointer (some ⟨1, 31, none⟩)])) w := by kernel_rfl
theorem xTypeOfE (v : Value) (h : Heap) : extH Tryd.prog 105 [.iface 31 v] h fun v h' => v = .iface 183 (.agg #[.pointer (some ⟨1, 31, none⟩)]) ∧ h' = h := fun w hw => ⟨_, _, ext_at Tryd.func105 (by kernel_rfl) (by kernel_rfl) (by kernel_rfl) (show Extern.find _ = some (ReflectliteType.typeOf) by kernel_rfl) (typeOfE' v w), ⟨rfl, hw⟩, Rest.refl w⟩
theorem typeOfF' (v : Value) (w : World) : (ReflectliteType.typeOf #[.iface 175 v]).run Tryd.prog w = .ok (.iface 183 (.agg #[.pointer (some ⟨1, 175, none⟩)])) w := by kernel_rfl
theorem xTypeOfF (v : Value) (h : Heap) : extH Tryd.prog 105 [.iface 175 v] h fun v h' => v = .iface 183 (.agg #[.pointer (some ⟨1, 175, none⟩)]) ∧ h' = h := fun w hw => ⟨_, _, ext_at Tryd.func105 (by kernel_rfl) (by kernel_rfl) (by kernel_rfl) (show Extern.find _ = some (ReflectliteType.typeOf) by kernel_rfl) (typeOfF' v w), ⟨rfl, hw⟩, Rest.refl w⟩
theorem kindPE' (w : World) : ((ReflectliteType.abiMethod fun t => do pure (.int .u8 (← Rtype.kind t))) #[.pointer (some ⟨1, 120, none⟩)]).run Tryd.prog w = .ok (.int .u8 22) w := by kernel_rfl
theorem xKindPE  (h : Heap) : extH Tryd.prog 125 [.pointer (some ⟨1, 120, none⟩)] h fun v h' => v = .int .u8 22 ∧ h' = h := fun w hw => ⟨_, _, ext_at Tryd.func125 (by kernel_rfl) (by kernel_rfl) (by kernel_rfl) (show Extern.find _ = some (ReflectliteType.abiMethod fun t => do pure (.int .u8 (← Rtype.kind t))) by kernel_rfl) (kindPE' w), ⟨rfl, hw⟩, Rest.refl w⟩
theorem kindE' (w : World) : ((ReflectliteType.abiMethod fun t => do pure (.int .u8 (← Rtype.kind t))) #[.pointer (some ⟨1, 31, none⟩)]).run Tryd.prog w = .ok (.int .u8 2) w := by kernel_rfl
theorem xKindE  (h : Heap) : extH Tryd.prog 125 [.pointer (some ⟨1, 31, none⟩)] h fun v h' => v = .int .u8 2 ∧ h' = h := fun w hw => ⟨_, _, ext_at Tryd.func125 (by kernel_rfl) (by kernel_rfl) (by kernel_rfl) (show Extern.find _ = some (ReflectliteType.abiMethod fun t => do pure (.int .u8 (← Rtype.kind t))) by kernel_rfl) (kindE' w), ⟨rfl, hw⟩, Rest.refl w⟩
theorem kindF' (w : World) : ((ReflectliteType.abiMethod fun t => do pure (.int .u8 (← Rtype.kind t))) #[.pointer (some ⟨1, 175, none⟩)]).run Tryd.prog w = .ok (.int .u8 22) w := by kernel_rfl
theorem xKindF  (h : Heap) : extH Tryd.prog 125 [.pointer (some ⟨1, 175, none⟩)] h fun v h' => v = .int .u8 22 ∧ h' = h := fun w hw => ⟨_, _, ext_at Tryd.func125 (by kernel_rfl) (by kernel_rfl) (by kernel_rfl) (show Extern.find _ = some (ReflectliteType.abiMethod fun t => do pure (.int .u8 (← Rtype.kind t))) by kernel_rfl) (kindF' w), ⟨rfl, hw⟩, Rest.refl w⟩
theorem cmpE' (w : World) : ((ReflectliteType.method fun t => do Extern.Rtype.noPackHeld "Comparable" t; pure (.bool (← typeInfo t).comparable)) #[.agg #[.pointer (some ⟨1, 31, none⟩)]]).run Tryd.prog w = .ok (.bool true) w := by kernel_rfl
theorem xCmpE  (h : Heap) : extH Tryd.prog 136 [.agg #[.pointer (some ⟨1, 31, none⟩)]] h fun v h' => v = .bool true ∧ h' = h := fun w hw => ⟨_, _, ext_at Tryd.func136 (by kernel_rfl) (by kernel_rfl) (by kernel_rfl) (show Extern.find _ = some (ReflectliteType.method fun t => do Extern.Rtype.noPackHeld "Comparable" t; pure (.bool (← typeInfo t).comparable)) by kernel_rfl) (cmpE' w), ⟨rfl, hw⟩, Rest.refl w⟩
theorem elemE' (w : World) : (ReflectliteType.method ReflectliteType.elem #[.agg #[.pointer (some ⟨1, 120, none⟩)]]).run Tryd.prog w = .ok (.iface 183 (.agg #[.pointer (some ⟨1, 31, none⟩)])) w := by kernel_rfl
theorem xElemE  (h : Heap) : extH Tryd.prog 137 [.agg #[.pointer (some ⟨1, 120, none⟩)]] h fun v h' => v = .iface 183 (.agg #[.pointer (some ⟨1, 31, none⟩)]) ∧ h' = h := fun w hw => ⟨_, _, ext_at Tryd.func137 (by kernel_rfl) (by kernel_rfl) (by kernel_rfl) (show Extern.find _ = some (ReflectliteType.method ReflectliteType.elem) by kernel_rfl) (elemE' w), ⟨rfl, hw⟩, Rest.refl w⟩
theorem implE' (w : World) : (ReflectliteType.relation "Implements" ReflectliteType.implements_ #[.agg #[.pointer (some ⟨1, 31, none⟩)], .iface 183 (.agg #[.pointer (some ⟨1, 28, none⟩)])]).run Tryd.prog w = .ok (.bool true) w := by kernel_rfl
theorem xImplE  (h : Heap) : extH Tryd.prog 138 [.agg #[.pointer (some ⟨1, 31, none⟩)], .iface 183 (.agg #[.pointer (some ⟨1, 28, none⟩)])] h fun v h' => v = .bool true ∧ h' = h := fun w hw => ⟨_, _, ext_at Tryd.func138 (by kernel_rfl) (by kernel_rfl) (by kernel_rfl) (show Extern.find _ = some (ReflectliteType.relation "Implements" ReflectliteType.implements_) by kernel_rfl) (implE' w), ⟨rfl, hw⟩, Rest.refl w⟩
theorem asgEE' (w : World) : (ReflectliteType.relation "AssignableTo" ReflectliteType.assignableTo #[.agg #[.pointer (some ⟨1, 31, none⟩)], .iface 183 (.agg #[.pointer (some ⟨1, 31, none⟩)])]).run Tryd.prog w = .ok (.bool true) w := by kernel_rfl
theorem xAsgEE  (h : Heap) : extH Tryd.prog 135 [.agg #[.pointer (some ⟨1, 31, none⟩)], .iface 183 (.agg #[.pointer (some ⟨1, 31, none⟩)])] h fun v h' => v = .bool true ∧ h' = h := fun w hw => ⟨_, _, ext_at Tryd.func135 (by kernel_rfl) (by kernel_rfl) (by kernel_rfl) (show Extern.find _ = some (ReflectliteType.relation "AssignableTo" ReflectliteType.assignableTo) by kernel_rfl) (asgEE' w), ⟨rfl, hw⟩, Rest.refl w⟩
theorem asgFE' (w : World) : (ReflectliteType.relation "AssignableTo" ReflectliteType.assignableTo #[.agg #[.pointer (some ⟨1, 175, none⟩)], .iface 183 (.agg #[.pointer (some ⟨1, 31, none⟩)])]).run Tryd.prog w = .ok (.bool false) w := by kernel_rfl
theorem xAsgFE  (h : Heap) : extH Tryd.prog 135 [.agg #[.pointer (some ⟨1, 175, none⟩)], .iface 183 (.agg #[.pointer (some ⟨1, 31, none⟩)])] h fun v h' => v = .bool false ∧ h' = h := fun w hw => ⟨_, _, ext_at Tryd.func135 (by kernel_rfl) (by kernel_rfl) (by kernel_rfl) (show Extern.find _ = some (ReflectliteType.relation "AssignableTo" ReflectliteType.assignableTo) by kernel_rfl) (asgFE' w), ⟨rfl, hw⟩, Rest.refl w⟩
theorem valPE' (t : Addr) (w : World) : (ReflectliteValue.unpack (.iface 120 (.pointer (some t)))).run Tryd.prog w = .ok (.agg #[.pointer (some ⟨1, 120, none⟩), .pointer (some ⟨w.heap.size, 0, none⟩), .int .u64 150]) (w.alloc (.cells #[.pointer (some t)] 120)) := by kernel_rfl
theorem xValPE (t : Addr) (h : Heap) : extH Tryd.prog 93 [.iface 120 (.pointer (some t))] h fun v h' => v = .agg #[.pointer (some ⟨1, 120, none⟩), .pointer (some ⟨h.size, 0, none⟩), .int .u64 150] ∧ h' = h.push (.cells #[.pointer (some t)] 120) := fun w hw => by
  subst hw; exact ⟨_, _, ext_at Tryd.func93 (by kernel_rfl) (by kernel_rfl) (by kernel_rfl) (show Extern.find _ = some (fun args => ReflectliteValue.unpack (args.getD 0 (.tuple #[]))) by kernel_rfl) (valPE' t w), ⟨rfl, rfl⟩, Rest.alloc w _⟩
theorem valE' (e : Int) (w : World) : (ReflectliteValue.unpack (.iface 31 (.int .i64 e))).run Tryd.prog w = .ok (.agg #[.pointer (some ⟨1, 31, none⟩), .pointer (some ⟨w.heap.size, 0, none⟩), .int .u64 130]) (w.alloc (.cells #[.int .i64 e] 31)) := by kernel_rfl
theorem xValE (e : Int) (h : Heap) : extH Tryd.prog 93 [.iface 31 (.int .i64 e)] h fun v h' => v = .agg #[.pointer (some ⟨1, 31, none⟩), .pointer (some ⟨h.size, 0, none⟩), .int .u64 130] ∧ h' = h.push (.cells #[.int .i64 e] 31) := fun w hw => by
  subst hw; exact ⟨_, _, ext_at Tryd.func93 (by kernel_rfl) (by kernel_rfl) (by kernel_rfl) (show Extern.find _ = some (fun args => ReflectliteValue.unpack (args.getD 0 (.tuple #[]))) by kernel_rfl) (valE' e w), ⟨rfl, rfl⟩, Rest.alloc w _⟩
theorem typePE' (q : Addr) (w : World) : (ReflectliteValue.methodAny (ReflectliteValue.valueError "reflectlite.Value.Type" 0) (fun t _ _ _ => ReflectliteType.toType t) #[.agg #[.pointer (some ⟨1, 120, none⟩), .pointer (some q), .int .u64 150]]).run Tryd.prog w = .ok (.iface 183 (.agg #[.pointer (some ⟨1, 120, none⟩)])) w := by kernel_rfl
theorem xTypePE (q : Addr) (h : Heap) : extH Tryd.prog 94 [.agg #[.pointer (some ⟨1, 120, none⟩), .pointer (some q), .int .u64 150]] h fun v h' => v = .iface 183 (.agg #[.pointer (some ⟨1, 120, none⟩)]) ∧ h' = h := fun w hw => ⟨_, _, ext_at Tryd.func94 (by kernel_rfl) (by kernel_rfl) (by kernel_rfl) (show Extern.find _ = some (ReflectliteValue.methodAny (ReflectliteValue.valueError "reflectlite.Value.Type" 0) (fun t _ _ _ => ReflectliteType.toType t)) by kernel_rfl) (typePE' q w), ⟨rfl, hw⟩, Rest.refl w⟩
theorem partsPE' (a : Addr) (w : World) : (ReflectliteValue.parts (.agg #[.pointer (some ⟨1, 120, none⟩), .pointer (some a), .int .u64 150])).run Tryd.prog w = .ok (some (120, a, 150)) w := by kernel_rfl
theorem isNilPE' (a p : Addr) (W : World) (ha : W.cell? a = some (.pointer (some p))) :
    (ReflectliteValue.method (ReflectliteValue.valueError "reflectlite.Value.IsNil" 0) ReflectliteValue.isNil #[.agg #[.pointer (some ⟨1, 120, none⟩), .pointer (some a), .int .u64 150]]).run Tryd.prog W = .ok (.bool false) W := by
  rw [rlm]
  simp only [Sem.run_bind, partsPE', Result.andThen]
  simp [ReflectliteValue.isNil, loadVar, isAgg, underlying, Tryd.underlying120, ha, Result.andThen]
theorem xIsNilPE (q p : Addr) (h : Heap) (hq : cellH h q = some (.pointer (some p))) : extH Tryd.prog 95 [.agg #[.pointer (some ⟨1, 120, none⟩), .pointer (some q), .int .u64 150]] h fun v h' => v = .bool false ∧ h' = h := fun w hw => ⟨_, _, ext_at Tryd.func95 (by kernel_rfl) (by kernel_rfl) (by kernel_rfl) (show Extern.find _ = some (ReflectliteValue.method (ReflectliteValue.valueError "reflectlite.Value.IsNil" 0) ReflectliteValue.isNil) by kernel_rfl) (isNilPE' q p w (by rw [hw_cell h w hw]; exact hq)), ⟨rfl, hw⟩, Rest.refl w⟩
theorem elemOfPE' (w : World) : (Rtype.elem? 120).run Tryd.prog w = .ok (some 31) w := by kernel_rfl
theorem mkE' (p : Addr) (w : World) : (ReflectliteValue.mk 31 p ReflectliteValue.flagAddr).run Tryd.prog w = .ok (.agg #[.pointer (some ⟨1, 31, none⟩), .pointer (some p), .int .u64 386]) w := by kernel_rfl
theorem elemVPE' (a p : Addr) (W : World) (ha : W.cell? a = some (.pointer (some p))) :
    (ReflectliteValue.method (ReflectliteValue.valueError "reflectlite.Value.Elem" 0) ReflectliteValue.elem #[.agg #[.pointer (some ⟨1, 120, none⟩), .pointer (some a), .int .u64 150]]).run Tryd.prog W = .ok (.agg #[.pointer (some ⟨1, 31, none⟩), .pointer (some p), .int .u64 386]) W := by
  rw [rlm]
  simp only [Sem.run_bind, partsPE', Result.andThen]
  simp [ReflectliteValue.elem, loadVar, isAgg, underlying, Tryd.underlying120, ha, Result.andThen, elemOfPE', mkE']
theorem xElemVPE (q p : Addr) (h : Heap) (hq : cellH h q = some (.pointer (some p))) : extH Tryd.prog 107 [.agg #[.pointer (some ⟨1, 120, none⟩), .pointer (some q), .int .u64 150]] h fun v h' => v = .agg #[.pointer (some ⟨1, 31, none⟩), .pointer (some p), .int .u64 386] ∧ h' = h := fun w hw => ⟨_, _, ext_at Tryd.func107 (by kernel_rfl) (by kernel_rfl) (by kernel_rfl) (show Extern.find _ = some (ReflectliteValue.method (ReflectliteValue.valueError "reflectlite.Value.Elem" 0) ReflectliteValue.elem) by kernel_rfl) (elemVPE' q p w (by rw [hw_cell h w hw]; exact hq)), ⟨rfl, hw⟩, Rest.refl w⟩
theorem partsEa' (a : Addr) (w : World) : (ReflectliteValue.parts (.agg #[.pointer (some ⟨1, 31, none⟩), .pointer (some a), .int .u64 386])).run Tryd.prog w = .ok (some (31, a, 386)) w := by kernel_rfl
theorem partsE' (a : Addr) (w : World) : (ReflectliteValue.parts (.agg #[.pointer (some ⟨1, 31, none⟩), .pointer (some a), .int .u64 130])).run Tryd.prog w = .ok (some (31, a, 130)) w := by kernel_rfl
theorem directE' (w : World) : (Rtype.directlyAssignable 31 31).run Tryd.prog w = .ok true w := by kernel_rfl
theorem setE' (ta b : Addr) (e : Int) (old : Value) (W : World) (hb : W.cell? b = some (.int .i64 e)) (ht : W.cell? ta = some old) (hf : W.frozen? ta = false) :
    (ReflectliteValue.set #[.agg #[.pointer (some ⟨1, 31, none⟩), .pointer (some ta), .int .u64 386], .agg #[.pointer (some ⟨1, 31, none⟩), .pointer (some b), .int .u64 130]]).run Tryd.prog W = .ok (.tuple #[]) (W.setCell ta (.int .i64 e)) := by
  rw [rls]
  simp only [Sem.run_bind, partsEa', partsE', Result.andThen]
  simp [ReflectliteValue.flagAddr, loadVar, isAgg, underlying, Tryd.underlying31, hb, Result.andThen, directE', storeVar, Value.cells, storeCells, Addr.add]
  rw [run_store Tryd.prog W ta _ _ (by rfl)]
  simp [ht, hf]
theorem xSetE (t : Nat) (b : Addr) (e : Int) (old : Value) (Ty : TypeId) (h : Heap) (hb : cellH h b = some (.int .i64 e)) (ht : Blk h t #[old] Ty) : extH Tryd.prog 108 [.agg #[.pointer (some ⟨1, 31, none⟩), .pointer (some ⟨t, 0, none⟩), .int .u64 386], .agg #[.pointer (some ⟨1, 31, none⟩), .pointer (some b), .int .u64 130]] h fun v h' => v = .tuple #[] ∧ Blk h' t #[.int .i64 e] Ty ∧ Only t h h' := fun w hw => by
  subst hw
  refine ⟨_, _, ext_at Tryd.func108 (by kernel_rfl) (by kernel_rfl) (by kernel_rfl) (show Extern.find _ = some (ReflectliteValue.set) by kernel_rfl) (setE' ⟨t, 0, none⟩ b e old w hb (by rw [cellH_eq, cellH_blk ht]; rfl) (by rw [frozenH_eq]; exact frozenH_blk ht)), ⟨rfl, ?_, ?_⟩, Rest.setCell _ _ _⟩
  · rw [setH_eq]; exact setH_blk (o := 0) (.int .i64 e) ht
  · rw [setH_eq]; exact setH_only (o := 0) _
theorem valF' (e : Addr) (w : World) : (ReflectliteValue.unpack (.iface 175 (.pointer (some e)))).run Tryd.prog w = .ok (.agg #[.pointer (some ⟨1, 175, none⟩), .pointer (some ⟨w.heap.size, 0, none⟩), .int .u64 150]) (w.alloc (.cells #[.pointer (some e)] 175)) := by kernel_rfl
theorem xValF (e : Addr) (h : Heap) : extH Tryd.prog 93 [.iface 175 (.pointer (some e))] h fun v h' => v = .agg #[.pointer (some ⟨1, 175, none⟩), .pointer (some ⟨h.size, 0, none⟩), .int .u64 150] ∧ h' = h.push (.cells #[.pointer (some e)] 175) := fun w hw => by
  subst hw; exact ⟨_, _, ext_at Tryd.func93 (by kernel_rfl) (by kernel_rfl) (by kernel_rfl) (show Extern.find _ = some (fun args => ReflectliteValue.unpack (args.getD 0 (.tuple #[]))) by kernel_rfl) (valF' e w), ⟨rfl, rfl⟩, Rest.alloc w _⟩
/-- A chain of faults, the outmost one first, and the code at its end (0: no error at all). -/
def ErrC (h : Heap) : Value → List (ByteArray × Int) → Int → Prop
  | v, [], c => v = errV c
  | v, (op, at_) :: l, c => c ≠ 0 ∧ ∃ b v', v = .iface 175 (.pointer (some ⟨b, 0, none⟩)) ∧ Blk h b #[.string op, .int .i64 at_, v'] 177 ∧ ErrC h v' l c
theorem ErrC.new {h h' : Heap} (n : New h h') : ∀ {v : Value} {l : List (ByteArray × Int)} {c : Int}, ErrC h v l c → ErrC h' v l c
  | _, [], _, e => e
  | _, (_, _) :: _, _, ⟨hc, b, v', e, hb, r⟩ => ⟨hc, b, v', e, hb.new n, r.new n⟩
theorem ErrC.ok {h : Heap} : ∀ {v : Value} {l : List (ByteArray × Int)} {c : Int}, ErrC h v l c → IsIf v ∧ isNilV v = decide (c = 0)
  | _, [], c, e => by subst e; exact ⟨errV_if c, errV_nil c⟩
  | _, (_, _) :: _, c, ⟨hc, b, v', e, _, _⟩ => by subst e; exact ⟨.inr ⟨_, _, rfl⟩, by simp [isNilV, hc]⟩
theorem hasAsE : hasB Tryd.prog 187 31 = some false := by kernel_rfl
theorem hasAsF : hasB Tryd.prog 187 175 = some false := by kernel_rfl
theorem hasUnE : hasB Tryd.prog 190 31 = some false := by kernel_rfl
theorem hasUnF : hasB Tryd.prog 190 175 = some true := by kernel_rfl
theorem hasUlE : hasB Tryd.prog 191 31 = some false := by kernel_rfl
theorem mUnw (p : Addr) (w : World) : (Go.method (Tryd.prog.types.size + Made.depth) 175 (.pointer (some p)) "Unwrap").run Tryd.prog w = .ok (133, .pointer (some p)) w := by kernel_rfl
theorem asI_t {P : Program} {t u : TypeId} {x : Value} {Y N : Prop} (h : hasB P t u = some true) (hY : Y) : asI P t (.iface u x) Y N := by simp only [asI, h]; exact hY
theorem asI_f {P : Program} {t u : TypeId} {x : Value} {Y N : Prop} (h : hasB P t u = some false) (hN : N) : asI P t (.iface u x) Y N := by simp only [asI, h]; exact hN
theorem unwrap_ok (b : Nat) (op : ByteArray) (at_ : Int) (v' : Value) (h : Heap) (hb : Blk h b #[.string op, .int .i64 at_, v'] 177) : CallsH Tryd.prog 133 [.pointer (some ⟨b, 0, none⟩)] h fun v h' => v = v' ∧ h' = h := by
  refine fun_ok hm' Tryd.func133 (by kernel_rfl) (F133_eq _ _ h) ?_
  unfold F133
  exact ld_of (c := .any) v' (by rw [add_mk, cellH_blk hb]; rfl) ⟨rfl, rfl⟩
end Go.Proofs.YtgohecjnjadnpaaDoor.Err
