/-
  errors.As at a nil error and at an error of kind api.Errno, target a variable of that kind; fault.Code of both. The walk is turned from the guide's worked text on errors.As. The package's variable errorType must read as the program lays it.
-/
import Derived.Test.YtgohecjnjadnpaaDoorHeap
import Derived.Test.YtgohecjnjadnpaaDoorWCode
import Derived.LaidEql
import Derived.Stop.Asserts
import Derived.RowKitTokens
namespace Go.Proofs.YtgohecjnjadnpaaDoor.As
open Go.RowKit Go.Extern.Stop Go.Stop Go.Extern Go.Pl Go.Proofs.YtgohecjnjadnpaaDoor.W
/-- errors.errorType reads as laid. -/
def Laid (h : Heap) : Prop := cellH h ⟨0, 0, none⟩ = some (.iface 183 (.agg #[.pointer (some ⟨1, 28, none⟩)]))
theorem Laid.lt {h : Heap} (l : Laid h) : 0 < h.size := World.block_lt_of_cell? (hw h) _ l
theorem Laid.new {h h' : Heap} (l : Laid h) (n : New h h') : Laid h' := by
  have k := l.lt
  unfold Laid at l ⊢
  rw [← l]
  exact World.cell?_of_block (w := hw h) (w' := hw h') (n.same _ k)
theorem Laid.upd {h h' : Heap} {b : Nat} (l : Laid h) (n : Upd b h h') (hb : 0 ≠ b) : Laid h' := by
  have k := l.lt
  unfold Laid at l ⊢
  rw [← l]
  exact World.cell?_of_block (w := hw h) (w' := hw h') (n.same _ k hb)
theorem hm' : Tryd.prog.follows .mixedOrders = true := by kernel_rfl
theorem as_nil0 (t : Value) (w : World) : Calls Tryd.prog 62 #[.nilIface, t] w fun e w' => e = .returned (.bool false) ∧ w' = w := by
  go_enter Tryd.func62, Tryd.ntmps62
  go_wp2
  go_ret
  exact ⟨rfl, rfl⟩
theorem valueOfP (t : Addr) (w : World) : (ReflectliteValue.unpack (.iface 120 (.pointer (some t)))).run Tryd.prog w
    = .ok (.agg #[.pointer (some ⟨1, 120, none⟩), .pointer (some ⟨w.heap.size, 0, none⟩), .int .u64 150]) (w.alloc (.cells #[.pointer (some t)] 120)) := by kernel_rfl
theorem typeP (a : Addr) (w : World) : (ReflectliteValue.methodAny (ReflectliteValue.valueError "reflectlite.Value.Type" 0) (fun t _ _ _ => ReflectliteType.toType t) #[.agg #[.pointer (some ⟨1, 120, none⟩), .pointer (some a), .int .u64 150]]).run Tryd.prog w
    = .ok (.iface 183 (.agg #[.pointer (some ⟨1, 120, none⟩)])) w := by kernel_rfl
theorem methodKind (h : Value) (w : World) : (Go.method 325 183 (.agg #[h]) "Kind").run Tryd.prog w = .ok (125, h) w := by kernel_rfl
theorem kindP (w : World) : ((ReflectliteType.abiMethod fun t => (fun a : Nat => Value.int IntKind.u8 (a : Int)) <$> Rtype.kind t) #[.pointer (some ⟨1, 120, none⟩)]).run Tryd.prog w = .ok (.int .u8 22) w := by kernel_rfl
theorem kindE (w : World) : ((ReflectliteType.abiMethod fun t => (fun a : Nat => Value.int IntKind.u8 (a : Int)) <$> Rtype.kind t) #[.pointer (some ⟨1, 31, none⟩)]).run Tryd.prog w = .ok (.int .u8 2) w := by kernel_rfl
theorem rlm (z : Sem Value) (f : TypeId → Addr → Nat → Nat → Sem Value) (v : Value) :
    ReflectliteValue.method z f #[v] = (do match ← ReflectliteValue.parts v with | none => z | some (t, a, fl) => f t a fl (fl % 32)) := rfl
theorem partsP (a : Addr) (w : World) : (ReflectliteValue.parts (.agg #[.pointer (some ⟨1, 120, none⟩), .pointer (some a), .int .u64 150])).run Tryd.prog w = .ok (some (120, a, 150)) w := by kernel_rfl
theorem isNilP (a p : Addr) (W : World) (ha : W.cell? a = some (.pointer (some p))) :
    (ReflectliteValue.method (ReflectliteValue.valueError "reflectlite.Value.IsNil" 0) ReflectliteValue.isNil #[.agg #[.pointer (some ⟨1, 120, none⟩), .pointer (some a), .int .u64 150]]).run Tryd.prog W = .ok (.bool false) W := by
  rw [rlm]
  simp only [Sem.run_bind, partsP, Result.andThen]
  simp [ReflectliteValue.isNil, loadVar, isAgg, underlying, Tryd.underlying120, ha, Result.andThen]
theorem methodElem (h : Value) (w : World) : (Go.method 325 183 (.agg #[h]) "Elem").run Tryd.prog w = .ok (137, .agg #[h]) w := by kernel_rfl
theorem methodImplements (h : Value) (w : World) : (Go.method 325 183 (.agg #[h]) "Implements").run Tryd.prog w = .ok (138, .agg #[h]) w := by kernel_rfl
theorem methodAssignableTo (h : Value) (w : World) : (Go.method 325 183 (.agg #[h]) "AssignableTo").run Tryd.prog w = .ok (135, .agg #[h]) w := by kernel_rfl
theorem elemP (w : World) : (ReflectliteType.method ReflectliteType.elem #[.agg #[.pointer (some ⟨1, 120, none⟩)]]).run Tryd.prog w = .ok (.iface 183 (.agg #[.pointer (some ⟨1, 31, none⟩)])) w := by kernel_rfl
theorem implementsE (w : World) : (ReflectliteType.relation "Implements" ReflectliteType.implements_ #[.agg #[.pointer (some ⟨1, 31, none⟩)], .iface 183 (.agg #[.pointer (some ⟨1, 28, none⟩)])]).run Tryd.prog w = .ok (.bool true) w := by kernel_rfl
theorem typeOfE (v : Value) (w : World) : (ReflectliteType.typeOf #[.iface 31 v]).run Tryd.prog w = .ok (.iface 183 (.agg #[.pointer (some ⟨1, 31, none⟩)])) w := by kernel_rfl
theorem assignableE (w : World) : (ReflectliteType.relation "AssignableTo" ReflectliteType.assignableTo #[.agg #[.pointer (some ⟨1, 31, none⟩)], .iface 183 (.agg #[.pointer (some ⟨1, 31, none⟩)])]).run Tryd.prog w = .ok (.bool true) w := by kernel_rfl
theorem valueOfE (e : Int) (w : World) : (ReflectliteValue.unpack (.iface 31 (.int .i64 e))).run Tryd.prog w
    = .ok (.agg #[.pointer (some ⟨1, 31, none⟩), .pointer (some ⟨w.heap.size, 0, none⟩), .int .u64 130]) (w.alloc (.cells #[.int .i64 e] 31)) := by kernel_rfl
theorem elemOfP (w : World) : (Rtype.elem? 120).run Tryd.prog w = .ok (some 31) w := by kernel_rfl
theorem mkE (p : Addr) (w : World) : (ReflectliteValue.mk 31 p ReflectliteValue.flagAddr).run Tryd.prog w = .ok (.agg #[.pointer (some ⟨1, 31, none⟩), .pointer (some p), .int .u64 386]) w := by kernel_rfl
theorem elemVP (a p : Addr) (W : World) (ha : W.cell? a = some (.pointer (some p))) :
    (ReflectliteValue.method (ReflectliteValue.valueError "reflectlite.Value.Elem" 0) ReflectliteValue.elem #[.agg #[.pointer (some ⟨1, 120, none⟩), .pointer (some a), .int .u64 150]]).run Tryd.prog W
      = .ok (.agg #[.pointer (some ⟨1, 31, none⟩), .pointer (some p), .int .u64 386]) W := by
  rw [rlm]
  simp only [Sem.run_bind, partsP, Result.andThen]
  simp [ReflectliteValue.elem, loadVar, isAgg, underlying, Tryd.underlying120, ha, Result.andThen, elemOfP, mkE]
theorem rls (v x : Value) : ReflectliteValue.set #[v, x] = (do
    let (some (dst, a, fl), some (src, b, _)) := (← ReflectliteValue.parts v, ← ReflectliteValue.parts x)
      | unsupported (.noEntry "extern/(internal/reflectlite.Value).Set.zeroValue")
    if fl / ReflectliteValue.flagAddr % 2 == 0 then unsupported (.noEntry "extern/(internal/reflectlite.Value).Set.unaddressable")
    let val ← loadVar src b
    if ← Rtype.directlyAssignable dst src then storeVar dst a val
    else if ← Rtype.implements dst src then
      if (← Rtype.kind src) == 20 then
        match val with
        | .nilIface => unsupported (.noEntry "extern/reflectlite: a nil value of one interface type handed on as a value of another")
        | _ => storeVar dst a val
      else storeVar dst a (.iface src val)
    else panicString ("reflectlite.Set: value of type " ++ (← Rtype.spelt src) ++ " is not assignable to type " ++ (← Rtype.spelt dst))
    pure (.tuple #[])) := rfl
theorem partsEa (a : Addr) (w : World) : (ReflectliteValue.parts (.agg #[.pointer (some ⟨1, 31, none⟩), .pointer (some a), .int .u64 386])).run Tryd.prog w = .ok (some (31, a, 386)) w := by kernel_rfl
theorem partsE (a : Addr) (w : World) : (ReflectliteValue.parts (.agg #[.pointer (some ⟨1, 31, none⟩), .pointer (some a), .int .u64 130])).run Tryd.prog w = .ok (some (31, a, 130)) w := by kernel_rfl
theorem directE (w : World) : (Rtype.directlyAssignable 31 31).run Tryd.prog w = .ok true w := by kernel_rfl
theorem setE (ta b : Addr) (e : Int) (old : Value) (W : World) (hb : W.cell? b = some (.int .i64 e)) (ht : W.cell? ta = some old) (hf : W.frozen? ta = false) :
    (ReflectliteValue.set #[.agg #[.pointer (some ⟨1, 31, none⟩), .pointer (some ta), .int .u64 386], .agg #[.pointer (some ⟨1, 31, none⟩), .pointer (some b), .int .u64 130]]).run Tryd.prog W
      = .ok (.tuple #[]) (W.setCell ta (.int .i64 e)) := by
  rw [rls]
  simp only [Sem.run_bind, partsEa, partsE, Result.andThen]
  simp [ReflectliteValue.flagAddr, loadVar, isAgg, underlying, Tryd.underlying31, hb, Result.andThen, directE, storeVar, Value.cells, storeCells, Addr.add]
  rw [run_store Tryd.prog W ta _ _ (by rfl)]
  simp [ht, hf]
set_option maxHeartbeats 4000000 in
theorem as_hit0 (e : Int) (t : Addr) (old : Value) (w : World) (hg : w.cell? ⟨0, 0, none⟩ = some (.iface 183 (.agg #[.pointer (some ⟨1, 28, none⟩)]))) (ht0 : w.cell? t = some old) (hf0 : w.frozen? t = false) :
    Calls Tryd.prog 62 #[.iface 31 (.int .i64 e), .iface 120 (.pointer (some t))] w fun ev w' => ev = .returned (.bool true) ∧ w' = ((((w.alloc (.cells #[.pointer (some t)] 120)).alloc (.cells #[.pointer (some ⟨1, 120, none⟩), .pointer (some ⟨w.heap.size, 0, none⟩), .int .u64 150] 163)).alloc (.cells #[.pointer (some ⟨1, 120, none⟩), .pointer (some ⟨w.heap.size, 0, none⟩), .int .u64 150] 163)).alloc (.cells #[.int .i64 e] 31)).setCell t (.int .i64 e) := by
  have h6 := @run_callFunc_extern Tryd.prog 93 _ (fun args => ReflectliteValue.unpack (args.getD 0 (.tuple #[]))) Tryd.func93 (by kernel_rfl) (by kernel_rfl) (by kernel_rfl) (by kernel_rfl)
  have h7 := @run_callFunc_extern Tryd.prog 94 _ (ReflectliteValue.methodAny (ReflectliteValue.valueError "reflectlite.Value.Type" 0) (fun t _ _ _ => ReflectliteType.toType t)) Tryd.func94 (by kernel_rfl) (by kernel_rfl) (by kernel_rfl) (by kernel_rfl)
  have h8 := @run_callFunc_extern Tryd.prog 95 _ (ReflectliteValue.method (ReflectliteValue.valueError "reflectlite.Value.IsNil" 0) ReflectliteValue.isNil) Tryd.func95 (by kernel_rfl) (by kernel_rfl) (by kernel_rfl) (by kernel_rfl)
  have h27 := @run_callFunc_extern Tryd.prog 125 _ (ReflectliteType.abiMethod fun t => do pure (.int .u8 (← Rtype.kind t))) Tryd.func125 (by kernel_rfl) (by kernel_rfl) (by kernel_rfl) (by kernel_rfl)
  have h37 := @run_callFunc_extern Tryd.prog 137 _ (ReflectliteType.method ReflectliteType.elem) Tryd.func137 (by kernel_rfl) (by kernel_rfl) (by kernel_rfl) (by kernel_rfl)
  have h38 := @run_callFunc_extern Tryd.prog 138 _ (ReflectliteType.relation "Implements" ReflectliteType.implements_) Tryd.func138 (by kernel_rfl) (by kernel_rfl) (by kernel_rfl) (by kernel_rfl)
  have h10 := @run_callFunc_extern Tryd.prog 105 _ ReflectliteType.typeOf Tryd.func105 (by kernel_rfl) (by kernel_rfl) (by kernel_rfl) (by kernel_rfl)
  have h35 := @run_callFunc_extern Tryd.prog 135 _ (ReflectliteType.relation "AssignableTo" ReflectliteType.assignableTo) Tryd.func135 (by kernel_rfl) (by kernel_rfl) (by kernel_rfl) (by kernel_rfl)
  have h11 := @run_callFunc_extern Tryd.prog 107 _ (ReflectliteValue.method (ReflectliteValue.valueError "reflectlite.Value.Elem" 0) ReflectliteValue.elem) Tryd.func107 (by kernel_rfl) (by kernel_rfl) (by kernel_rfl) (by kernel_rfl)
  have h12 := @run_callFunc_extern Tryd.prog 108 _ ReflectliteValue.set Tryd.func108 (by kernel_rfl) (by kernel_rfl) (by kernel_rfl) (by kernel_rfl)
  have tO := typeOfE
  have mA := methodAssignableTo
  have a25 := assignableE
  have v25 := valueOfE
  have f6 := valueOfP
  have f7 := typeP
  have mK := methodKind
  have mE := methodElem
  have mI := methodImplements
  have k27 := kindP
  have k25 := kindE
  have e27 := elemP
  have i25 := implementsE
  have n8 := isNilP ⟨w.heap.size, 0, none⟩ t ((w.alloc (.cells #[.pointer (some t)] 120)).alloc (.cells #[.pointer (some ⟨1, 120, none⟩), .pointer (some ⟨w.heap.size, 0, none⟩), .int .u64 150] 163)) (by simp)
  have hlt : 0 < w.heap.size := World.block_lt_of_cell? w _ hg
  have hg2 : ((w.alloc (.cells #[.pointer (some t)] 120)).alloc (.cells #[.pointer (some ⟨1, 120, none⟩), .pointer (some ⟨w.heap.size, 0, none⟩), .int .u64 150] 163)).cell? ⟨0, 0, none⟩ = some (.iface 183 (.agg #[.pointer (some ⟨1, 28, none⟩)])) := by
    rw [World.cell?_alloc_lt _ _ ⟨0, 0, none⟩ (by simp <;> omega), World.cell?_alloc_lt _ _ ⟨0, 0, none⟩ hlt]; exact hg
  have htl : t.block < w.heap.size := World.block_lt_of_cell? w _ ht0
  have el := elemVP ⟨w.heap.size, 0, none⟩ t (((w.alloc (.cells #[.pointer (some t)] 120)).alloc (.cells #[.pointer (some ⟨1, 120, none⟩), .pointer (some ⟨w.heap.size, 0, none⟩), .int .u64 150] 163)).alloc (.cells #[.pointer (some ⟨1, 120, none⟩), .pointer (some ⟨w.heap.size, 0, none⟩), .int .u64 150] 163)) (by rw [World.cell?_alloc_lt _ _ ⟨w.heap.size, 0, none⟩ (by simp; omega)]; simp)
  have st := setE t ⟨w.heap.size + 1 + 1 + 1, 0, none⟩ e old ((((w.alloc (.cells #[.pointer (some t)] 120)).alloc (.cells #[.pointer (some ⟨1, 120, none⟩), .pointer (some ⟨w.heap.size, 0, none⟩), .int .u64 150] 163)).alloc (.cells #[.pointer (some ⟨1, 120, none⟩), .pointer (some ⟨w.heap.size, 0, none⟩), .int .u64 150] 163)).alloc (.cells #[.int .i64 e] 31))
    (by rw [World.cell?_alloc_at _ _ _ _ (by simp)]; rfl)
    (by rw [World.cell?_alloc_lt _ _ t (by simp; omega), World.cell?_alloc_lt _ _ t (by simp; omega), World.cell?_alloc_lt _ _ t (by simp; omega), World.cell?_alloc_lt _ _ t htl]; exact ht0)
    (by rw [World.frozen?_alloc_old _ _ t (by simp; omega), World.frozen?_alloc_old _ _ t (by simp; omega), World.frozen?_alloc_old _ _ t (by simp; omega), World.frozen?_alloc_old _ _ t (Nat.ne_of_lt htl)]; exact hf0)
  go_enter Tryd.func62, Tryd.ntmps62
  go_wp2
  refine wp_loop_rounds 1 ?_
  rw [rounds_succ]
  go_wp2
  go_ret
  exact ⟨rfl, rfl⟩
theorem callOk : CallOk Tryd.prog 62 := ⟨_, Tryd.func62, by kernel_rfl, by kernel_rfl⟩
theorem as_nil (t : Value) (h : Heap) : CallsH Tryd.prog 62 [.nilIface, t] h fun v h' => v = .bool false ∧ h' = h :=
  ⟨callOk, fun w hh => (as_nil0 t w).mono fun e w' ⟨he, hw⟩ => ⟨_, he, ⟨rfl, by rw [hw, hh]⟩, by rw [hw]; exact Rest.refl w⟩⟩
theorem as_hit (e : Int) (t : Nat) (old : Value) (T : TypeId) (h : Heap) (hg : Laid h) (ht : Blk h t #[old] T) :
    CallsH Tryd.prog 62 [.iface 31 (.int .i64 e), .iface 120 (.pointer (some ⟨t, 0, none⟩))] h fun v h' => v = .bool true ∧ Blk h' t #[.int .i64 e] T ∧ Upd t h h' := by
  refine ⟨callOk, fun w hh => ?_⟩
  subst hh
  refine (as_hit0 e ⟨t, 0, none⟩ old w hg (by rw [cellH_eq, cellH_blk ht]; rfl) (by rw [frozenH_eq]; exact frozenH_blk ht)).mono ?_
  rintro ev w' ⟨rfl, rfl⟩
  refine ⟨_, rfl, ⟨rfl, ?_, ?_⟩, ?_⟩
  · rw [setH_eq]
    have hb : Blk ((((w.heap.push (.cells #[.pointer (some ⟨t, 0, none⟩)] 120)).push (.cells #[.pointer (some ⟨1, 120, none⟩), .pointer (some ⟨w.heap.size, 0, none⟩), .int .u64 150] 163)).push (.cells #[.pointer (some ⟨1, 120, none⟩), .pointer (some ⟨w.heap.size, 0, none⟩), .int .u64 150] 163)).push (.cells #[.int .i64 e] 31)) t #[old] T :=
      (((ht.new (New.push _ _)).new (New.push _ _)).new (New.push _ _)).new (New.push _ _)
    exact setH_blk (o := 0) (.int .i64 e) hb
  · exact (((((New.push w.heap _).trans (New.push _ _)).trans (New.push _ _)).trans (New.push _ _)).upd).trans (setH_only (o := 0) _).upd
  · exact ((((Rest.alloc w _).trans (Rest.alloc _ _)).trans (Rest.alloc _ _)).trans (Rest.alloc _ _)).trans (Rest.setCell _ _ _)
/-- What a plain error is: none, or a code. -/
def errV (c : Int) : Value := if c = 0 then .nilIface else .iface 31 (.int .i64 c)
theorem errV_ok : errV 0 = .nilIface := rfl
theorem errV_ne {c : Int} (h : c ≠ 0) : errV c = .iface 31 (.int .i64 c) := if_neg h
theorem errV_if (c : Int) : IsIf (errV c) := by unfold errV; split <;> first | exact .inl rfl | exact .inr ⟨_, _, rfl⟩
theorem errV_nil (c : Int) : isNilV (errV c) = decide (c = 0) := by unfold errV; split <;> simp_all [isNilV]
theorem zeroE : zeroC Tryd.prog 31 = #[.int .i64 0] := by kernel_rfl
theorem code_err (c : Int) (h : Heap) (hg : Laid h) : CallsH Tryd.prog 20 [errV c] h fun v h' => v = .int .i64 c ∧ New h h' := by
  refine fun_ok hm' Tryd.func20 (by kernel_rfl) (F20_eq _ _ h) ?_
  unfold F20
  rw [zeroE]
  refine new_of fun h1 b1 n1 s1 => ?_
  by_cases hc : c = 0
  · subst hc
    refine call_of (as_nil _ h1) ?_
    rintro v h' ⟨rfl, hh⟩
    subst h'
    exact ⟨false, rfl, br_f rfl ⟨rfl, n1⟩⟩
  · rw [errV_ne hc]
    refine call_of (as_hit c h.size _ _ h1 (hg.new n1) b1) ?_
    rintro v h2 ⟨rfl, b2, u2⟩
    exact ⟨true, rfl, br_t rfl (ld_of (c := .int .i64) c (by rw [cellH_blk b2]; rfl) ⟨rfl, u2.new n1 (Nat.le_refl _)⟩)⟩
end Go.Proofs.YtgohecjnjadnpaaDoor.As
