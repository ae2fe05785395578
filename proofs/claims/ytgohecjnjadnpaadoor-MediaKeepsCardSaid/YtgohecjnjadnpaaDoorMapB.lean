/-
  Maps of numbers by their blocks. Over any program.
-/
import Derived.Test.YtgohecjnjadnpaaDoorHeap
import Derived.MapKept
namespace Go.Pl
variable {α : Type}
/-- What pairs say of a key; a pair that is put. -/
def getP : List (Int × α) → Int → Option α
  | [], _ => none
  | q :: r, k => if q.1 = k then some q.2 else getP r k
def putP : List (Int × α) → Int → α → List (Int × α)
  | [], k, x => [(k, x)]
  | q :: r, k, x => if q.1 = k then (k, x) :: r else q :: putP r k x
theorem getP_put (k j : Int) (x : α) : ∀ m : List (Int × α), getP (putP m k x) j = if k = j then some x else getP m j
  | [] => rfl
  | q :: r => by
    unfold putP
    by_cases h : q.1 = k
    · rw [if_pos h]
      show (if k = j then some x else getP r j) = if k = j then some x else if q.1 = j then some q.2 else getP r j
      by_cases hj : k = j
      · rw [if_pos hj, if_pos hj]
      · rw [if_neg hj, if_neg hj, if_neg (by rw [h]; exact hj)]
    · rw [if_neg h]
      show (if q.1 = j then some q.2 else getP (putP r k x) j) = if k = j then some x else if q.1 = j then some q.2 else getP r j
      rw [getP_put k j x r]
      by_cases hj : q.1 = j
      · rw [if_pos hj, if_neg (fun e => h (by rw [hj, e])), if_pos hj]
      · rw [if_neg hj, if_neg hj]
/-- A block is a map of numbers. -/
def pairs (es : List MapEntry) : List (Value × Value) := es.map fun e => (e.key, e.val)
def MapB (h : Heap) (b : Nat) (kk : IntKind) (f : α → Value) (m : List (Int × α)) : Prop :=
  ∃ es clock, h[b]? = some (.map es clock) ∧ pairs es.toList = m.map fun q => (Value.int kk q.1, f q.2)
theorem MapB.lt {h : Heap} {b : Nat} {kk : IntKind} {f : α → Value} {m : List (Int × α)} (r : MapB h b kk f m) : b < h.size := by
  obtain ⟨es, clock, hb, _⟩ := r; exact (Array.getElem?_eq_some_iff.1 hb).1
theorem MapB.same {h h' : Heap} {b : Nat} {kk : IntKind} {f : α → Value} {m : List (Int × α)} (r : MapB h b kk f m) (e : h'[b]? = h[b]?) : MapB h' b kk f m := by
  obtain ⟨es, clock, hb, hm⟩ := r; exact ⟨es, clock, e.trans hb, hm⟩
theorem MapB.new {h h' : Heap} {b : Nat} {kk : IntKind} {f : α → Value} {m : List (Int × α)} (r : MapB h b kk f m) (n : New h h') : MapB h' b kk f m := r.same (n.same b r.lt)
theorem MapB.only {h h' : Heap} {b c : Nat} {kk : IntKind} {f : α → Value} {m : List (Int × α)} (r : MapB h b kk f m) (n : Only c h h') (hne : b ≠ c) : MapB h' b kk f m := r.same (n.same b hne)
theorem findNow_pairs (kk : IntKind) (f : α → Value) (k : Int) : ∀ (m : List (Int × α)) (es : List MapEntry) (i : Nat), pairs es = m.map (fun q => (Value.int kk q.1, f q.2)) →
    (Instr.findNow (.int kk) (.int kk k) es i = some none ∧ getP m k = none ∧ ∀ x, putP m k x = m ++ [(k, x)]) ∨
    ∃ j y, Instr.findNow (.int kk) (.int kk k) es i = some (some (i + j, f y)) ∧ getP m k = some y ∧ (∃ e, es[j]? = some e ∧ e.key = .int kk k) ∧
      ∀ x, pairs (es.modify j fun e => { e with key := .int kk k, val := f x }) = (putP m k x).map fun q => (Value.int kk q.1, f q.2)
  | [], [], _, _ => .inl ⟨rfl, rfl, fun _ => rfl⟩
  | [], _ :: _, _, h => by simp [pairs] at h
  | _ :: _, [], _, h => by simp [pairs] at h
  | q :: m, e :: es, i, h => by
    have h0 : (e.key, e.val) = (Value.int kk q.1, f q.2) ∧ pairs es = m.map fun q => (Value.int kk q.1, f q.2) := by simpa [pairs] using h
    obtain ⟨h1, h2⟩ := h0
    have hk : e.key = .int kk q.1 := congrArg Prod.fst h1
    have hv : e.val = f q.2 := congrArg Prod.snd h1
    have hs : Instr.sameNow (.int kk) (.int kk k) e.key = some (k == q.1) := by rw [hk]; simp [Instr.sameNow]
    by_cases hq : q.1 = k
    · refine .inr ⟨0, q.2, ?_, ?_, ⟨e, rfl, by rw [hk, hq]⟩, fun x => ?_⟩
      · unfold Instr.findNow
        rw [hs, show (k == q.1) = true by simp [hq], hv]; rfl
      · exact if_pos hq
      · unfold putP
        rw [if_pos hq]
        show pairs ({ e with key := .int kk k, val := f x } :: es) = _
        have : pairs ({ e with key := .int kk k, val := f x } :: es) = (Value.int kk k, f x) :: pairs es := rfl
        rw [this, h2]; rfl
    · have hf : Instr.findNow (.int kk) (.int kk k) (e :: es) i = Instr.findNow (.int kk) (.int kk k) es (i + 1) := by
        show (match Instr.sameNow (.int kk) (.int kk k) e.key with | some true => some (some (i, e.val)) | some false => Instr.findNow (.int kk) (.int kk k) es (i + 1) | none => none) = _
        rw [hs, show (k == q.1) = false by simpa using fun e => hq e.symm]
      rw [hf]
      have hg : getP (q :: m) k = getP m k := if_neg hq
      have hp : ∀ x, putP (q :: m) k x = q :: putP m k x := fun x => if_neg hq
      rcases findNow_pairs kk f k m es (i + 1) h2 with ⟨a1, a2, a3⟩ | ⟨j, y, a1, a2, ⟨e', a3, a4⟩, a5⟩
      · exact .inl ⟨a1, by rw [hg]; exact a2, fun x => by rw [hp, a3]; rfl⟩
      · refine .inr ⟨j + 1, y, by rw [a1, show i + 1 + j = i + (j + 1) by omega], by rw [hg]; exact a2, ⟨e', a3, a4⟩, fun x => ?_⟩
        rw [hp]
        show pairs (e :: es.modify j fun e => { e with key := .int kk k, val := f x }) = _
        have : pairs (e :: es.modify j fun e => { e with key := .int kk k, val := f x }) = (e.key, e.val) :: pairs (es.modify j fun e => { e with key := .int kk k, val := f x }) := rfl
        rw [this, a5, h1]; rfl
variable {P : Program}
theorem mkm_of {t : TypeId} {kk : IntKind} {f : α → Value} {F : Option Nat → Heap → Prop} {h : Heap} (hF : ∀ h', MapB h' h.size kk f [] → New h h' → h'.size = h.size + 1 → F (some h.size) h') : mkmW P t F h := by
  rintro w rfl
  refine ⟨some w.heap.size, w.alloc (.map #[] 0), rfl, hF _ ⟨#[], 0, (MapKept.heap_alloc w _).1, rfl⟩ (New.push _ _) ?_, Rest.alloc _ _⟩
  show (w.heap.push _).size = _
  simp
theorem run_checkInt {kt : TypeId} {kk : IntKind} {k : Int} (hk : P.underlying kt = some (.int kk)) (e : Bool) (w : World) : (Instr.checkKey e 10000 kt (.int kk k)).run P w = .ok () w :=
  MapKept.run_checkKey (k := .int kk k) hk (by simp [MapKept.IsKey]) e 9999
theorem lk_of {t kt e : TypeId} {b : Nat} {kk : IntKind} {k : Int} {f : α → Value} {m : List (Int × α)} {zv : Value} {T : Ty} {F : T.T → Prop} {h : Heap} (hu : P.underlying t = some (.map kt e)) (hk : P.underlying kt = some (.int kk))
    (hz : ∀ w, (zeroValue e).run P w = .ok zv w) (r : MapB h b kk f m) (x : T.T) (hx : T.val x = match getP m k with | some y => f y | none => zv) (hF : F x) : lkW P t T (.map (some b)) (.int kk k) F h := by
  rintro w rfl
  refine ⟨x, ?_, hF⟩
  obtain ⟨es, clock, hb, hm⟩ := r
  rw [hx]
  rcases findNow_pairs kk f k m es.toList 0 hm with ⟨a1, a2, _⟩ | ⟨j, y, a1, a2, _⟩
  · have hf := MapKept.run_findKey (w := w) hk a1
    rw [a2]
    simp [Instr.lookup, run_underlying' hu, MapKept.run_getObj_map hb, run_checkInt hk, hf, hz, Result.andThen]
  · have hf := MapKept.run_findKey (w := w) hk a1
    rw [a2]
    simp [Instr.lookup, run_underlying' hu, MapKept.run_getObj_map hb, run_checkInt hk, hf, Result.andThen]
theorem stays_int (kk : IntKind) (k : Int) (w : World) : (Instr.keyThatStays (.int kk k) (.int kk k)).run P w = .ok (.int kk k) w := by
  have : Instr.sameBits 10000 (.int kk k) (.int kk k) = true := by simp [Instr.sameBits]
  simp [Instr.keyThatStays, this]
theorem rest_map {w : World} {b : Nat} {es : Array MapEntry} {c : Nat} (hb : w.heap[b]? = some (.map es c)) (o : Obj) : Rest w { w with heap := w.heap.setIfInBounds b o } := by
  refine ⟨rfl, rfl, rfl, by simp, fun i x hi hp => ?_⟩
  by_cases e : i = b
  · subst e
    rw [hb] at hi
    injection hi with hi
    subst hi
    cases hp
  · show (w.heap.setIfInBounds b o)[i]? = some x
    rw [Array.getElem?_setIfInBounds_ne (fun e2 => e e2.symm)]; exact hi
theorem mu_of {t kt e : TypeId} {b : Nat} {kk : IntKind} {k : Int} {f : α → Value} {m : List (Int × α)} (x : α) {F : Heap → Prop} {h : Heap} (hu : P.underlying t = some (.map kt e)) (hk : P.underlying kt = some (.int kk))
    (r : MapB h b kk f m) (hF : ∀ h', MapB h' b kk f (putP m k x) → Only b h h' → F h') : muW P t (.map (some b)) (.int kk k) (f x) F h := by
  rintro w rfl
  obtain ⟨es, clock, hb, hm⟩ := r
  have hlt : b < w.heap.size := (Array.getElem?_eq_some_iff.1 hb).1
  have hon : ∀ o, Only b w.heap (w.heap.setIfInBounds b o) := fun o => ⟨by simp, fun i hi => Array.getElem?_setIfInBounds_ne (Ne.symm hi)⟩
  have hat : ∀ o, (w.heap.setIfInBounds b o)[b]? = some o := fun o => by simp [hlt]
  rcases findNow_pairs kk f k m es.toList 0 hm with ⟨a1, a2, a3⟩ | ⟨j, y, a1, a2, ⟨e', a3, a4⟩, a5⟩
  · have hf := MapKept.run_findKey (w := w) hk a1
    refine ⟨{ w with heap := w.heap.setIfInBounds b (.map (es.push { key := .int kk k, val := f x, born := clock }) (clock + 1)) }, ?_, hF _ ⟨_, _, hat _, ?_⟩ (hon _), rest_map hb _⟩
    · simp [Instr.mapUpdate, run_underlying' hu, MapKept.run_getObj_map hb, run_checkInt hk, hf, MapKept.run_setObj_map _ hb, Result.andThen]
    · rw [a3, List.map_append, ← hm]; simp [pairs]
  · have hf := MapKept.run_findKey (w := w) hk a1
    have hj : es[j]? = some e' := by rw [← Array.getElem?_toList]; exact a3
    have hst := stays_int (P := P) kk k w
    refine ⟨{ w with heap := w.heap.setIfInBounds b (.map (es.modify j fun e => { e with key := .int kk k, val := f x }) clock) }, ?_, hF _ ⟨_, _, hat _, ?_⟩ (hon _), rest_map hb _⟩
    · simp [Instr.mapUpdate, run_underlying' hu, MapKept.run_getObj_map hb, run_checkInt hk, hf, hj, a4, hst, MapKept.run_setObj_map _ hb, Result.andThen]
    · rw [Array.toList_modify]; exact a5 x
end Go.Pl
