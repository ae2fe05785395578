/-
  From a contract to a row: small laws over any program.
-/
import Derived.Test.YtgohecjnjadnpaaDoorHeap
import Derived.ProofKit
import Derived.OpenShut
import Derived.Deep.Slices
import Derived.Deep.Fields
import Derived.Below
namespace Go.Pl
open Go.RowKit Go.WideShapes Go.ChangeShapes Go.Deep
/-- From a law's contract to what its row asks. -/
theorem row_of {P : Program} {f : FuncId} {args : List Value} {W : World} (hc : CallsH P f args W.heap fun v h' => v = .bool true ∧ New W.heap h') :
    Calls P f args.toArray W fun e W' => e = .returned (.bool true) ∧ Below W.heap.size W W' :=
  (hc.2 W rfl).mono fun _ _ ⟨_, he, ⟨hv, hn⟩, hr⟩ => ⟨by rw [he, hv], ⟨hr.os, hr.tape, hr.output, hn.size, hn.same⟩⟩
theorem list_of {α : Type} {l m : List α} (h : l.length = m.length) (hg : ∀ j, j < m.length → l[j]? = m[j]?) : l = m := by
  apply List.ext_getElem?
  intro j
  by_cases hj : j < m.length
  · exact hg j hj
  · rw [List.getElem?_eq_none (by omega), List.getElem?_eq_none (by omega)]
section
variable {H : Type} {enc : TypeId × Value → H} {P : Program} {W : World} {base : Nat} {spare : Nat → Bool} {held : Bool}
/-- The elements of a slice of structs of one-cell fields, cell by cell. -/
theorem slice_cells {t e : TypeId} {fs : Array Field} {a : Option Addr} {len cap : Nat} {d : DataW H} {p : List MemPlace} (ht : P.underlying t = some (.slice e)) (he : P.underlying e = some (.struct fs))
    (hone : oneCellFields P fs = true) (hC : P.cellsOf e = fs.size) (hT : DataW.Trod enc P W base spare held t (.slice a len cap) d p) :
    ∀ i, i < len → ∃ x, a = some x ∧ ∀ (j : Nat) (f : Field), fs[j]? = some f → ∃ (v : Value) (n : Nat) (y : DataW H × List MemPlace), W.cell? ((x.add (i * fs.size)).add j) = some v ∧ DataW.trod enc P W base spare held n f.type [v] = some y := by
  obtain ⟨fuel, hf⟩ := hT
  intro i hi
  rcases Deep.open_slice ht hf with ⟨hcs, _⟩ | ⟨x, len', cap', m, n, D, Pl, hcs, _, hl, _, hm, _, hel⟩
  · simp [Value.cells] at hcs; omega
  · simp [Value.cells] at hcs
    obtain ⟨rfl, rfl, rfl⟩ := hcs
    refine ⟨x, rfl, fun j f hj => ?_⟩
    have him : i < m := by subst hm; split <;> omega
    obtain ⟨cs', hc, ht'⟩ := hel i him
    rw [hC] at hc
    obtain ⟨ys, n', _, _, hlen, hyl, hff⟩ := DataW.trod_struct he ht'
    obtain ⟨_, hcl, hat⟩ := World.cells?_some hc
    obtain ⟨ho, hk⟩ := Deep.hone_of hone j f hj
    have hjl : j < fs.size := (Array.getElem?_eq_some_iff.1 hj).1
    have h1 := hff j f hj
    have hjl' : j < cs'.length := by omega
    rw [ho, hk] at h1
    have hone' : (cs'.drop j).take 1 = [cs'[j]] := by
      rw [List.drop_eq_getElem_cons hjl']; rfl
    rw [hone'] at h1
    have hjy : j < ys.length := by omega
    rw [List.getElem?_eq_getElem hjy] at h1
    exact ⟨cs'[j], n', _, by rw [hat j hjl]; exact List.getElem?_eq_getElem hjl', h1⟩
/-- The elements of a slice of one cell each. -/
theorem slice_cells1 {t e : TypeId} {a : Option Addr} {len cap : Nat} {d : DataW H} {p : List MemPlace} (ht : P.underlying t = some (.slice e)) (hC : P.cellsOf e = 1) (hT : DataW.Trod enc P W base spare held t (.slice a len cap) d p) :
    ∀ i, i < len → ∃ x, a = some x ∧ ∃ (v : Value) (n : Nat) (y : DataW H × List MemPlace), W.cell? (x.add (i * 1)) = some v ∧ DataW.trod enc P W base spare held n e [v] = some y := by
  obtain ⟨fuel, hf⟩ := hT
  intro i hi
  rcases Deep.open_slice ht hf with ⟨hcs, _⟩ | ⟨x, len', cap', m, n, D, Pl, hcs, _, hl, _, hm, _, hel⟩
  · simp [Value.cells] at hcs; omega
  · simp [Value.cells] at hcs
    obtain ⟨rfl, rfl, rfl⟩ := hcs
    have him : i < m := by subst hm; split <;> omega
    obtain ⟨cs', hc, ht'⟩ := hel i him
    rw [hC] at hc
    obtain ⟨_, hcl, hat⟩ := World.cells?_some hc
    match cs', hcl with
    | [v], _ => exact ⟨x, rfl, v, n, _, by have := hat 0 (by omega); rw [show ∀ a : Addr, a.add 0 = a from fun _ => rfl] at this; simpa using this, ht'⟩
/-- The fields of a struct of one-cell fields, by value. -/
theorem struct_cells {t : TypeId} {fs : Array Field} {cs : Array Value} {d : DataW H} {p : List MemPlace} (ht : P.underlying t = some (.struct fs)) (hone : oneCellFields P fs = true) (hC : P.cellsOf t = fs.size) (hT : DataW.Trod enc P W base spare held t (.agg cs) d p) :
    cs.toList.length = fs.size ∧ ∀ (j : Nat) (f : Field), fs[j]? = some f → ∃ (v : Value) (n : Nat) (y : DataW H × List MemPlace), cs.toList[j]? = some v ∧ DataW.trod enc P W base spare held n f.type [v] = some y := by
  obtain ⟨fuel, hf⟩ := hT
  have hf' : DataW.trod enc P W base spare held fuel t cs.toList = some (d, p) := by simpa [Value.cells] using hf
  obtain ⟨ys, n', _, _, hlen, hyl, hff⟩ := DataW.trod_struct ht hf'
  rw [hC] at hlen
  refine ⟨hlen, fun j f hj => ?_⟩
  have hjl : j < fs.size := (Array.getElem?_eq_some_iff.1 hj).1
  obtain ⟨ho, hk⟩ := Deep.hone_of hone j f hj
  have h1 := hff j f hj
  rw [ho, hk] at h1
  have hjl' : j < cs.toList.length := by omega
  have hone' : (cs.toList.drop j).take 1 = [cs.toList[j]] := by
    rw [List.drop_eq_getElem_cons hjl']; rfl
  rw [hone'] at h1
  have hjy : j < ys.length := by omega
  rw [List.getElem?_eq_getElem hjy] at h1
  exact ⟨cs.toList[j], n', _, List.getElem?_eq_getElem hjl', h1⟩
theorem cell_lt {w : World} {a : Addr} {v : Value} (h : w.cell? a = some v) : a.block < w.heap.size := World.block_lt_of_cell? w a h
end
end Go.Pl
