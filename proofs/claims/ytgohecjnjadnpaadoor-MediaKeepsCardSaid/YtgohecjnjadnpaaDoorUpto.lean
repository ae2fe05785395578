/-
  Lists of which the first ones are told anew: plain laws.
-/
import Derived.Test.YtgohecjnjadnpaaDoorArr
namespace Go.Proofs.YtgohecjnjadnpaaDoor.Upto
open Go.Pl
def upto {α : Type} (f : Nat → α → α) (i : Nat) (l : List α) : List α := l.mapIdx fun j x => if j < i then f j x else x
section
variable {α : Type} (f : Nat → α → α) (l : List α)
theorem upto_len (i : Nat) : (upto f i l).length = l.length := by simp [upto]
theorem upto_zero : upto f 0 l = l := by
  apply List.ext_getElem?; intro j
  simp [upto, List.getElem?_mapIdx]
theorem upto_get {i j : Nat} (h : i ≤ j) : (upto f i l)[j]? = l[j]? := by
  simp only [upto, List.getElem?_mapIdx]
  cases l[j]? with
  | none => rfl
  | some x => simp [show ¬ j < i by omega]
theorem upto_at {i j : Nat} (h : j < i) : (upto f i l)[j]? = (l[j]?).map (f j) := by
  simp only [upto, List.getElem?_mapIdx]
  cases l[j]? with
  | none => rfl
  | some x => simp [h]
theorem upto_set {i : Nat} {x : α} (h : l[i]? = some x) : (upto f i l).set i (f i x) = upto f (i + 1) l := by
  have hl := (List.getElem?_eq_some_iff.1 h).1
  apply List.ext_getElem?; intro j
  by_cases e : i = j
  · subst e
    rw [List.getElem?_set_self (by rw [upto_len]; exact hl), upto_at f l (Nat.lt_succ_self i), h]; rfl
  · rw [List.getElem?_set_ne e]
    by_cases hj : j < i
    · rw [upto_at f l hj, upto_at f l (by omega)]
    · rw [upto_get f l (by omega), upto_get f l (by omega)]
theorem upto_full : upto f l.length l = l.mapIdx f := by
  apply List.ext_getElem?; intro j
  by_cases hj : j < l.length
  · rw [upto_at f l hj, List.getElem?_mapIdx]
  · rw [upto_get f l (by omega), List.getElem?_mapIdx, List.getElem?_eq_none (by omega)]; rfl
end
end Go.Proofs.YtgohecjnjadnpaaDoor.Upto
