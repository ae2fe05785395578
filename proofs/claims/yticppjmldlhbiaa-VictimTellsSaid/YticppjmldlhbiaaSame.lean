/-
  The contracts of the comparisons of two rows of numbers.
-/
import Derived.Test.YticppjmldlhbiaaWSame
import Derived.Test.YticppjmldlhbiaaHeap
namespace Go.Proofs.Yticppjmldlhbiaa.Same
open Go.Pl Go.Proofs.Yticppjmldlhbiaa.W
/-- Two rows of numbers are the same. -/
theorem same_ok (a b : Option Addr) (n m ca cb : Nat) (h : Heap) (xs ys : List Int) (hx : n = xs.length) (hy : m = ys.length) (hn : n ≤ 9223372036854775807)
    (ha : ∀ i x, xs[i]? = some x → ∃ p, a = some p ∧ cellH h (p.add i) = some (.int .i64 x)) (hb : ∀ i x, ys[i]? = some x → ∃ p, b = some p ∧ cellH h (p.add i) = some (.int .i64 x)) :
    CallsH Try.prog 20 [.slice a n ca, .slice b m cb] h fun v h' => v = .bool (decide (xs = ys)) ∧ h' = h := by
  refine fun_ok (by kernel_rfl) Try.func20 (by kernel_rfl) (F20_eq _ _ _ _ _ _ _ h) ?_
  unfold F20
  subst hx; subst hy
  refine br_of (fun hne => ?_) (fun heq => ?_)
  · have : xs ≠ ys := fun e => by subst e; simp at hne
    exact ⟨by simp [this], rfl⟩
  have hl : xs.length = ys.length := by simp at heq; omega
  refine ⟨fun (s : Int) h' => h' = h ∧ ∃ i : Nat, s = i ∧ i ≤ xs.length ∧ xs.take i = ys.take i, fun (s : Int) _ => (xs.length - s).toNat, ⟨rfl, 0, rfl, by omega, rfl⟩, ?_⟩
  rintro s j h' ⟨hh, i, rfl, hi, hpre⟩
  subst h'
  refine br_of (fun hlt => ?_) (fun hlt => ?_)
  · have hlt : i < xs.length := by simp at hlt; omega
    have e1 : xs[i]? = some xs[i] := List.getElem?_eq_getElem hlt
    have e2 : ys[i]? = some (ys[i]'(by omega)) := List.getElem?_eq_getElem (by omega)
    obtain ⟨p, rfl, hp⟩ := ha i _ e1
    obtain ⟨q, rfl, hq⟩ := hb i _ e2
    refine ⟨⟨by omega, rfl⟩, ?_⟩
    simp only [Int.toNat_natCast, Nat.mul_one]
    refine ld_of (c := .int .i64) (xs[i] : Int) hp ⟨⟨by omega, rfl⟩, ld_of (c := .int .i64) (ys[i] : Int) hq (br_of (fun hd => ?_) (fun hd => ?_))⟩
    · have hd : xs[i] ≠ ys[i] := by simpa using hd
      have : xs ≠ ys := fun e => by subst e; exact hd rfl
      exact ⟨by simp [this], by trivial⟩
    · have hd : xs[i] = ys[i] := by simpa using hd
      rw [wr64 (by omega) (by omega)]
      refine ⟨⟨by trivial, i + 1, by omega, by omega, ?_⟩, by omega⟩
      rw [List.take_add_one, List.take_add_one, hpre, e1, e2, hd]
  · have hi : i = xs.length := by simp at hlt; omega
    subst hi
    rw [List.take_length] at hpre
    rw [hl, List.take_length] at hpre
    exact ⟨by simp [hpre], rfl⟩
/-- Two rows of numbers are the same. -/
theorem nums_ok (a b : Option Addr) (n m ca cb : Nat) (h : Heap) (xs ys : List Int) (hx : n = xs.length) (hy : m = ys.length) (hn : n ≤ 9223372036854775807)
    (ha : ∀ i x, xs[i]? = some x → ∃ p, a = some p ∧ cellH h (p.add i) = some (.int .u32 x)) (hb : ∀ i x, ys[i]? = some x → ∃ p, b = some p ∧ cellH h (p.add i) = some (.int .u32 x)) :
    CallsH Try.prog 42 [.slice a n ca, .slice b m cb] h fun v h' => v = .bool (decide (xs = ys)) ∧ h' = h := by
  refine fun_ok (by kernel_rfl) Try.func42 (by kernel_rfl) (F42_eq _ _ _ _ _ _ _ h) ?_
  unfold F42
  subst hx; subst hy
  refine br_of (fun hne => ?_) (fun heq => ?_)
  · have : xs ≠ ys := fun e => by subst e; simp at hne
    exact ⟨by simp [this], rfl⟩
  have hl : xs.length = ys.length := by simp at heq; omega
  refine ⟨fun (s : Int) h' => h' = h ∧ ∃ i : Nat, s = i ∧ i ≤ xs.length ∧ xs.take i = ys.take i, fun (s : Int) _ => (xs.length - s).toNat, ⟨rfl, 0, rfl, by omega, rfl⟩, ?_⟩
  rintro s j h' ⟨hh, i, rfl, hi, hpre⟩
  subst h'
  refine br_of (fun hlt => ?_) (fun hlt => ?_)
  · have hlt : i < xs.length := by simp at hlt; omega
    have e1 : xs[i]? = some xs[i] := List.getElem?_eq_getElem hlt
    have e2 : ys[i]? = some (ys[i]'(by omega)) := List.getElem?_eq_getElem (by omega)
    obtain ⟨p, rfl, hp⟩ := ha i _ e1
    obtain ⟨q, rfl, hq⟩ := hb i _ e2
    refine ⟨⟨by omega, rfl⟩, ?_⟩
    simp only [Int.toNat_natCast, Nat.mul_one]
    refine ld_of (c := .int .u32) (xs[i] : Int) hp ⟨⟨by omega, rfl⟩, ld_of (c := .int .u32) (ys[i] : Int) hq (br_of (fun hd => ?_) (fun hd => ?_))⟩
    · have hd : xs[i] ≠ ys[i] := by simpa using hd
      have : xs ≠ ys := fun e => by subst e; exact hd rfl
      exact ⟨by simp [this], by trivial⟩
    · have hd : xs[i] = ys[i] := by simpa using hd
      rw [wr64 (by omega) (by omega)]
      refine ⟨⟨by trivial, i + 1, by omega, by omega, ?_⟩, by omega⟩
      rw [List.take_add_one, List.take_add_one, hpre, e1, e2, hd]
  · have hi : i = xs.length := by simp at hlt; omega
    subst hi
    rw [List.take_length] at hpre
    rw [hl, List.take_length] at hpre
    exact ⟨by simp [hpre], rfl⟩
end Go.Proofs.Yticppjmldlhbiaa.Same
