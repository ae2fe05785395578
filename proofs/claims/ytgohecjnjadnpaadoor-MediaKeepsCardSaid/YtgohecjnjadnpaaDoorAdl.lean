/-
  The sum of bytes: plain laws.
-/
import Derived.Test.YtgohecjnjadnpaaDoorByts
namespace Go.Proofs.YtgohecjnjadnpaaDoor.Adl
open Go.Pl Go.Proofs.YtgohecjnjadnpaaDoor.Four Go.Proofs.YtgohecjnjadnpaaDoor.Byts
/-- The two numbers of a sum, with more bytes. -/
def adl : Int × Int → List Int → Int × Int
  | s, [] => s
  | s, b :: bs => adl ((s.1 + b) % 65521, (s.2 + (s.1 + b) % 65521) % 65521) bs
def enc (s : Int × Int) : Int := s.2 * 65536 + s.1
def sumL (bs : List Int) : Int := enc (adl (1, 0) bs)
def In (s : Int × Int) : Prop := (0 ≤ s.1 ∧ s.1 < 65521) ∧ 0 ≤ s.2 ∧ s.2 < 65521
theorem adl_app : ∀ (xs ys : List Int) (s : Int × Int), adl s (xs ++ ys) = adl (adl s xs) ys
  | [], _, _ => rfl
  | _ :: xs, ys, _ => adl_app xs ys _
theorem adl_in : ∀ (xs : List Int) (s : Int × Int), In s → In (adl s xs)
  | [], _, h => h
  | x :: xs, s, _ => adl_in xs _ ⟨⟨(by first | omega | (dsimp only; omega) | (simp only []; omega)), (by first | omega | (dsimp only; omega) | (simp only []; omega))⟩, (by first | omega | (dsimp only; omega) | (simp only []; omega)), (by first | omega | (dsimp only; omega) | (simp only []; omega))⟩
theorem in10 : In (1, 0) := ⟨⟨by decide, by decide⟩, by decide, by decide⟩
theorem enc_range {s : Int × Int} (h : In s) : 0 ≤ enc s ∧ enc s < 4294967296 := by
  obtain ⟨⟨_, _⟩, _, _⟩ := h; unfold enc; omega
theorem enc_inj {s t : Int × Int} (h : In s) (k : In t) (e : enc s = enc t) : s = t := by
  obtain ⟨⟨_, _⟩, _, _⟩ := h; obtain ⟨⟨_, _⟩, _, _⟩ := k
  unfold enc at e
  apply Prod.ext <;> omega
theorem sumL_range (bs : List Int) : 0 ≤ sumL bs ∧ sumL bs < 4294967296 := enc_range (adl_in bs _ in10)
/-- The two numbers without rests. -/
def raw : Int × Int → List Int → Int × Int
  | s, [] => s
  | s, b :: bs => raw (s.1 + b, s.2 + (s.1 + b)) bs
theorem raw_app : ∀ (xs ys : List Int) (s : Int × Int), raw s (xs ++ ys) = raw (raw s xs) ys
  | [], _, _ => rfl
  | _ :: xs, ys, _ => raw_app xs ys _
theorem raw_adl : ∀ (xs : List Int) (s t : Int × Int), s.1 % 65521 = t.1 % 65521 → s.2 % 65521 = t.2 % 65521 → In t → (((raw s xs).1 % 65521, (raw s xs).2 % 65521) : Int × Int) = adl t xs
  | [], s, t, h1, h2, h => by
    obtain ⟨⟨_, _⟩, _, _⟩ := h
    apply Prod.ext
    · show s.1 % 65521 = t.1; omega
    · show s.2 % 65521 = t.2; omega
  | x :: xs, s, t, h1, h2, h => by
    have h' := adl_in [x] t h
    exact raw_adl xs (s.1 + x, s.2 + (s.1 + x)) _ (by first | omega | (dsimp only; omega) | (simp only []; omega)) (by first | omega | (dsimp only; omega) | (simp only []; omega)) h'
/-- How large the two numbers get. -/
theorem raw_le : ∀ (xs : List Int) (s : Int × Int) (A B : Int), Byt xs → (0 ≤ s.1 ∧ s.1 ≤ A) → (0 ≤ s.2 ∧ s.2 ≤ B) →
    (0 ≤ (raw s xs).1 ∧ (raw s xs).1 ≤ A + 255 * (xs.length : Int)) ∧ 0 ≤ (raw s xs).2 ∧ 2 * (raw s xs).2 ≤ 2 * B + 2 * ((xs.length : Int) * A) + 255 * ((xs.length : Int) * ((xs.length : Int) + 1))
  | [], s, A, B, _, h1, h2 => by simp [raw]; omega
  | x :: xs, s, A, B, hb, h1, h2 => by
    have hx := hb x (List.mem_cons_self ..)
    have := raw_le xs (s.1 + x, s.2 + (s.1 + x)) (A + 255) (B + (A + 255)) (fun y hy => hb y (List.mem_cons_of_mem _ hy)) (by first | omega | (dsimp only; omega) | (simp only []; omega)) (by first | omega | (dsimp only; omega) | (simp only []; omega))
    obtain ⟨⟨k1, k2⟩, k3, k4⟩ := this
    refine ⟨⟨k1, ?_⟩, k3, ?_⟩
    · simp only [raw, List.length_cons]; omega
    · simp only [raw, List.length_cons]
      refine Int.le_trans k4 (Int.le_of_eq ?_)
      have e : ((xs.length + 1 : Nat) : Int) = (xs.length : Int) + 1 := by omega
      rw [e]
      generalize (xs.length : Int) = n
      have e1 : n * (A + 255) = n * A + n * 255 := Int.mul_add ..
      have e2 : (n + 1) * A = n * A + A := by rw [Int.add_mul, Int.one_mul]
      have e3 : n * (n + 1) = n * n + n := by rw [Int.mul_add, Int.mul_one]
      have e4 : (n + 1) * (n + 1 + 1) = n * n + 3 * n + 2 := by rw [Int.mul_add, Int.add_mul, Int.mul_add, Int.mul_one, Int.one_mul, Int.mul_one]; omega
      rw [e1, e2, e3, e4]; omega
/-- Of two rows of which one byte is another one the low numbers are two. -/
def low (xs : List Int) : Int := xs.foldl (fun a x => a + x) 0
theorem foldl_add : ∀ (xs : List Int) (a : Int), xs.foldl (fun a x => a + x) a = a + xs.foldl (fun a x => a + x) 0
  | [], a => by simp
  | x :: xs, a => by
    simp only [List.foldl_cons]
    rw [foldl_add xs (a + x), foldl_add xs (0 + x)]; omega
theorem adl_low : ∀ (xs : List Int) (s : Int × Int), (adl s xs).1 % 65521 = (s.1 + low xs) % 65521
  | [], s => by simp [adl, low]
  | x :: xs, s => by
    simp only [adl]
    rw [adl_low xs]
    have : low (x :: xs) = x + low xs := by unfold low; rw [List.foldl_cons, foldl_add]; omega
    rw [this]; simp only []; omega
theorem low_app (xs ys : List Int) : low (xs ++ ys) = low xs + low ys := by
  unfold low; rw [List.foldl_append, foldl_add]
theorem low_one (xs ys : List Int) (x : Int) : low (xs ++ x :: ys) = low xs + x + low ys := by
  rw [low_app]
  have : low (x :: ys) = x + low ys := by unfold low; rw [List.foldl_cons, foldl_add]; omega
  rw [this]; omega
theorem sum_changed {xs ys : List Int} {x y : Int} (hx : 0 ≤ x ∧ x < 256) (hy : 0 ≤ y ∧ y < 256) (h : x ≠ y) : sumL (xs ++ x :: ys) ≠ sumL (xs ++ y :: ys) := by
  intro e
  have := enc_inj (adl_in _ _ in10) (adl_in _ _ in10) e
  have h1 := adl_low (xs ++ x :: ys) (1, 0)
  rw [this, adl_low, low_one, low_one] at h1
  simp only [] at h1
  omega
end Go.Proofs.YtgohecjnjadnpaaDoor.Adl
