/-
  The contract of math/bits.OnesCount32.
-/
import Derived.Test.YticppjmldlhbiaaDoorWOnes
import Derived.Test.YticppjmldlhbiaaDoorBits
namespace Go.Proofs.YticppjmldlhbiaaDoor.Ones
open Go.Pl Go.Proofs.YticppjmldlhbiaaDoor.W
def tab : ByteArray := ⟨#[0, 1, 1, 2, 1, 2, 2, 3, 1, 2, 2, 3, 2, 3, 3, 4, 1, 2, 2, 3, 2, 3, 3, 4, 2, 3, 3, 4, 3, 4, 4, 5, 1, 2, 2, 3, 2, 3, 3, 4, 2, 3, 3, 4, 3, 4, 4, 5, 2, 3, 3, 4, 3, 4, 4, 5, 3, 4, 4, 5, 4, 5, 5, 6, 1, 2, 2, 3, 2, 3, 3, 4, 2, 3, 3, 4, 3, 4, 4, 5, 2, 3, 3, 4, 3, 4, 4, 5, 3, 4, 4, 5, 4, 5, 5, 6, 2, 3, 3, 4, 3, 4, 4, 5, 3, 4, 4, 5, 4, 5, 5, 6, 3, 4, 4, 5, 4, 5, 5, 6, 4, 5, 5, 6, 5, 6, 6, 7, 1, 2, 2, 3, 2, 3, 3, 4, 2, 3, 3, 4, 3, 4, 4, 5, 2, 3, 3, 4, 3, 4, 4, 5, 3, 4, 4, 5, 4, 5, 5, 6, 2, 3, 3, 4, 3, 4, 4, 5, 3, 4, 4, 5, 4, 5, 5, 6, 3, 4, 4, 5, 4, 5, 5, 6, 4, 5, 5, 6, 5, 6, 6, 7, 2, 3, 3, 4, 3, 4, 4, 5, 3, 4, 4, 5, 4, 5, 5, 6, 3, 4, 4, 5, 4, 5, 5, 6, 4, 5, 5, 6, 5, 6, 6, 7, 3, 4, 4, 5, 4, 5, 5, 6, 4, 5, 5, 6, 5, 6, 6, 7, 4, 5, 5, 6, 5, 6, 6, 7, 5, 6, 6, 7, 6, 7, 7, 8]⟩
def popN (x : Nat) : Nat → Nat
  | 0 => 0
  | n + 1 => popN x n + (x.testBit n).toNat
set_option maxRecDepth 100000 in
theorem tab_all : ∀ k : Fin 256, (tab[k.1]?).map (fun b => b.toNat) = some (popN k.1 8) := by decide +kernel
theorem tab_get (k : Nat) (h : k < 256) : ∃ b : UInt8, tab[k]? = some b ∧ b.toNat = popN k 8 := by
  have := tab_all ⟨k, h⟩
  cases hb : tab[k]? with
  | none => rw [hb] at this; cases this
  | some b => rw [hb] at this; exact ⟨b, rfl, Option.some.inj this⟩
theorem popN_add (x k : Nat) : ∀ n, popN x (k + n) = popN x k + popN (x / 2 ^ k) n
  | 0 => rfl
  | n + 1 => by
    rw [← Nat.add_assoc, popN, popN_add x k n, popN, Nat.testBit_div_two_pow, Nat.add_assoc, Nat.add_comm n k]
theorem popN_mod (x m : Nat) : ∀ n, n ≤ m → popN (x % 2 ^ m) n = popN x n
  | 0, _ => rfl
  | n + 1, h => by
    rw [popN, popN_mod x m n (by omega), popN, Nat.testBit_mod_two_pow]
    simp [show n < m by omega]
theorem popN_le (x : Nat) : ∀ n, popN x n ≤ n
  | 0 => Nat.le_refl _
  | n + 1 => by
    have := popN_le x n
    have : (x.testBit n).toNat ≤ 1 := by cases x.testBit n <;> simp
    simp only [popN]; omega
theorem pop_parts (x : Nat) : popN x 32 = popN (x / 16777216) 8 + popN (x / 65536 % 256) 8 + popN (x / 256 % 256) 8 + popN (x % 256) 8 := by
  have a : popN x 32 = popN x 24 + popN (x / 16777216) 8 := popN_add x 24 8
  have b : popN x 24 = popN x 16 + popN (x / 65536) 8 := popN_add x 16 8
  have c : popN x 16 = popN x 8 + popN (x / 256) 8 := popN_add x 8 8
  have d : popN (x % 256) 8 = popN x 8 := popN_mod x 8 8 (Nat.le_refl _)
  have e : popN (x / 256 % 256) 8 = popN (x / 256) 8 := popN_mod (x / 256) 8 8 (Nat.le_refl _)
  have f : popN (x / 65536 % 256) 8 = popN (x / 65536) 8 := popN_mod (x / 65536) 8 8 (Nat.le_refl _)
  omega
theorem byte_of {x : Nat} (h : x < 4294967296) : IntKind.wrap .u32 (((BitVec.ofInt 32 (x : Int) &&& BitVec.ofInt 32 (255 : Int)).toNat : Int)) = ((x % 256 : Nat) : Int) := by
  have := and32 (a := x) (b := 255) h (by omega)
  rw [show ((255 : Nat) : Int) = (255 : Int) from rfl] at this
  rw [this, show (255 : Nat) = 2 ^ 8 - 1 from rfl, Nat.and_two_pow_sub_one_eq_mod]
theorem ones_ok (x : Nat) (hx : x < 4294967296) (h : Heap) : CallsH Tryd.prog 41 [.int .u32 x] h fun v h' => v = .int .i64 ((popN x 32 : Nat) : Int) ∧ h' = h := by
  refine fun_ok (by kernel_rfl) Tryd.func41 (by kernel_rfl) (F41_eq _ _ h) ?_
  unfold F41
  have fd : ∀ k : Nat, Int.fdiv (x : Int) (k : Int) = ((x / k : Nat) : Int) := fun k => by rw [Int.fdiv_eq_ediv_of_nonneg _ (by omega)]; rfl
  have e1 := fd 16777216
  have e2 := fd 65536
  have e3 := fd 256
  simp only [show ((16777216 : Nat) : Int) = 16777216 from rfl, show ((65536 : Nat) : Int) = 65536 from rfl, show ((256 : Nat) : Int) = 256 from rfl] at e1 e2 e3
  rw [e1, e2, e3, byte_of (x := x / 65536) (by omega), byte_of (x := x / 256) (by omega), byte_of hx]
  rw [Int.toNat_natCast, Int.toNat_natCast, Int.toNat_natCast, Int.toNat_natCast]
  obtain ⟨b1, h1, p1⟩ := tab_get (x / 16777216) (by omega)
  obtain ⟨b2, h2, p2⟩ := tab_get (x / 65536 % 256) (by omega)
  obtain ⟨b3, h3, p3⟩ := tab_get (x / 256 % 256) (by omega)
  obtain ⟨b4, h4, p4⟩ := tab_get (x % 256) (by omega)
  refine ⟨by omega, b1, h1, by omega, b2, h2, by omega, b3, h3, by omega, b4, h4, ?_, rfl⟩
  have l1 := popN_le (x / 16777216) 8
  have l2 := popN_le (x / 65536 % 256) 8
  have l3 := popN_le (x / 256 % 256) 8
  have l4 := popN_le (x % 256) 8
  have wu8 : ∀ n : Int, 0 ≤ n → n < 256 → IntKind.wrap .u8 n = n := fun n h0 h1 => by
    have : IntKind.wrap .u8 n = n % 256 := by simp [IntKind.wrap, IntKind.bits, IntKind.signed]
    rw [this]; omega
  rw [p1, p2, p3, p4, pop_parts]
  generalize popN (x / 16777216) 8 = A at *
  generalize popN (x / 65536 % 256) 8 = B at *
  generalize popN (x / 256 % 256) 8 = C at *
  generalize popN (x % 256) 8 = D at *
  rw [wu8 ((A : Int) + (B : Int)) (by omega) (by omega), wu8 ((A : Int) + (B : Int) + (C : Int)) (by omega) (by omega), wu8 ((A : Int) + (B : Int) + (C : Int) + (D : Int)) (by omega) (by omega), wr64 (by omega) (by omega)]
  simp
theorem popN_congr {x y : Nat} : ∀ n, (∀ i, i < n → x.testBit i = y.testBit i) → popN x n = popN y n
  | 0, _ => rfl
  | n + 1, h => by simp only [popN]; rw [popN_congr n fun i hi => h i (by omega), h n (by omega)]
theorem popN_set {x y k : Nat} : ∀ n, k < n → x.testBit k = false → y.testBit k = true → (∀ i, i < n → i ≠ k → y.testBit i = x.testBit i) → popN y n = popN x n + 1
  | n + 1, hk, h0, h1, h => by
    simp only [popN]
    by_cases e : k = n
    · subst e
      rw [h0, h1, popN_congr k fun i hi => h i (by omega) (by omega)]; rfl
    · rw [popN_set n (by omega) h0 h1 fun i hi hne => h i (by omega) hne, h n (by omega) (fun e' => e e'.symm)]; omega
theorem popN_or {x k n : Nat} (hk : k < n) (h : x.testBit k = false) : popN (x ||| 2 ^ k) n = popN x n + 1 :=
  popN_set n hk h (by simp [Nat.testBit_or]) fun i _ hne => by simp [Nat.testBit_or, Ne.symm hne]
theorem bit_clear {x k i : Nat} (hi : i < 32) (hk : k < 32) : (x &&& (4294967295 - 2 ^ k)).testBit i = (x.testBit i && !decide (k = i)) := by
  rw [Nat.testBit_and, testBit_not32 hi (Nat.pow_lt_pow_right (by omega) (by omega) : 2 ^ k < 2 ^ 32), Nat.testBit_two_pow]
theorem popN_clear {x k : Nat} (hk : k < 32) (h : x.testBit k = true) : popN (x &&& (4294967295 - 2 ^ k)) 32 + 1 = popN x 32 := by
  refine (popN_set (x := x &&& (4294967295 - 2 ^ k)) (y := x) 32 hk ?_ h fun i hi hne => ?_).symm
  · rw [bit_clear hk hk]; simp
  · rw [bit_clear hi hk]; simp [Ne.symm hne]
theorem same_clear {x k : Nat} (hx : x < 4294967296) (hk : k < 32) (h : x.testBit k = false) : x &&& (4294967295 - 2 ^ k) = x := by
  apply Nat.eq_of_testBit_eq
  intro i
  by_cases hi : i < 32
  · rw [bit_clear hi hk]
    by_cases e : k = i
    · subst e; rw [h]; rfl
    · simp [e]
  · have hxi : x.testBit i = false := Nat.testBit_lt_two_pow (Nat.lt_of_lt_of_le hx (Nat.pow_le_pow_right (n := 2) (by omega) (show 32 ≤ i by omega)))
    rw [Nat.testBit_and, hxi]; rfl
theorem same_or {x k : Nat} (h : x.testBit k = true) : x ||| 2 ^ k = x := by
  apply Nat.eq_of_testBit_eq
  intro i
  rw [Nat.testBit_or, Nat.testBit_two_pow]
  by_cases e : k = i
  · subst e; rw [h]; rfl
  · simp [e]
end Go.Proofs.YticppjmldlhbiaaDoor.Ones
