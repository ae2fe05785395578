/-
  Numbers of four bytes: plain laws.
-/
import Derived.Test.YtgohecjnjadnpaaDoorHeap
import Derived.Test.YtgohecjnjadnpaaDoorBits
namespace Go.Proofs.YtgohecjnjadnpaaDoor.Four
open Go.Pl
/-- The bytes of a number, the low one first. -/
def four (n : Int) : List Int := [n % 256, n / 256 % 256, n / 65536 % 256, n / 16777216 % 256]
def back4 (a b c d : Int) : Int := a + 256 * b + 65536 * c + 16777216 * d
def byteAt (n : Int) (i : Nat) : Int := n / (256 ^ i : Nat) % 256
theorem four_len (n : Int) : (four n).length = 4 := rfl
theorem four_get (n : Int) {i : Nat} (hi : i < 4) : (four n)[i]? = some (byteAt n i) := by
  match i, hi with
  | 0, _ => simp [four, byteAt]
  | 1, _ => rfl
  | 2, _ => rfl
  | 3, _ => rfl
theorem byteAt_range (n : Int) (i : Nat) : 0 ≤ byteAt n i ∧ byteAt n i < 256 := by unfold byteAt; omega
theorem back_four {n : Int} (h : 0 ≤ n ∧ n < 4294967296) : back4 (n % 256) (n / 256 % 256) (n / 65536 % 256) (n / 16777216 % 256) = n := by unfold back4; omega
theorem four_back {a b c d : Int} (ha : 0 ≤ a ∧ a < 256) (hb : 0 ≤ b ∧ b < 256) (hc : 0 ≤ c ∧ c < 256) (hd : 0 ≤ d ∧ d < 256) : four (back4 a b c d) = [a, b, c, d] := by
  unfold four back4
  congr 1
  · omega
  congr 1
  · omega
  congr 1
  · omega
  congr 1
  omega
theorem back_range {a b c d : Int} (ha : 0 ≤ a ∧ a < 256) (hb : 0 ≤ b ∧ b < 256) (hc : 0 ≤ c ∧ c < 256) (hd : 0 ≤ d ∧ d < 256) : 0 ≤ back4 a b c d ∧ back4 a b c d < 4294967296 := by unfold back4; omega
theorem wru8 {n : Int} : IntKind.wrap .u8 n = n % 256 := by simp [IntKind.wrap, IntKind.bits, IntKind.signed]
theorem wru16 {n : Int} : IntKind.wrap .u16 n = n % 65536 := by simp [IntKind.wrap, IntKind.bits, IntKind.signed]
theorem wru64 {n : Int} : IntKind.wrap .u64 n = n % 18446744073709551616 := by simp [IntKind.wrap, IntKind.bits, IntKind.signed]
/-- byte(n >> (8 i)). -/
theorem shr_byte (n : Int) (i : Nat) (hi : i < 4) {s : Int} (hs : s = 8 * (i : Int)) : IntKind.wrap .u8 (Int.fdiv n (2 ^ (min s.toNat 32))) = byteAt n i := by
  subst hs
  rw [wru8]
  have e : (8 * (i : Int)).toNat = 8 * i := by omega
  rw [e, Nat.min_eq_left (by omega)]
  unfold byteAt
  have e2 : (2 : Int) ^ (8 * i) = ((256 ^ i : Nat) : Int) := by
    rw [Int.pow_mul]; simp
  rw [e2, Int.fdiv_eq_ediv_of_nonneg _ (Int.natCast_nonneg _)]
theorem pow8 (i : Nat) : (2 : Nat) ^ (8 * i) = 256 ^ i := by rw [Nat.pow_mul]
/-- n | c << (8 i), where n has no more than i bytes. -/
theorem or_byte {n c i : Nat} (hi : i < 4) (hn : n < 256 ^ i) (hc : c < 256) {s : Int} (hs : s = 8 * (i : Int)) :
    IntKind.wrap .u32 (((BitVec.ofInt 32 (n : Int) ||| BitVec.ofInt 32 (IntKind.wrap .u32 (IntKind.wrap .u32 (c : Int) * 2 ^ (min s.toNat 32)))).toNat : Int)) = ((n + c * 256 ^ i : Nat) : Int) := by
  subst hs
  have e : (8 * (i : Int)).toNat = 8 * i := by omega
  have h256 : 256 ^ i ≤ 256 ^ 3 := Nat.pow_le_pow_right (by omega) (by omega)
  have hlt : c * 256 ^ i < 4294967296 := by
    have : c * 256 ^ i ≤ 255 * 256 ^ 3 := Nat.mul_le_mul (by omega) h256
    omega
  have e1 : IntKind.wrap .u32 (IntKind.wrap .u32 (c : Int) * 2 ^ (min (8 * (i : Int)).toNat 32)) = ((c * 256 ^ i : Nat) : Int) := by
    rw [e, Nat.min_eq_left (by omega), wru32, wru32, Int.emod_eq_of_lt (a := (c : Int)) (by omega) (by omega)]
    have e2 : (2 : Int) ^ (8 * i) = ((256 ^ i : Nat) : Int) := by rw [Int.pow_mul]; simp
    rw [e2]
    have e3 : (c : Int) * ((256 ^ i : Nat) : Int) = ((c * 256 ^ i : Nat) : Int) := by simp
    rw [e3]; exact Int.emod_eq_of_lt (by omega) (by omega)
  rw [e1, or32 (by omega) hlt]
  congr 1
  rw [← pow8]
  have := Nat.shiftLeft_add_eq_or_of_lt (b := n) (i := 8 * i) (by rw [pow8]; exact hn) c
  rw [Nat.shiftLeft_eq] at this
  rw [Nat.or_comm, ← this]; omega
end Go.Proofs.YtgohecjnjadnpaaDoor.Four
