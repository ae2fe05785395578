/-
  Words of 32 bits: plain laws.
-/
import Derived.Test.YtgohecjnjadnpaaDoorHeap
namespace Go.Pl
/- WORDS OF 32 BITS. -/
theorem wr32_nat {n : Nat} (h : n < 4294967296) : IntKind.wrap .u32 (n : Int) = (n : Int) := by rw [wru32]; omega
theorem ofInt32 {n : Nat} (h : n < 4294967296) : (BitVec.ofInt 32 (n : Int)).toNat = n := by
  rw [BitVec.ofInt_natCast, BitVec.toNat_ofNat]; omega
theorem or32 {a b : Nat} (ha : a < 4294967296) (hb : b < 4294967296) : IntKind.wrap .u32 (((BitVec.ofInt 32 (a : Int) ||| BitVec.ofInt 32 (b : Int)).toNat : Int)) = ((a ||| b : Nat) : Int) := by
  rw [BitVec.toNat_or, ofInt32 ha, ofInt32 hb]
  exact wr32_nat (Nat.or_lt_two_pow (n := 32) ha hb)
theorem and32 {a b : Nat} (ha : a < 4294967296) (hb : b < 4294967296) : IntKind.wrap .u32 (((BitVec.ofInt 32 (a : Int) &&& BitVec.ofInt 32 (b : Int)).toNat : Int)) = ((a &&& b : Nat) : Int) := by
  rw [BitVec.toNat_and, ofInt32 ha, ofInt32 hb]
  exact wr32_nat (Nat.and_lt_two_pow (n := 32) _ hb)
theorem not32 {b : Nat} (hb : b < 4294967296) : (~~~(BitVec.ofInt 32 (b : Int))).toNat = 4294967295 - b := by
  rw [BitVec.toNat_not, ofInt32 hb]
theorem andNot32 {a b : Nat} (ha : a < 4294967296) (hb : b < 4294967296) : IntKind.wrap .u32 (((BitVec.ofInt 32 (a : Int) &&& ~~~(BitVec.ofInt 32 (b : Int))).toNat : Int)) = ((a &&& (4294967295 - b) : Nat) : Int) := by
  rw [BitVec.toNat_and, ofInt32 ha, not32 hb]
  exact wr32_nat (Nat.and_lt_two_pow (n := 32) _ (by omega))
theorem testBit_not32 {b i : Nat} (hi : i < 32) (hb : b < 4294967296) : (4294967295 - b).testBit i = !b.testBit i := by
  have := Nat.testBit_two_pow_sub_succ (x := b) (n := 32) hb i
  rw [show (2 : Nat) ^ 32 - (b + 1) = 4294967295 - b by omega] at this
  rw [this]; simp [hi]
/-- The bit of a page. -/
theorem and_pow {a k : Nat} : (a &&& 2 ^ k = 0) ↔ a.testBit k = false := by
  constructor
  · intro h
    have := congrArg (fun n => Nat.testBit n k) h
    simp only [Nat.testBit_and, Nat.testBit_two_pow, decide_true, Bool.and_true, Nat.zero_testBit] at this
    exact this
  · intro h
    apply Nat.eq_of_testBit_eq
    intro i
    simp only [Nat.testBit_and, Nat.testBit_two_pow, Nat.zero_testBit]
    by_cases e : k = i
    · subst e; simp [h]
    · simp [e]
end Go.Pl
