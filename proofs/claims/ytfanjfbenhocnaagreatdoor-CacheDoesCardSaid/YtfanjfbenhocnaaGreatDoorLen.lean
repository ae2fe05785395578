/-
  math/bits.Len at a byte's numbers; numbers of 64 bits.
-/
import Derived.Test.YtfanjfbenhocnaaGreatDoorWLen
import Derived.Test.YtfanjfbenhocnaaGreatDoorSep
namespace Go.Proofs.YtfanjfbenhocnaaGreatDoor.Len
open Go.Pl Go.Proofs.YtfanjfbenhocnaaGreatDoor.W
theorem hm' : Tryz.prog.follows .mixedOrders = true := by kernel_rfl
set_option maxRecDepth 100000 in
theorem tab : ∀ x : Fin 256, ∃ b : UInt8, ((⟨#[0, 1, 2, 2, 3, 3, 3, 3, 4, 4, 4, 4, 4, 4, 4, 4, 5, 5, 5, 5, 5, 5, 5, 5, 5, 5, 5, 5, 5, 5, 5, 5, 6, 6, 6, 6, 6, 6, 6, 6, 6, 6, 6, 6, 6, 6, 6, 6, 6, 6, 6, 6, 6, 6, 6, 6, 6, 6, 6, 6, 6, 6, 6, 6, 7, 7, 7, 7, 7, 7, 7, 7, 7, 7, 7, 7, 7, 7, 7, 7, 7, 7, 7, 7, 7, 7, 7, 7, 7, 7, 7, 7, 7, 7, 7, 7, 7, 7, 7, 7, 7, 7, 7, 7, 7, 7, 7, 7, 7, 7, 7, 7, 7, 7, 7, 7, 7, 7, 7, 7, 7, 7, 7, 7, 7, 7, 7, 7, 8, 8, 8, 8, 8, 8, 8, 8, 8, 8, 8, 8, 8, 8, 8, 8, 8, 8, 8, 8, 8, 8, 8, 8, 8, 8, 8, 8, 8, 8, 8, 8, 8, 8, 8, 8, 8, 8, 8, 8, 8, 8, 8, 8, 8, 8, 8, 8, 8, 8, 8, 8, 8, 8, 8, 8, 8, 8, 8, 8, 8, 8, 8, 8, 8, 8, 8, 8, 8, 8, 8, 8, 8, 8, 8, 8, 8, 8, 8, 8, 8, 8, 8, 8, 8, 8, 8, 8, 8, 8, 8, 8, 8, 8, 8, 8, 8, 8, 8, 8, 8, 8, 8, 8, 8, 8, 8, 8, 8, 8, 8, 8, 8, 8, 8, 8, 8, 8, 8, 8, 8, 8, 8, 8, 8, 8, 8, 8]⟩ : ByteArray))[x.val]? = some b ∧ x.val < 2 ^ b.toNat ∧ (0 < x.val → 2 ^ b.toNat ≤ 2 * x.val) ∧ b.toNat ≤ 8 := by
  intro x
  refine ⟨((⟨#[0, 1, 2, 2, 3, 3, 3, 3, 4, 4, 4, 4, 4, 4, 4, 4, 5, 5, 5, 5, 5, 5, 5, 5, 5, 5, 5, 5, 5, 5, 5, 5, 6, 6, 6, 6, 6, 6, 6, 6, 6, 6, 6, 6, 6, 6, 6, 6, 6, 6, 6, 6, 6, 6, 6, 6, 6, 6, 6, 6, 6, 6, 6, 6, 7, 7, 7, 7, 7, 7, 7, 7, 7, 7, 7, 7, 7, 7, 7, 7, 7, 7, 7, 7, 7, 7, 7, 7, 7, 7, 7, 7, 7, 7, 7, 7, 7, 7, 7, 7, 7, 7, 7, 7, 7, 7, 7, 7, 7, 7, 7, 7, 7, 7, 7, 7, 7, 7, 7, 7, 7, 7, 7, 7, 7, 7, 7, 7, 8, 8, 8, 8, 8, 8, 8, 8, 8, 8, 8, 8, 8, 8, 8, 8, 8, 8, 8, 8, 8, 8, 8, 8, 8, 8, 8, 8, 8, 8, 8, 8, 8, 8, 8, 8, 8, 8, 8, 8, 8, 8, 8, 8, 8, 8, 8, 8, 8, 8, 8, 8, 8, 8, 8, 8, 8, 8, 8, 8, 8, 8, 8, 8, 8, 8, 8, 8, 8, 8, 8, 8, 8, 8, 8, 8, 8, 8, 8, 8, 8, 8, 8, 8, 8, 8, 8, 8, 8, 8, 8, 8, 8, 8, 8, 8, 8, 8, 8, 8, 8, 8, 8, 8, 8, 8, 8, 8, 8, 8, 8, 8, 8, 8, 8, 8, 8, 8, 8, 8, 8, 8, 8, 8, 8, 8, 8, 8]⟩ : ByteArray))[x.val]'(by have := x.2; exact this), ?_, ?_⟩
  · exact getElem?_pos _ _ _
  · revert x; decide
theorem len64_ok (x : Nat) (hx : x < 256) (h : Heap) : CallsH Tryz.prog 84 [.int .u64 (x : Int)] h fun v h' => h' = h ∧ ∃ t : Nat, v = .int .i64 (t : Int) ∧ t ≤ 8 ∧ x < 2 ^ t ∧ (0 < x → 2 ^ t ≤ 2 * x) := by
  refine fun_ok hm' Tryz.func84 (by kernel_rfl) (F84_eq _ _ h) ?_
  unfold F84
  refine cut_q (ts := [.sc (.int .u64), .sc (.int .i64)]) (fun (s : Int × Int) h' => h' = h ∧ s = ((x : Int), (0 : Int))) ?_ (fun K hK => br_f (decide_eq_false (by omega)) (hK _ _ ⟨rfl, rfl⟩))
  rintro s h' ⟨hh, hs⟩ _; subst h'; have hs : s = ((x : Int), (0 : Int)) := hs; subst hs
  refine cut_q (ts := [.sc (.int .u64), .sc (.int .i64)]) (fun (s : Int × Int) h' => h' = h ∧ s = ((x : Int), (0 : Int))) ?_ (fun K hK => br_f (decide_eq_false (by dsimp only; omega)) (hK _ _ ⟨rfl, rfl⟩))
  rintro s h' ⟨hh, hs⟩ _; subst h'; have hs : s = ((x : Int), (0 : Int)) := hs; subst hs
  refine cut_q (ts := [.sc (.int .u64), .sc (.int .i64)]) (fun (s : Int × Int) h' => h' = h ∧ s = ((x : Int), (0 : Int))) ?_ (fun K hK => br_f (decide_eq_false (by dsimp only; omega)) (hK _ _ ⟨rfl, rfl⟩))
  rintro s h' ⟨hh, hs⟩ _; subst h'; have hs : s = ((x : Int), (0 : Int)) := hs; subst hs
  have e : IntKind.wrap .u8 (x : Int) = (x : Int) := by simp [IntKind.wrap, IntKind.bits, IntKind.signed]; omega
  obtain ⟨b, hb, h1, h2, h3⟩ := tab ⟨x, hx⟩
  refine ⟨by dsimp only; rw [e]; omega, b, ?_, rfl, b.toNat, ?_, h3, h1, h2⟩
  · dsimp only; rw [e]; exact hb
  · show Value.int .i64 (IntKind.wrap .i64 ((0 : Int) + IntKind.wrap .i64 ((b.toNat : Nat) : Int))) = _
    rw [wr64 (n := ((b.toNat : Nat) : Int)) (by omega) (by omega), wr64 (by omega) (by omega), Int.zero_add]
theorem len_ok (x : Nat) (hx : x < 256) (h : Heap) : CallsH Tryz.prog 73 [.int .u64 (x : Int)] h fun v h' => h' = h ∧ ∃ t : Nat, v = .int .i64 (t : Int) ∧ t ≤ 8 ∧ x < 2 ^ t ∧ (0 < x → 2 ^ t ≤ 2 * x) := by
  refine fun_ok hm' Tryz.func73 (by kernel_rfl) (F73_eq _ _ h) ?_
  unfold F73
  refine call_of (len64_ok x hx h) ?_
  rintro v h' ⟨hh, t, rfl, r⟩; subst h'
  exact ⟨(t : Int), rfl, rfl, t, rfl, r⟩
theorem wu64 (z : Int) : 0 ≤ IntKind.wrap .u64 z ∧ IntKind.wrap .u64 z < 18446744073709551616 := by simp [IntKind.wrap, IntKind.bits, IntKind.signed]; omega
theorem and_lt (r m : Int) (h1 : 1 ≤ m) (h2 : m ≤ 1048576) : ∃ o : Nat, (o : Int) < m ∧ IntKind.wrap .i64 (IntKind.wrap .u64 (((BitVec.ofInt 64 r &&& BitVec.ofInt 64 (IntKind.wrap .u64 (m - 1))).toNat : Int))) = (o : Int) := by
  have e : IntKind.wrap .u64 (m - 1) = m - 1 := by simp [IntKind.wrap, IntKind.bits, IntKind.signed]; omega
  refine ⟨(BitVec.ofInt 64 r &&& BitVec.ofInt 64 (m - 1)).toNat, ?_, ?_⟩
  · rw [BitVec.toNat_and]
    have h3 := Nat.and_le_right (n := (BitVec.ofInt 64 r).toNat) (m := (BitVec.ofInt 64 (m - 1)).toNat)
    have h4 : (BitVec.ofInt 64 (m - 1)).toNat = (m - 1).toNat := by rw [BitVec.toNat_ofInt]; omega
    omega
  · rw [e, BitVec.toNat_and]
    have h3 := Nat.and_le_right (n := (BitVec.ofInt 64 r).toNat) (m := (BitVec.ofInt 64 (m - 1)).toNat)
    have h4 : (BitVec.ofInt 64 (m - 1)).toNat = (m - 1).toNat := by rw [BitVec.toNat_ofInt]; omega
    generalize (BitVec.ofInt 64 r).toNat &&& (BitVec.ofInt 64 (m - 1)).toNat = z at *
    simp only [IntKind.wrap_i64]
    simp [IntKind.wrap, IntKind.bits, IntKind.signed]; omega
end Go.Proofs.YtfanjfbenhocnaaGreatDoor.Len
