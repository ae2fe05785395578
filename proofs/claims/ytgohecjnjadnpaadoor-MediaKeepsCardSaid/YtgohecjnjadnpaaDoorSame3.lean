/-
  The contract of the comparison of two rows of bytes.
-/
import Derived.Test.YtgohecjnjadnpaaDoorWR3
import Derived.Test.YtgohecjnjadnpaaDoorArr
namespace Go.Proofs.YtgohecjnjadnpaaDoor.Same3
open Go.Pl Go.Proofs.YtgohecjnjadnpaaDoor.W
theorem same_ok (a b : Option Addr) (n m ca cb : Nat) (h : Heap) (xs ys : List Int) (hx : n = xs.length) (hy : m = ys.length) (hn : n ≤ 9223372036854775806) (ra : Ar .u8 h a xs) (rb : Ar .u8 h b ys) :
    CallsH Tryd.prog 19 [.slice a n ca, .slice b m cb] h fun v h' => v = .bool (decide (xs = ys)) ∧ h' = h := by
  refine fun_ok (by kernel_rfl) Tryd.func19 (by kernel_rfl) (F19_eq _ _ _ _ _ _ _ h) ?_
  unfold F19
  subst hx; subst hy
  refine br_of (fun hne => ?_) (fun heq => ?_)
  · have : xs ≠ ys := fun e => by subst e; simp at hne
    exact ⟨by simp [this], rfl⟩
  have hl : xs.length = ys.length := by simp at heq; omega
  refine ⟨fun (s : Int) h' => h' = h ∧ ∃ i : Nat, s = i ∧ i ≤ xs.length ∧ xs.take i = ys.take i, fun (s : Int) _ => (xs.length - s).toNat, ⟨rfl, 0, rfl, by omega, rfl⟩, ?_⟩
  rintro s j h' ⟨hh, i, rfl, hi, hpre⟩
  subst h'
  refine br_of (fun hlt => ?_) (fun hlt => ?_)
  · have hlt : i < xs.length := by simp at hlt; omega
    refine ix_ld ra hlt (by omega) (ix_ld rb (by omega) (by omega) (br_of (fun hd => ?_) (fun hd => ?_)))
    · have hd : xs[i] ≠ ys[i] := by simpa using hd
      have : xs ≠ ys := fun e => by subst e; exact hd rfl
      exact ⟨by simp [this], by trivial⟩
    · have hd : xs[i] = ys[i] := by simpa using hd
      rw [wr64 (by omega) (by omega)]
      refine ⟨⟨by trivial, i + 1, by omega, by omega, ?_⟩, by dsimp only; omega⟩
      rw [List.take_add_one, List.take_add_one, hpre, List.getElem?_eq_getElem hlt, List.getElem?_eq_getElem (show i < ys.length by omega), hd]
  · have hi : i = xs.length := by simp at hlt; omega
    subst hi
    rw [List.take_length] at hpre
    rw [hl, List.take_length] at hpre
    exact ⟨by simp [hpre], rfl⟩
/-- The same where it is told as a call that leaves memory as it is. -/
theorem same_q (a b : Option Addr) (n m ca cb : Nat) (h : Heap) (xs ys : List Int) (hx : n = xs.length) (hy : m = ys.length) (hn : n ≤ 9223372036854775806) (ra : Ar .u8 h a xs) (rb : Ar .u8 h b ys) {F : Bool → Prop} (hF : F (decide (xs = ys))) :
    callQ Tryd.prog 19 [.slice a n ca, .slice b m cb] [.sc .bool] F h :=
  ⟨decide (xs = ys), fun h' e => same_ok a b n m ca cb h' xs ys hx hy hn (ra.new e.new) (rb.new e.new), hF⟩
end Go.Proofs.YtgohecjnjadnpaaDoor.Same3
