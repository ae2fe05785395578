/-
  The reference of geo: its contracts.
-/
import Derived.Test.YtgohecjnjadnpaaDoorWR2
import Derived.Test.YtgohecjnjadnpaaDoorGeo
import Derived.Test.YtgohecjnjadnpaaDoorSep
namespace Go.Proofs.YtgohecjnjadnpaaDoor.R2
open Go.Pl Go.Proofs.YtgohecjnjadnpaaDoor.W Go.Proofs.YtgohecjnjadnpaaDoor.Geo
theorem tab_ok (n : Int) (h : Heap) (h0 : 0 ≤ n) (h1 : n ≤ 1000000) : CallsH Tryd.prog 103 [.int .i64 n] h fun v h' => v = .int .i64 ((n + 3) / 4) ∧ h' = h := by
  refine fun_ok hm' Tryd.func103 (by kernel_rfl) (F103_eq _ _ h) ?_
  unfold F103
  rw [Int.tdiv_eq_ediv_of_nonneg h0, Int.tmod_eq_emod_of_nonneg h0, wr64 (n := n / 4) (by omega) (by omega), wr64 (by omega) (by omega)]
  refine br_of (fun hb => ⟨?_, rfl⟩) (fun hb => ⟨?_, rfl⟩)
  · have := of_decide_eq_true hb
    rw [show n / 4 + 1 = (n + 3) / 4 by omega]
  · have := of_decide_eq_false hb
    rw [show n / 4 = (n + 3) / 4 by omega]
theorem rbound_ok (z p : Int) (h : Heap) : CallsH Tryd.prog 84 [.int .i64 z, .int .i64 p] h fun v h' => v = .int .i64 (boundF z p) ∧ h' = h := by
  refine fun_ok hm' Tryd.func84 (by kernel_rfl) (F84_eq _ _ _ h) ?_
  unfold F84
  have no : ¬ ((11 ≤ z ∧ z ≤ 24) ∧ 4 ≤ p ∧ p ≤ 16) → boundF z p = 0 := fun hh => if_neg hh
  refine cut_q (ts := []) (fun _ h' => h' = h ∧ (11 ≤ z ∧ z ≤ 24) ∧ 4 ≤ p ∧ p ≤ 16) ?_ ?_
  rotate_left
  · intro K hK
    refine br_of (fun h1 => ⟨by rw [no (by have := of_decide_eq_true h1; omega)], rfl⟩) fun h1 => br_of (fun h2 => ⟨by rw [no (by have := of_decide_eq_true h2; omega)], rfl⟩) fun h2 => br_of (fun h3 => ⟨by rw [no (by have := of_decide_eq_true h3; omega)], rfl⟩) fun h3 => br_of (fun h4 => ⟨by rw [no (by have := of_decide_eq_true h4; omega)], rfl⟩) fun h4 => hK () _ ⟨rfl, ?_⟩
    have h1 := of_decide_eq_false h1; have h2 := of_decide_eq_false h2; have h3 := of_decide_eq_false h3; have h4 := of_decide_eq_false h4
    omega
  rintro _ h' ⟨hh, hz, hp⟩ _; subst h'
  have hb : boundF z p = boundFrom z p 64 := if_pos ⟨hz, hp⟩
  have hzp : 0 ≤ (z - 7) * p ∧ (z - 7) * p ≤ 17 * 16 := ⟨Int.mul_nonneg (by omega) (by omega), Int.mul_le_mul (by omega) (by omega) (by omega) (by omega)⟩
  refine ⟨fun (s : Int × Int) h' => h' = h ∧ ∃ i : Nat, s = (boundFrom z p i, ((i + 1 : Nat) : Int)) ∧ i ≤ 64, fun (s : Int × Int) _ => (65 - s.2).toNat, ⟨rfl, 0, rfl, by omega⟩, ?_⟩
  rintro s j h' ⟨hh, i, rfl, hi⟩; subst h'
  have hbl := boundFrom_le z p i
  refine br_of (fun hlt => ?_) (fun hlt => ?_)
  · have hlt : ((i + 1 : Nat) : Int) ≤ 64 := of_decide_eq_true hlt
    have e3 : IntKind.wrap .i64 (((i + 1 : Nat) : Int) + 1) = ((i + 1 + 1 : Nat) : Int) := by rw [wr64 (by omega) (by omega)]; rfl
    have step : ∀ b : Int, b = boundFrom z p (i + 1) → (h = h ∧ ∃ i' : Nat, (b, ((i + 1 + 1 : Nat) : Int)) = (boundFrom z p i', ((i' + 1 : Nat) : Int)) ∧ i' ≤ 64) ∧ ((65 : Int) - ((i + 1 + 1 : Nat) : Int)).toNat < ((65 : Int) - ((i + 1 : Nat) : Int)).toNat := fun b hb => ⟨⟨rfl, i + 1, by rw [hb], by omega⟩, by omega⟩
    have e4 : IntKind.wrap .i64 ((IntKind.wrap .i64 (z - (7 : Int))) * p) = (z - 7) * p := by rw [wr64 (n := z - 7) (by omega) (by omega), wr64 (by omega) (by omega)]
    have e5 : IntKind.wrap .i64 ((2 : Int) * IntKind.wrap .i64 (((i + 1 : Nat) : Int) + (((i + 1 : Nat) : Int) + 3) / 4)) = 2 * (((i + 1 : Nat) : Int) + (((i + 1 : Nat) : Int) + 3) / 4) := by rw [wr64 (n := ((i + 1 : Nat) : Int) + _) (by omega) (by omega), wr64 (by omega) (by omega)]
    refine call_of (tab_ok ((i + 1 : Nat) : Int) h (by omega) (by omega)) ?_
    rintro v h' ⟨rfl, hh⟩; subst h'
    refine ⟨((((i + 1 : Nat) : Int) + 3) / 4 : Int), rfl, br_of (fun h1 => ?_) fun h1 => ?_⟩
    · refine call_of (tab_ok ((i + 1 : Nat) : Int) h (by omega) (by omega)) ?_
      rintro v h' ⟨rfl, hh⟩; subst h'
      refine ⟨((((i + 1 : Nat) : Int) + 3) / 4 : Int), rfl, ?_⟩
      rw [e3, e4, e5]
      have h1 : (((i + 1 : Nat) : Int) + 3) / 4 ≤ p := of_decide_eq_true h1
      refine br_of (fun h2 => step _ ?_) (fun h2 => step _ ?_)
      · have h2 : 2 * (((i + 1 : Nat) : Int) + (((i + 1 : Nat) : Int) + 3) / 4) ≤ (z - 7) * p := of_decide_eq_true h2
        simp only [boundFrom]
        rw [if_pos]
        unfold okB
        rw [decide_eq_true h1, decide_eq_true (by generalize (z - 7) * p = Q at *; omega)]; rfl
      · have h2 : ¬ 2 * (((i + 1 : Nat) : Int) + (((i + 1 : Nat) : Int) + 3) / 4) ≤ (z - 7) * p := of_decide_eq_false h2
        simp only [boundFrom]
        rw [if_neg]
        unfold okB
        rw [decide_eq_false (p := _ ≤ (z - 7) * p / 2) (by generalize (z - 7) * p = Q at *; omega)]; simp
    · rw [e3]
      have h1 : ¬ (((i + 1 : Nat) : Int) + 3) / 4 ≤ p := of_decide_eq_false h1
      refine step _ ?_
      simp only [boundFrom]
      rw [if_neg]
      unfold okB
      rw [decide_eq_false (p := _ ≤ p) h1]; simp
  · have hlt : ¬ ((i + 1 : Nat) : Int) ≤ 64 := of_decide_eq_false hlt
    have : i = 64 := by omega
    subst this
    exact ⟨by rw [hb], rfl⟩
theorem rright_ok (z p b : Int) (h : Heap) : CallsH Tryd.prog 43 [.agg #[.int .i64 z, .int .i64 p, .int .i64 b]] h fun v h' => v = .bool (rightB z p b) ∧ New h h' := by
  refine fun_ok hm' Tryd.func43 (by kernel_rfl) (F43_eq _ _ _ _ h) ?_
  unfold F43
  refine new_of fun h2 b2 n2 s2 => ld_of (c := .int .i64) b (by rw [add_mk, cellH_blk b2]; rfl) (br_of (fun h1 => ?_) fun h1 => ⟨?_, n2⟩)
  · refine ld_of (c := .int .i64) b (by rw [add_mk, cellH_blk b2]; rfl) (ld_of (c := .int .i64) z (by rw [add_mk, cellH_blk b2]; rfl) (ld_of (c := .int .i64) p (by rw [add_mk, cellH_blk b2]; rfl) (call_of (rbound_ok z p h2) ?_)))
    rintro v h' ⟨rfl, hh⟩; subst h'
    refine ⟨boundF z p, rfl, by rw [add_mk, cellH_blk b2]; rfl, ?_, n2⟩
    unfold rightB
    rw [decide_eq_true (p := 1 ≤ b) (of_decide_eq_true h1), Bool.and_true]
  · unfold rightB
    rw [decide_eq_false (p := 1 ≤ b) (of_decide_eq_false h1), Bool.and_false]
end Go.Proofs.YtgohecjnjadnpaaDoor.R2
