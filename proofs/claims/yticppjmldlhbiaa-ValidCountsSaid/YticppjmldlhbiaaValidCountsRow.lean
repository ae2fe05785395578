/-
  The statement ValidCounts, out of the contract of its function: for every input the call returns true, and what came in reads as it did. No condition.
-/
import Derived.Test.YticppjmldlhbiaaRows
import Derived.Test.YticppjmldlhbiaaValidWalk
import Derived.Test.YticppjmldlhbiaaClose
import Derived.ProofKit
import Derived.OpenShut
import Derived.ShutString
import Derived.ChangeOld
import Derived.Below
import Derived.SizedLaws
import Derived.Carry
import Derived.Lib.SmallJoins
namespace Go.Proofs.Yticppjmldlhbiaa.validCounts
open Go.ChangeShapes Go.WideShapes Go.ChangeAt Go.RowKit Go.Pl
open Go.ChangeMaps (open_string shut_string)
theorem own : ownKnob Try.prog.godebug = none := by kernel_rfl
theorem laidOut : laidOutB Try.prog = true := by kernel_rfl
set_option maxRecDepth 100000 in
theorem lifted (os : Os) (started : os.Started) (H : Type) (enc : TypeId × Value → H) :
    ReturnsInHanded {} Try.checked os 3 .any (Rows.validCountsSpec.pre6 enc Try.prog Try.f3 Rows.validCountsRow.domain false) (Rows.validCountsSpec.post enc Try.prog Try.f3 false true false false) := by
  refine returnsInHanded_of_change_sized (C := Try.checked) own started (by kernel_rfl) Try.func3
    (ChangeSpec.witness6 (enc := enc) (C := Try.checked) false ⟨#[], #[.agg #[.int .i64 0, .int .i64 0, .int .i64 0], .slice none 0 0], []⟩ 8 (by kernel_rfl) (by kernel_rfl) (by kernel_rfl) (by kernel_rfl)) ?_
  intro W base args ds gs before hval0 hW _ _ _
  have hval : ∀ (j : Nat) t v, Try.f3.params[j]? = some t → args[j]? = some v → Value.okWide Try.prog W .any base t v := hval0
  have hW' := hW
  obtain ⟨p, q, hA0, hV, rfl, hfz, hnd⟩ := hW
  have hA : DataW.TrodAll enc Try.prog W 0 (fun _ => true) true Try.f3.params.toList args.toList ds p := hA0
  rw [Try.params3] at hA hval
  obtain ⟨v0, vs0, d0, ds0, p0, q0, hargs, rfl, rfl, h0, r0⟩ := trodAll_cons hA
  obtain ⟨v1, vs1, d1, ds1, p1, q1, rfl, rfl, rfl, h1, r1⟩ := trodAll_cons r0
  obtain ⟨rfl, rfl, rfl⟩ := trodAll_nil r1
  obtain rfl : args = #[v0, v1] := by cases args; simp_all
  obtain ⟨rfl, rfl⟩ := trodVars_none hV
  obtain ⟨cs0, rfl, _⟩ := okWide_struct Try.underlying23 (hval 0 23 v0 rfl rfl)
  have lt0 : ∀ x ∈ p0, x.block < W.heap.size := by obtain ⟨m, hm⟩ := h0; exact DataW.trod_lt m _ _ _ hm
  obtain ⟨hl0, hx0⟩ := struct_cells Try.underlying23 (by kernel_rfl) (by kernel_rfl) h0
  obtain ⟨v0_0, _, _, hc0_0, ht0_0⟩ := hx0 0 _ rfl
  obtain ⟨z0_0, hv0_0, _, _⟩ := DataW.trod_int Try.underlying3 ht0_0
  simp only [List.cons.injEq, and_true] at hv0_0
  subst hv0_0
  obtain ⟨v0_1, _, _, hc0_1, ht0_1⟩ := hx0 1 _ rfl
  obtain ⟨z0_1, hv0_1, _, _⟩ := DataW.trod_int Try.underlying3 ht0_1
  simp only [List.cons.injEq, and_true] at hv0_1
  subst hv0_1
  obtain ⟨v0_2, _, _, hc0_2, ht0_2⟩ := hx0 2 _ rfl
  obtain ⟨z0_2, hv0_2, _, _⟩ := DataW.trod_int Try.underlying3 ht0_2
  simp only [List.cons.injEq, and_true] at hv0_2
  subst hv0_2
  obtain rfl : cs0 = #[.int .i64 z0_0, .int .i64 z0_1, .int .i64 z0_2] := by
    apply Array.ext'
    refine list_of hl0 fun j hj => ?_
    match j, hj with
    | 0, _ => exact hc0_0
    | 1, _ => exact hc0_1
    | 2, _ => exact hc0_2
  obtain ⟨a1, len1, cap1, rfl⟩ := okWide_slice Try.underlying24 (hval 1 24 v1 rfl rfl)
  have lt1 : ∀ x ∈ p1, x.block < W.heap.size := by obtain ⟨m, hm⟩ := h1; exact DataW.trod_lt m _ _ _ hm
  have s1 : Go.Proofs.Yticppjmldlhbiaa.Valid.ActsAt W.heap a1 len1 := by
    intro i hi
    obtain ⟨x, rfl, hx⟩ := slice_cells Try.underlying24 Try.underlying33 (by kernel_rfl) (by kernel_rfl) h1 i hi
    obtain ⟨v0, n0, y0, hc0, ht0⟩ := hx 0 _ rfl
    obtain ⟨z0, hv0, _, hw0⟩ := DataW.trod_int Try.underlying3 ht0
    simp only [List.cons.injEq, and_true] at hv0
    subst hv0
    obtain ⟨v1, n1, y1, hc1, ht1⟩ := hx 1 _ rfl
    obtain ⟨z1, hv1, _, hw1⟩ := DataW.trod_int Try.underlying31 ht1
    simp only [List.cons.injEq, and_true] at hv1
    subst hv1
    exact ⟨x, rfl, by have := cell_lt hc0; rwa [show ∀ (a : Addr) n, (a.add n).block = a.block from fun a n => by unfold Addr.add; split <;> rfl, show ∀ (a : Addr) n, (a.add n).block = a.block from fun a n => by unfold Addr.add; split <;> rfl] at this, z0, z1, hc0, hc1, hw0, hw1⟩
  clear hA0 hval0
  refine (row_of ((fun (z p b : Int) (l : Option Addr) (len cap : Nat) => Go.Proofs.Yticppjmldlhbiaa.Valid.counts_law z p b l len cap) z0_0 z0_1 z0_2 a1 len1 cap1 W.heap s1)).mono fun e W' ⟨he, bel⟩ => ?_
  subst he
  exact ⟨_, rfl, _, _, _, [], _, [], hW', trodAll_mk1 (shut_bool Try.underlying4 _), (trodAll_cons_mk (Below.trod laidOut (by kernel_rfl) (of_decide_eq_true (by kernel_rfl)) h0 bel lt0) (trodAll_cons_mk (Below.trod laidOut (by kernel_rfl) (of_decide_eq_true (by kernel_rfl)) h1 bel lt1) trodAll_mk0)), rfl, bel.frame _, fun h => by cases h⟩
theorem over : Rows.validCountsRow.holds Try.pinned (OpenSpec.ofChange Rows.validCountsSpec) :=
  OpenClaim.holds_of_wide 3 Try.f3 rfl rfl rfl rfl rfl rfl rfl ⟨rfl, rfl, rfl, rfl, rfl⟩ rfl rfl rfl rfl rfl (by kernel_rfl) Try.func3 (by kernel_rfl)
    (of_decide_eq_true (by kernel_rfl)) (by unfold Func.isWrapper; first | (rw [if_pos (by decide +kernel)]; kernel_rfl) | (rw [if_neg (by decide +kernel)]; exact ⟨rfl, rfl⟩))
    (fun os started H enc _ => lifted os started H enc)
theorem proved : Rows.ValidCountsSaid := over
#print axioms proved
end Go.Proofs.Yticppjmldlhbiaa.validCounts
namespace Go.Proofs.Yticppjmldlhbiaa
/-- The row, under a short name, for the claim. -/
theorem validCounts_holds : Rows.ValidCountsSaid := validCounts.proved
end Go.Proofs.Yticppjmldlhbiaa
