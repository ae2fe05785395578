/-
  The statement ZonesParts, out of the contract of its function: for every input the call returns true, and what came in reads as it did. No condition.
-/
import Derived.Test.YticppjmldlhbiaaRows
import Derived.Test.YticppjmldlhbiaaL13P
import Derived.Test.YticppjmldlhbiaaClose
import Derived.Test.YticppjmldlhbiaaReads
import Derived.ProofKit
import Derived.OpenShut
import Derived.ShutString
import Derived.ChangeOld
import Derived.Below
import Derived.SizedLaws
import Derived.Carry
import Derived.Lib.SmallJoins
namespace Go.Proofs.Yticppjmldlhbiaa.zonesParts
open Go.ChangeShapes Go.WideShapes Go.ChangeAt Go.RowKit Go.Pl
open Go.ChangeMaps (open_string shut_string)
theorem own : ownKnob Try.prog.godebug = none := by kernel_rfl
theorem laidOut : laidOutB Try.prog = true := by kernel_rfl
set_option maxRecDepth 100000 in
theorem lifted (os : Os) (started : os.Started) (H : Type) (enc : TypeId × Value → H) :
    ReturnsInHanded {} Try.checked os 4 .any (Rows.zonesPartsSpec.pre6 enc Try.prog Try.f4 Rows.zonesPartsRow.domain false) (Rows.zonesPartsSpec.post enc Try.prog Try.f4 false true false false) := by
  refine returnsInHanded_of_change_sized (C := Try.checked) own started (by kernel_rfl) Try.func4
    (ChangeSpec.witness6 (enc := enc) (C := Try.checked) false ⟨#[], #[.int .i64 0, .slice none 0 0], []⟩ 8 (by kernel_rfl) (by kernel_rfl) (by kernel_rfl) (by kernel_rfl)) ?_
  intro W base args ds gs before hval0 hW _ _ _
  have hval : ∀ (j : Nat) t v, Try.f4.params[j]? = some t → args[j]? = some v → Value.okWide Try.prog W .any base t v := hval0
  have hW' := hW
  obtain ⟨p, q, hA0, hV, rfl, hfz, hnd⟩ := hW
  have hA : DataW.TrodAll enc Try.prog W 0 (fun _ => true) true Try.f4.params.toList args.toList ds p := hA0
  rw [Try.params4] at hA hval
  obtain ⟨v0, vs0, d0, ds0, p0, q0, hargs, rfl, rfl, h0, r0⟩ := trodAll_cons hA
  obtain ⟨v1, vs1, d1, ds1, p1, q1, rfl, rfl, rfl, h1, r1⟩ := trodAll_cons r0
  obtain ⟨rfl, rfl, rfl⟩ := trodAll_nil r1
  obtain rfl : args = #[v0, v1] := by cases args; simp_all
  obtain ⟨rfl, rfl⟩ := trodVars_none hV
  obtain ⟨x0, rd0⟩ := reads_of (d := 8) (s := (.int .i64)) (by kernel_rfl) (by obtain ⟨n, e⟩ := okWide_int Try.underlying3 (hval 0 3 v0 rfl rfl); rw [e]; rfl) h0
  have lt0 : ∀ x ∈ p0, x.block < W.heap.size := by obtain ⟨m, hm⟩ := h0; exact DataW.trod_lt m _ _ _ hm
  obtain ⟨x1, rd1⟩ := reads_of (d := 8) (s := (.slice (.pair (.int .i64) (.int .i64)))) (by kernel_rfl) (by obtain ⟨a, l, c, e⟩ := okWide_slice Try.underlying46 (hval 1 46 v1 rfl rfl); rw [e]; rfl) h1
  have lt1 : ∀ x ∈ p1, x.block < W.heap.size := by obtain ⟨m, hm⟩ := h1; exact DataW.trod_lt m _ _ _ hm
  clear hA0 hval0
  refine (row_of (L13P.parts_law W.heap v0 v1 x0 x1 rd0 rd1)).mono fun e W' ⟨he, bel⟩ => ?_
  subst he
  exact ⟨_, rfl, _, _, _, [], _, [], hW', trodAll_mk1 (shut_bool Try.underlying4 _), (trodAll_cons_mk (Below.trod laidOut (by kernel_rfl) (of_decide_eq_true (by kernel_rfl)) h0 bel lt0) (trodAll_cons_mk (Below.trod laidOut (by kernel_rfl) (of_decide_eq_true (by kernel_rfl)) h1 bel lt1) trodAll_mk0)), rfl, bel.frame _, fun h => by cases h⟩
theorem over : Rows.zonesPartsRow.holds Try.pinned (OpenSpec.ofChange Rows.zonesPartsSpec) :=
  OpenClaim.holds_of_wide 4 Try.f4 rfl rfl rfl rfl rfl rfl rfl ⟨rfl, rfl, rfl, rfl, rfl⟩ rfl rfl rfl rfl rfl (by kernel_rfl) Try.func4 (by kernel_rfl)
    (of_decide_eq_true (by kernel_rfl)) (by unfold Func.isWrapper; first | (rw [if_pos (by decide +kernel)]; kernel_rfl) | (rw [if_neg (by decide +kernel)]; exact ⟨rfl, rfl⟩))
    (fun os started H enc _ => lifted os started H enc)
theorem proved : Rows.ZonesPartsSaid := over
#print axioms proved
end Go.Proofs.Yticppjmldlhbiaa.zonesParts
namespace Go.Proofs.Yticppjmldlhbiaa
/-- The statement, under a short name, for the claim. -/
theorem zonesParts_holds : Rows.ZonesPartsSaid := zonesParts.proved
end Go.Proofs.Yticppjmldlhbiaa
