/-
  The statement CacheParts, out of the contract of its function: for every input the call returns true, and what came in reads as it did. No condition.
-/
import Derived.Test.YtfanjfbenhocnaaRows
import Derived.Test.YtfanjfbenhocnaaCaO
import Derived.Test.YtfanjfbenhocnaaClose
import Derived.Test.YtfanjfbenhocnaaReads
import Derived.ProofKit
import Derived.OpenShut
import Derived.ShutString
import Derived.ChangeOld
import Derived.Below
import Derived.SizedLaws
import Derived.Carry
import Derived.Lib.SmallJoins
namespace Go.Proofs.Ytfanjfbenhocnaa.cacheParts
open Go.ChangeShapes Go.WideShapes Go.ChangeAt Go.RowKit Go.Pl
open Go.ChangeMaps (open_string shut_string)
theorem own : ownKnob Try.prog.godebug = none := by kernel_rfl
theorem laidOut : laidOutB Try.prog = true := by kernel_rfl
set_option maxRecDepth 100000 in
theorem lifted (os : Os) (started : os.Started) (H : Type) (enc : TypeId × Value → H) :
    ReturnsInHanded {} Try.checked os 9 .any (Rows.cachePartsSpec.pre6 enc Try.prog Try.f9 Rows.cachePartsRow.domain false) (Rows.cachePartsSpec.post enc Try.prog Try.f9 false true false false) := by
  refine returnsInHanded_of_change_sized (C := Try.checked) own started (by kernel_rfl) Try.func9
    (ChangeSpec.witness6 (enc := enc) (C := Try.checked) false ⟨#[], #[.int .i64 0, .slice none 0 0, .int .i64 0], []⟩ 8 (by kernel_rfl) (by kernel_rfl) (by kernel_rfl) (by kernel_rfl)) ?_
  intro W base args ds gs before hval0 hW _ _ _
  have hval : ∀ (j : Nat) t v, Try.f9.params[j]? = some t → args[j]? = some v → Value.okWide Try.prog W .any base t v := hval0
  have hW' := hW
  obtain ⟨p, q, hA0, hV, rfl, hfz, hnd⟩ := hW
  have hA : DataW.TrodAll enc Try.prog W 0 (fun _ => true) true Try.f9.params.toList args.toList ds p := hA0
  rw [Try.params9] at hA hval
  obtain ⟨v0, vs0, d0, ds0, p0, q0, hargs, rfl, rfl, h0, r0⟩ := trodAll_cons hA
  obtain ⟨v1, vs1, d1, ds1, p1, q1, rfl, rfl, rfl, h1, r1⟩ := trodAll_cons r0
  obtain ⟨v2, vs2, d2, ds2, p2, q2, rfl, rfl, rfl, h2, r2⟩ := trodAll_cons r1
  obtain ⟨rfl, rfl, rfl⟩ := trodAll_nil r2
  obtain rfl : args = #[v0, v1, v2] := by cases args; simp_all
  obtain ⟨rfl, rfl⟩ := trodVars_none hV
  obtain ⟨x0, rd0⟩ := reads_of (d := 8) (s := (.int .i64)) (by kernel_rfl) (by obtain ⟨n, e⟩ := okWide_int Try.underlying3 (hval 0 3 v0 rfl rfl); rw [e]; rfl) h0
  have lt0 : ∀ x ∈ p0, x.block < W.heap.size := by obtain ⟨m, hm⟩ := h0; exact DataW.trod_lt m _ _ _ hm
  obtain ⟨x1, rd1⟩ := reads_of (d := 8) (s := (.slice (.pair (.int .i64) (.pair (.int .i64) (.pair (.int .u32) .bool))))) (by kernel_rfl) (by obtain ⟨a, l, c, e⟩ := okWide_slice Try.underlying58 (hval 1 58 v1 rfl rfl); rw [e]; rfl) h1
  have lt1 : ∀ x ∈ p1, x.block < W.heap.size := by obtain ⟨m, hm⟩ := h1; exact DataW.trod_lt m _ _ _ hm
  obtain ⟨x2, rd2⟩ := reads_of (d := 8) (s := (.int .i64)) (by kernel_rfl) (by obtain ⟨n, e⟩ := okWide_int Try.underlying3 (hval 2 3 v2 rfl rfl); rw [e]; rfl) h2
  have lt2 : ∀ x ∈ p2, x.block < W.heap.size := by obtain ⟨m, hm⟩ := h2; exact DataW.trod_lt m _ _ _ hm
  clear hA0 hval0
  refine (row_of (Ca.parts_law W.heap v0 v1 v2 x0 x1 x2 rd0 rd1 rd2)).mono fun e W' ⟨he, bel⟩ => ?_
  subst he
  exact ⟨_, rfl, _, _, _, [], _, [], hW', trodAll_mk1 (shut_bool Try.underlying4 _), (trodAll_cons_mk (Below.trod laidOut (by kernel_rfl) (of_decide_eq_true (by kernel_rfl)) h0 bel lt0) (trodAll_cons_mk (Below.trod laidOut (by kernel_rfl) (of_decide_eq_true (by kernel_rfl)) h1 bel lt1) (trodAll_cons_mk (Below.trod laidOut (by kernel_rfl) (of_decide_eq_true (by kernel_rfl)) h2 bel lt2) trodAll_mk0))), rfl, bel.frame _, fun h => by cases h⟩
theorem over : Rows.cachePartsRow.holds Try.pinned (OpenSpec.ofChange Rows.cachePartsSpec) :=
  OpenClaim.holds_of_wide 9 Try.f9 rfl rfl rfl rfl rfl rfl rfl ⟨rfl, rfl, rfl, rfl, rfl⟩ rfl rfl rfl rfl rfl (by kernel_rfl) Try.func9 (by kernel_rfl)
    (of_decide_eq_true (by kernel_rfl)) (by unfold Func.isWrapper; first | (rw [if_pos (by decide +kernel)]; kernel_rfl) | (rw [if_neg (by decide +kernel)]; exact ⟨rfl, rfl⟩))
    (fun os started H enc _ => lifted os started H enc)
theorem proved : Rows.CachePartsSaid := over
#print axioms proved
end Go.Proofs.Ytfanjfbenhocnaa.cacheParts
namespace Go.Proofs.Ytfanjfbenhocnaa
/-- The statement, under a short name, for the claim. -/
theorem cacheParts_holds : Rows.CachePartsSaid := cacheParts.proved
end Go.Proofs.Ytfanjfbenhocnaa
