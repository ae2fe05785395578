/-
  The statement LruKept, out of the contract of its function: for every input the call returns true, and what came in reads as it did. No condition.
-/
import Derived.Test.YtfanjfbenhocnaaRows
import Derived.Test.YtfanjfbenhocnaaLruK
import Derived.Test.YtfanjfbenhocnaaClose
import Derived.ProofKit
import Derived.OpenShut
import Derived.ShutString
import Derived.ChangeOld
import Derived.Below
import Derived.SizedLaws
import Derived.Carry
import Derived.Lib.SmallJoins
namespace Go.Proofs.Ytfanjfbenhocnaa.lruKept
open Go.ChangeShapes Go.WideShapes Go.ChangeAt Go.RowKit Go.Pl
open Go.ChangeMaps (open_string shut_string)
theorem own : ownKnob Try.prog.godebug = none := by kernel_rfl
theorem laidOut : laidOutB Try.prog = true := by kernel_rfl
set_option maxRecDepth 100000 in
theorem lifted (os : Os) (started : os.Started) (H : Type) (enc : TypeId × Value → H) :
    ReturnsInHanded {} Try.checked os 6 .any (Rows.lruKeptSpec.pre6 enc Try.prog Try.f6 Rows.lruKeptRow.domain false) (Rows.lruKeptSpec.post enc Try.prog Try.f6 false true false false) := by
  refine returnsInHanded_of_change_sized (C := Try.checked) own started (by kernel_rfl) Try.func6
    (ChangeSpec.witness6 (enc := enc) (C := Try.checked) false ⟨#[], #[.int .i64 0, .slice none 0 0], []⟩ 8 (by kernel_rfl) (by kernel_rfl) (by kernel_rfl) (by kernel_rfl)) ?_
  intro W base args ds gs before hval0 hW _ _ _
  have hval : ∀ (j : Nat) t v, Try.f6.params[j]? = some t → args[j]? = some v → Value.okWide Try.prog W .any base t v := hval0
  have hW' := hW
  obtain ⟨p, q, hA0, hV, rfl, hfz, hnd⟩ := hW
  have hA : DataW.TrodAll enc Try.prog W 0 (fun _ => true) true Try.f6.params.toList args.toList ds p := hA0
  rw [Try.params6] at hA hval
  obtain ⟨v0, vs0, d0, ds0, p0, q0, hargs, rfl, rfl, h0, r0⟩ := trodAll_cons hA
  obtain ⟨v1, vs1, d1, ds1, p1, q1, rfl, rfl, rfl, h1, r1⟩ := trodAll_cons r0
  obtain ⟨rfl, rfl, rfl⟩ := trodAll_nil r1
  obtain rfl : args = #[v0, v1] := by cases args; simp_all
  obtain ⟨rfl, rfl⟩ := trodVars_none hV
  obtain ⟨a0, rfl, rfl, rfl, w0⟩ := open_int Try.underlying3 (hval 0 3 v0 rfl rfl) h0
  obtain ⟨a1, len1, cap1, rfl⟩ := okWide_slice Try.underlying45 (hval 1 45 v1 rfl rfl)
  have lt1 : ∀ x ∈ p1, x.block < W.heap.size := by obtain ⟨m, hm⟩ := h1; exact DataW.trod_lt m _ _ _ hm
  have s1 : Go.Proofs.Ytfanjfbenhocnaa.Lru.IntsAt W.heap a1 len1 := by
    intro i hi
    obtain ⟨x, rfl, v0, n0, y0, hc0, ht0⟩ := slice_cells1 Try.underlying45 (by kernel_rfl) h1 i hi
    obtain ⟨z0, hv0, _, _⟩ := DataW.trod_int Try.underlying3 ht0
    simp only [List.cons.injEq, and_true] at hv0
    subst hv0
    exact ⟨x, rfl, by have := cell_lt hc0; rwa [show ∀ (a : Addr) n, (a.add n).block = a.block from fun a n => by unfold Addr.add; split <;> rfl] at this, z0, hc0⟩
  clear hA0 hval0
  refine (row_of ((fun (slots : Int) (l : Option Addr) (len cap : Nat) => Go.Proofs.Ytfanjfbenhocnaa.Lru.kept_law slots l len cap) a0 a1 len1 cap1 W.heap s1)).mono fun e W' ⟨he, bel⟩ => ?_
  subst he
  exact ⟨_, rfl, _, _, _, [], _, [], hW', trodAll_mk1 (shut_bool Try.underlying4 _), (trodAll_cons_mk (shut_int Try.underlying3 w0) (trodAll_cons_mk (Below.trod laidOut (by kernel_rfl) (of_decide_eq_true (by kernel_rfl)) h1 bel lt1) trodAll_mk0)), rfl, bel.frame _, fun h => by cases h⟩
theorem over : Rows.lruKeptRow.holds Try.pinned (OpenSpec.ofChange Rows.lruKeptSpec) :=
  OpenClaim.holds_of_wide 6 Try.f6 rfl rfl rfl rfl rfl rfl rfl ⟨rfl, rfl, rfl, rfl, rfl⟩ rfl rfl rfl rfl rfl (by kernel_rfl) Try.func6 (by kernel_rfl)
    (of_decide_eq_true (by kernel_rfl)) (by unfold Func.isWrapper; first | (rw [if_pos (by decide +kernel)]; kernel_rfl) | (rw [if_neg (by decide +kernel)]; exact ⟨rfl, rfl⟩))
    (fun os started H enc _ => lifted os started H enc)
theorem proved : Rows.LruKeptSaid := over
#print axioms proved
end Go.Proofs.Ytfanjfbenhocnaa.lruKept
namespace Go.Proofs.Ytfanjfbenhocnaa
/-- The row, under a short name, for the claim. -/
theorem lruKept_holds : Rows.LruKeptSaid := lruKept.proved
end Go.Proofs.Ytfanjfbenhocnaa
