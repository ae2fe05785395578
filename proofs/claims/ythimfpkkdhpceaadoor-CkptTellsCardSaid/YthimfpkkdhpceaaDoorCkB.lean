/-
  ckpt.Blocks.
-/
import Derived.Test.YthimfpkkdhpceaaDoorCkS
import Derived.Test.YthimfpkkdhpceaaDoorSum
import Derived.Test.YthimfpkkdhpceaaDoorAs
namespace Go.Proofs.YthimfpkkdhpceaaDoor.Ck
open Go.Pl Go.Proofs.YthimfpkkdhpceaaDoor.W Go.Proofs.YthimfpkkdhpceaaDoor.Byts Go.Proofs.YthimfpkkdhpceaaDoor.Four Go.Proofs.YthimfpkkdhpceaaDoor.Adl Go.Proofs.YthimfpkkdhpceaaDoor.Head Go.Proofs.YthimfpkkdhpceaaDoor.Geo Go.Proofs.YthimfpkkdhpceaaDoor.Rng Go.Proofs.YthimfpkkdhpceaaDoor.As
abbrev ChkY : List CTy := [.int .u32, .int .u32, .int .u32, .int .i64, .int .i64, .int .i64, .slice]
abbrev ChkC := Int × Int × Int × Int × Int × Int × (Option Addr × Nat × Nat)
def chkC (c : Chk) (da : Option Addr) (dc : Nat) : ChkC := (c.num, c.ses, c.seq, c.z, c.p, c.b, (da, c.dir.length, dc))
theorem ldChk {h : Heap} {b : Nat} {T : TypeId} {c : Chk} {da : Option Addr} {dc : Nat} (bb : Blk h b (chkA c da dc) T) {F : ChkC → Prop} (hF : F (chkC c da dc)) : ldAggW ChkY ⟨b, 0, none⟩ F h :=
  ldAgg_blk (chkC c da dc) bb ⟨rfl, rfl, rfl, rfl, rfl, rfl, rfl, trivial⟩ hF
theorem new_taken {h h1 h2 : Heap} (n : New h h1) (t : Taken h.size h1 h2) : New h h2 := ⟨by rw [t.size]; exact n.size, fun b hb => (Tk_low t hb).trans (n.same b hb)⟩
theorem blocks_no (c : Chk) (da : Option Addr) (dc : Nat) (h : Heap) (hr : rightC c = false) :
    CallsH Tryd.prog 11 [chkV c da dc] h fun v h' => v = .tuple #[.slice none 0 0, errV 1] ∧ New h h' := by
  refine fun_ok Geo.hm' Tryd.func11 (by kernel_rfl) (F11_eq _ _ _ _ _ _ _ _ _ _ h) ?_
  unfold F11
  refine new_of fun h1 b1 n1 s1 => ldChk b1 (call_of (right_ok c da dc h1) ?_)
  rintro v h2 ⟨rfl, n2⟩
  exact ⟨rightC c, rfl, br_t (by rw [hr]; rfl) fun h3 t3 => ⟨rfl, new_taken (n1.trans n2) t3⟩⟩
end Go.Proofs.YthimfpkkdhpceaaDoor.Ck
