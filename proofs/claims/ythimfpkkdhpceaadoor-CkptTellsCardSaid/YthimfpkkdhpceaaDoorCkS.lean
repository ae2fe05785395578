/-
  ckpt.Same: are two checkpoints the same?
-/
import Derived.Test.YthimfpkkdhpceaaDoorCkD
namespace Go.Proofs.YthimfpkkdhpceaaDoor.Ck
open Go.Pl Go.Proofs.YthimfpkkdhpceaaDoor.W Go.Proofs.YthimfpkkdhpceaaDoor.Byts Go.Proofs.YthimfpkkdhpceaaDoor.Four Go.Proofs.YthimfpkkdhpceaaDoor.Adl Go.Proofs.YthimfpkkdhpceaaDoor.Head Go.Proofs.YthimfpkkdhpceaaDoor.Geo
def sameC (c d : Chk) : Bool := (c.num == d.num) && ((c.ses == d.ses) && ((c.seq == d.seq) && ((c.z == d.z && (c.p == d.p && c.b == d.b)) && decide (c.dir = d.dir))))
theorem sameC_iff (c d : Chk) : sameC c d = true ↔ c = d := by
  obtain ⟨a1, a2, a3, a4, a5, a6, a7⟩ := c
  obtain ⟨b1, b2, b3, b4, b5, b6, b7⟩ := d
  simp [sameC, and_assoc]
theorem csame_ok (c d : Chk) (ca da : Option Addr) (cc dc : Nat) (h : Heap) (rc : Ar .u32 h ca c.dir) (rd : Ar .u32 h da d.dir) (hl : c.dir.length ≤ 1000) :
    CallsH Tryd.prog 23 [chkV c ca cc, chkV d da dc] h fun v h' => v = .bool (sameC c d) ∧ New h h' := by
  refine fun_ok Geo.hm' Tryd.func23 (by kernel_rfl) (F23_eq _ _ _ _ _ _ _ _ _ _ _ _ _ _ _ _ _ _ _ h) ?_
  unfold F23
  refine new_of fun h1 b1 n1 s1 => new_of fun h2 b2 n2 s2 => ?_
  have b1 := b1.new n2
  have n02 := n1.trans n2
  refine ld_of (c := .int .u32) c.num (by rw [add_mk, cellH_blk b1]; rfl) (ld_of (c := .int .u32) d.num (by rw [add_mk, cellH_blk b2]; rfl) (br_of (fun e1 => ?_) fun e1 => ⟨by unfold sameC; rw [e1]; rfl, n02⟩))
  refine ld_of (c := .int .u32) c.ses (by rw [add_mk, cellH_blk b1]; rfl) (ld_of (c := .int .u32) d.ses (by rw [add_mk, cellH_blk b2]; rfl) (br_of (fun e2 => ?_) fun e2 => ⟨by unfold sameC; rw [e1, e2]; rfl, n02⟩))
  refine ld_of (c := .int .u32) c.seq (by rw [add_mk, cellH_blk b1]; rfl) (ld_of (c := .int .u32) d.seq (by rw [add_mk, cellH_blk b2]; rfl) (br_of (fun e3 => ?_) fun e3 => ⟨by unfold sameC; rw [e1, e2, e3]; rfl, n02⟩))
  refine ldAgg_add (o := 0) (c.z, c.p, c.b) b1 ⟨rfl, rfl, rfl, trivial⟩ (ldAgg_add (o := 0) (d.z, d.p, d.b) b2 ⟨rfl, rfl, rfl, trivial⟩ ⟨_, geo_eq c.z c.p c.b d.z d.p d.b, br_of (fun e4 => ?_) fun e4 => ⟨by unfold sameC; rw [e1, e2, e3, e4]; rfl, n02⟩⟩)
  refine ld_of (c := .slice) (ca, c.dir.length, cc) (by rw [add_mk, cellH_blk b1]; rfl) (ld_of (c := .slice) (da, d.dir.length, dc) (by rw [add_mk, cellH_blk b2]; rfl) (call_of (equal_ok ca da cc dc c.dir d.dir h2 (by omega) (rc.new n02) (rd.new n02)) ?_))
  rintro v h' ⟨rfl, hh⟩; subst h'
  exact ⟨_, rfl, by unfold sameC; rw [e1, e2, e3, e4]; rfl, n02⟩
end Go.Proofs.YthimfpkkdhpceaaDoor.Ck
