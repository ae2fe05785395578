/-
  slices.Collect of slices.Chunk.
-/
import Derived.Test.YthimfpkkdhpceaaDoorCkC
import Derived.Test.YthimfpkkdhpceaaDoorRng
namespace Go.Proofs.YthimfpkkdhpceaaDoor.Ck
open Go.Pl Go.Proofs.YthimfpkkdhpceaaDoor.W Go.Proofs.YthimfpkkdhpceaaDoor.Byts Go.Proofs.YthimfpkkdhpceaaDoor.Four Go.Proofs.YthimfpkkdhpceaaDoor.Adl Go.Proofs.YthimfpkkdhpceaaDoor.Head Go.Proofs.YthimfpkkdhpceaaDoor.Geo Go.Proofs.YthimfpkkdhpceaaDoor.Rng
def partV (a : Option Addr) (m : Nat) : List Value := (List.range m).map fun j => .slice (sliceBase a (16 * j) (16 * j + 16) 1) 16 16
theorem partV_succ (a : Option Addr) (m : Nat) : partV a (m + 1) = partV a m ++ [.slice (sliceBase a (16 * m) (16 * m + 16) 1) 16 16] := by unfold partV; rw [List.range_succ, List.map_append]; rfl
theorem ap88 : apB Tryd.prog 28 55 1 24 = true := by kernel_rfl
theorem seq_ok {c0 c1 c m : Nat} {a : Option Addr} {bs : List Int} (hlen : bs.length = 16 * m) (hm : m ≤ 1000) (h : Heap) {T0 T1 : TypeId} (k0 : Blk h c0 #[.slice a bs.length c] T0) (k1 : Blk h c1 #[.int .i64 16] T1) (sb : Sl8 h a c bs) :
    CallsH Tryd.prog 86 [.slice none 0 0, .func (.func 87) #[] #[.pointer (some ⟨c0, 0, none⟩), .pointer (some ⟨c1, 0, none⟩)]] h fun v h' => ∃ la lc, v = .slice la m lc ∧ OwnH h' h.size 55 1 la m lc (partV a m) ∧ New h h' := by
  refine fun_ok Geo.hm' Tryd.func86 (by kernel_rfl) (F86_eq _ _ _ _ _ h) ?_
  unfold F86
  refine new_of fun h1 b1 n1 s1 => ?_
  refine range_chunk (c0 := c0) (c1 := c1) (c := c) (a := a) (bs := bs) (m := m) hlen hm
    (fun hq l i h2 => JL h.size 28 55 1 (fun i : Nat => i) (partV a) hq l i h2 ∧ New h1 hq ∧ h1.size ≤ l)
    (fun hq l nq h3 h4 => ⟨⟨Nat.le_refl _, fun _ _ _ _ => rfl, ⟨none, 0, b1.new nq, OwnH.nil _ _ _ _⟩, by omega, h4⟩, nq, h3⟩)
    (fun hq l i h3 h4 j o => ⟨j.1.only o, j.2⟩) (fun hq l i h3 j => ?_) ?_ ?_
  · have lo : ∀ b, b < h.size → h3[b]? = h[b]? := fun b hb => by
      have := j.2.1.size
      rw [j.1.same b (by omega) (by omega) (by have := j.2.2; omega), j.2.1.same b (by omega), n1.same b hb]
    have hN : New h h3 := ⟨by have := j.2.1.size; have := j.1.sizes; omega, lo⟩
    exact ⟨by rw [cellH_blk (k0.new hN)]; rfl, by rw [cellH_blk (k1.new hN)]; rfl, sb.new hN⟩
  · rintro hq l o Y i h3 hi ⟨j, nq, hl⟩ hend
    obtain ⟨la, lc, hb, ow⟩ := j.var
    refine ld_of (c := .slice) (la, i, lc) (by rw [cellH_blk hb]; rfl) (new_of fun h4 b4 n4 s4 => ?_)
    have j4 := j.new n4
    have ow4 : OwnH h4 hq.size 55 1 la i lc (partV a i) := ow.grow n4
    refine ap_own ap88 (by decide) ow4 [.slice (sliceBase a (16 * i) (16 * i + 16) 1) 16 16] rfl (fun q u hu => ?_) (fun u hu => by rw [List.mem_singleton.1 hu]; rfl) (by simp only [maxLen]; omega) (by omega) j4.sizes fun a' c' h5 o5 u5 => ?_
    · have hq' : q = 0 := by have := (List.getElem?_eq_some_iff.1 hu).1; simp at this; omega
      subst hq'
      rw [add_mk, cellH_blk b4]; exact hu
    · rw [← partV_succ] at o5
      exact j4.grown (pre' := i + 1) (hb.new n4) ow4 u5 rfl o5 fun h6 j6 => hend h6 ⟨j6, nq, hl⟩
  · intro hq l o h3 hE
    refine .inl (hE _ fun h4 ⟨j, nq, hl⟩ => ?_)
    obtain ⟨la, lc, hb, ow⟩ := j.var
    refine ld_of (c := .slice) (la, m, lc) (by rw [cellH_blk hb]; rfl) ?_
    intro h5 t5
    have hs := j.sizes
    have hq2 := nq.size
    refine ⟨la, lc, rfl, OwnH.low (base := hq.size) (ow.keep fun _ _ _ hg _ => Tk_blk t5 hg) (by omega), ⟨by rw [t5.size]; omega, fun b hb => ?_⟩⟩
    rw [Tk_low t5 hb, j.same b (by omega) (by omega) (by omega), nq.same b (by omega), n1.same b hb]
theorem collect_ok {c0 c1 c m : Nat} {a : Option Addr} {bs : List Int} (hlen : bs.length = 16 * m) (hm : m ≤ 1000) (h : Heap) {T0 T1 : TypeId} (k0 : Blk h c0 #[.slice a bs.length c] T0) (k1 : Blk h c1 #[.int .i64 16] T1) (sb : Sl8 h a c bs) :
    CallsH Tryd.prog 46 [.func (.func 87) #[] #[.pointer (some ⟨c0, 0, none⟩), .pointer (some ⟨c1, 0, none⟩)]] h fun v h' => ∃ la lc, v = .slice la m lc ∧ OwnH h' h.size 55 1 la m lc (partV a m) ∧ New h h' := by
  refine fun_ok Geo.hm' Tryd.func46 (by kernel_rfl) (F46_eq _ _ h) ?_
  unfold F46
  refine call_of (seq_ok hlen hm h k0 k1 sb) ?_
  rintro v h1 ⟨la, lc, rfl, o, n⟩
  exact ⟨(la, m, lc), rfl, la, lc, rfl, o, n⟩
end Go.Proofs.YthimfpkkdhpceaaDoor.Ck
