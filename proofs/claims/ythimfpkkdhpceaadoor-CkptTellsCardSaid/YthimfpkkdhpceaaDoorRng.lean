/-
  A loop over a func, with a list in a variable.
-/
import Derived.Test.YthimfpkkdhpceaaDoorOwn
namespace Go.Proofs.YthimfpkkdhpceaaDoor.Rng
open Go.Pl
/-- Going on, with a list in the variable B. -/
structure JL {α : Type} (B : Nat) (TL TE : TypeId) (size : Nat) (len : α → Nat) (vs : α → List Value) (hq : Heap) (l : Nat) (pre : α) (h' : Heap) : Prop where
  sizes : hq.size ≤ h'.size
  same : ∀ b, b < hq.size → b ≠ B → b ≠ l → h'[b]? = hq[b]?
  var : ∃ a lc, Blk h' B #[.slice a (len pre) lc] TL ∧ OwnH h' hq.size TE size a (len pre) lc (vs pre)
  lB : B < l
  lq : l < hq.size
theorem JL.only {α : Type} {B l size : Nat} {TL TE : TypeId} {len : α → Nat} {vs : α → List Value} {hq h1 h2 : Heap} {pre : α} (j : JL B TL TE size len vs hq l pre h1) (o : Only l h1 h2) : JL B TL TE size len vs hq l pre h2 := by
  obtain ⟨a, lc, hb, ow⟩ := j.var
  have hl := j.lB
  have hq := j.lq
  exact ⟨by rw [o.size]; exact j.sizes, fun b hb h1 h2 => (o.same b h2).trans (j.same b hb h1 h2), ⟨a, lc, hb.only o (by omega), ow.keep fun g _ hg _ _ => o.same g (by omega)⟩, hl, hq⟩
theorem JL.new {α : Type} {B l size : Nat} {TL TE : TypeId} {len : α → Nat} {vs : α → List Value} {hq h1 h2 : Heap} {pre : α} (j : JL B TL TE size len vs hq l pre h1) (o : New h1 h2) : JL B TL TE size len vs hq l pre h2 := by
  obtain ⟨a, lc, hb, ow⟩ := j.var
  have hs := j.sizes
  exact ⟨Nat.le_trans hs o.size, fun b hb h1 h2 => (o.same b (by omega)).trans (j.same b hb h1 h2), ⟨a, lc, hb.new o, ow.keep fun g _ _ hg _ => o.same g hg.lt⟩, j.lB, j.lq⟩
theorem JL.stay {α : Type} {B l size : Nat} {TL TE : TypeId} {len : α → Nat} {vs : α → List Value} {hq h1 : Heap} {pre pre' : α} (j : JL B TL TE size len vs hq l pre h1) (hl : len pre' = len pre) (hv : vs pre' = vs pre) : JL B TL TE size len vs hq l pre' h1 := by
  refine ⟨j.sizes, j.same, ?_, j.lB, j.lq⟩
  rw [hl, hv]; exact j.var
theorem JL.grown {α : Type} {B l size n' : Nat} {TL TE : TypeId} {len : α → Nat} {vs : α → List Value} {hq h1 h2 : Heap} {pre pre' : α} {a a' : Option Addr} {lc c' : Nat} {F : Heap → Prop} (j : JL B TL TE size len vs hq l pre h1) (hb : Blk h1 B #[.slice a (len pre) lc] TL) (ow : OwnH h1 hq.size TE size a (len pre) lc (vs pre))
    (u : UpdO (blkOf a) h1 h2) (hl : len pre' = n') (o2 : OwnH h2 hq.size TE size a' n' c' (vs pre')) (hF : ∀ h3, JL B TL TE size len vs hq l pre' h3 → F h3) : stW ⟨B, 0, none⟩ (.slice a' n' c') F h2 := by
  subst hl
  have hBl := j.lB
  have hlq := j.lq
  have hs := j.sizes
  have hga : ∀ g, blkOf a = some g → hq.size ≤ g := fun g hg => by
    rcases ow.row.2 with ⟨rfl, _⟩ | ⟨g', cur, rfl, hg', _⟩
    · cases hg
    · injection hg with hg; change g' = g at hg; omega
  have b2 : Blk h2 B #[.slice a (len pre) lc] TL := (u.same B hb.lt (fun e => by have := hga B e.symm; omega)).trans hb
  refine st_blk b2 (by simp) fun h3 b3 o3 => hF h3 ⟨by rw [o3.size]; have := u.size; omega, fun b hb h1 h2 => ?_, ⟨a', c', b3, o2.keep fun g _ hg _ _ => o3.same g (by omega)⟩, hBl, hlq⟩
  rw [o3.same b h1, u.same b (by omega) (fun e => by have := hga b e.symm; omega), j.same b hb h1 h2]
theorem Tk_blk {n : Nat} {h h' : Heap} (t : Taken n h h') {b : Nat} {arr : Array Value} {T : TypeId} (hb : Blk h b arr T) : h'[b]? = h[b]? := by
  rcases t.same b with e | ⟨_, e, _⟩
  · exact e
  · have hb' : h[b]? = some (.cells arr T) := hb
    rw [e] at hb'; cases hb'
theorem Tk_low {n : Nat} {h h' : Heap} (t : Taken n h h') {b : Nat} (hb : b < n) : h'[b]? = h[b]? := by
  rcases t.same b with e | ⟨h1, _⟩
  · exact e
  · omega
end Go.Proofs.YthimfpkkdhpceaaDoor.Rng
