/-
  slices.Chunk: the parts of a row of bytes.
-/
import Derived.Test.YthimfpkkdhpceaaDoorCkR
import Derived.Test.YthimfpkkdhpceaaDoorOwn
namespace Go.Proofs.YthimfpkkdhpceaaDoor.Ck
open Go.Pl Go.Proofs.YthimfpkkdhpceaaDoor.W Go.Proofs.YthimfpkkdhpceaaDoor.Byts Go.Proofs.YthimfpkkdhpceaaDoor.Four Go.Proofs.YthimfpkkdhpceaaDoor.Adl Go.Proofs.YthimfpkkdhpceaaDoor.Head Go.Proofs.YthimfpkkdhpceaaDoor.Geo
theorem chunk_ok (a : Option Addr) (n c : Nat) (h : Heap) :
    CallsH Tryd.prog 47 [.slice a n c, .int .i64 16] h fun v h' => v = .func (.func 87) #[] #[.pointer (some ⟨h.size, 0, none⟩), .pointer (some ⟨h.size + 1, 0, none⟩)] ∧ Blk h' h.size #[.slice a n c] 55 ∧ Blk h' (h.size + 1) #[.int .i64 16] 3 ∧ New h h' ∧ h'.size = h.size + 2 := by
  refine fun_ok Geo.hm' Tryd.func47 (by kernel_rfl) (F47_eq _ _ _ _ _ h) ?_
  unfold F47
  refine new_of fun h1 b1 n1 s1 => new_of fun h2 b2 n2 s2 => ld_of (c := .int .i64) (16 : Int) (by rw [cellH_blk b2]; rfl) (br_f rfl ?_)
  rw [s1] at b2 ⊢
  exact ⟨rfl, b1.new n2, b2, n1.trans n2, by omega⟩
/-- A part of sixteen bytes. -/
theorem sl_chunk {h : Heap} {a : Option Addr} {c : Nat} {bs : List Int} (s : Sl8 h a c bs) {i : Nat} (hi : 16 * i + 16 ≤ bs.length) : Sl8 h (sliceBase a (16 * i) (16 * i + 16) 1) 16 ((bs.drop (16 * i)).take 16) := by
  have := s.sl (lo := ((16 * i : Nat) : Int)) (hi := ((16 * i + 16 : Nat) : Int)) (mx := ((16 * i + 16 : Nat) : Int)) (16 * i) (16 * i + 16) (16 * i + 16) rfl rfl rfl (by omega) hi (Nat.le_refl _) (by have := s.le; omega) (F := fun b _ d => Sl8 h b d ((bs.drop (16 * i)).take (16 * i + 16 - 16 * i))) fun b d sb => sb
  have h2 := this.2
  rw [Int.toNat_natCast, Int.toNat_natCast, show 16 * i + 16 - 16 * i = 16 by omega] at h2
  exact h2
theorem range_chunk {Inner : Nat → LoopO → TT [.sc .slice] → (Bool → Heap → Prop) → Heap → Prop} {E : Nat → LoopO → Heap → Prop} {h : Heap} {c0 c1 c m : Nat} {a : Option Addr} {bs : List Int} (hlen : bs.length = 16 * m) (hm : m ≤ 1000)
    (J : Heap → Nat → Nat → Heap → Prop)
    (j0 : ∀ hq l, New h hq → h.size ≤ l → l < hq.size → J hq l 0 hq)
    (jo : ∀ hq l i h1 h2, J hq l i h1 → Only l h1 h2 → J hq l i h2)
    (jc : ∀ hq l i h1, J hq l i h1 → cellH h1 ⟨c0, 0, none⟩ = some (.slice a bs.length c) ∧ cellH h1 ⟨c1, 0, none⟩ = some (.int .i64 16) ∧ Sl8 h1 a c bs)
    (hI : ∀ hq l o Y i h1, i < m → J hq l i h1 → (∀ h2, J hq l (i + 1) h2 → roundEnd l (LoopO.rdy o) (Y true) h2) → Inner l o (sliceBase a (16 * i) (16 * i + 16) 1, 16, 16) Y h1)
    (hE : ∀ hq l o h3, (∀ N : Heap → Prop, (∀ h4, J hq l m h4 → N h4) → roundDone l (LoopO.rdy o) N h3) → E l o h3) :
    rangeW Tryd.prog 87 [] [.pointer (some ⟨c0, 0, none⟩), .pointer (some ⟨c1, 0, none⟩)] [.sc .slice] (fun l o s Y h1 => roundIn l o (Inner l o s Y) h1) E h := by
  rintro l o ho hl0 hy
  have nb : New h ((h.push (.deferred (some []))).push o.rdy) := (New.push _ _).trans (New.push _ _)
  have hrdy : ((h.push (.deferred (some []))).push o.rdy)[h.size + 1]? = some o.rdy := by rw [Array.getElem?_push, if_pos (by simp)]
  have hsz : ((h.push (.deferred (some []))).push o.rdy).size = h.size + 2 := by simp
  rw [← hl0] at hrdy
  generalize (h.push (.deferred (some []))).push o.rdy = hb0 at *
  refine fun_ok Geo.hm' Tryd.func87 (by kernel_rfl) (F87_eq _ _ _ _ hb0) ?_
  unfold F87
  refine ⟨fun (s : Int) h' => ∃ i : Nat, s = ((16 * i : Nat) : Int) ∧ i ≤ m ∧ J hb0 l i h' ∧ h'[l]? = some o.rdy, fun (s : Int) _ => ((bs.length : Int) - s).toNat, ⟨0, rfl, Nat.zero_le _, j0 hb0 l nb (by omega) (by omega), hrdy⟩, ?_⟩
  rintro s j h4 ⟨i, rfl, hi, J4, r4⟩
  obtain ⟨k0, k1, sb⟩ := jc _ _ _ _ J4
  have hcl := sb.le
  refine ld_of (c := .slice) (a, bs.length, c) k0 (br_of (fun hlt => ?_) (fun hlt => ?_))
  · have hlt : ((16 * i : Nat) : Int) < (bs.length : Int) := of_decide_eq_true hlt
    have hiL : i < m := by omega
    refine ld_of (c := .int .i64) (16 : Int) k1 (ld_of (c := .slice) (a, bs.length, c) k0 ?_)
    refine ⟨⟨by omega, (by first | omega | (dsimp only; omega) | (simp only []; omega)), (by first | omega | (dsimp only; omega) | (simp only []; omega)), (by first | omega | (dsimp only; omega) | (simp only []; omega))⟩, ?_⟩
    refine ld_of (c := .slice) (a, bs.length, c) k0 ?_
    have e1 : IntKind.wrap .i64 (((16 * i : Nat) : Int) + (mm2 false 16 (((((bs.length : Int)).toNat - (((16 * i : Nat) : Int)).toNat : Nat) : Int)))) = ((16 * i + 16 : Nat) : Int) := by
      rw [mm2_min, wr64 (by omega) (by omega)]; omega
    rw [e1]
    refine ⟨⟨by omega, by omega, by omega, (by first | omega | (dsimp only; omega) | (simp only []; omega))⟩, ?_⟩
    rw [Int.toNat_natCast, Int.toNat_natCast, show 16 * i + 16 - 16 * i = 16 by omega]
    have hY := hy (sliceBase a (16 * i) (16 * i + 16) 1, 16, 16) h4 (fun t h' => t = true ∧ J hb0 l (i + 1) h' ∧ h'[l]? = some o.rdy) r4 ⟨r4, fun h5 o5 _ => hI hb0 l o _ i h5 hiL (jo _ _ _ _ _ J4 o5) fun h6 J6 h7 o7 r7 => ⟨rfl, jo _ _ _ _ _ J6 o7, r7⟩⟩
    refine yield_of hY ?_
    rintro t h5 ⟨rfl, J5, r5⟩
    obtain ⟨_, k15, _⟩ := jc _ _ _ _ J5
    refine ⟨true, rfl, br_f rfl (ld_of (c := .int .i64) (16 : Int) k15 ?_)⟩
    have ez : IntKind.wrap .i64 (((16 * i : Nat) : Int) + 16) = ((16 * (i + 1) : Nat) : Int) := by rw [wr64 (by omega) (by omega)]; omega
    rw [ez]
    exact ⟨⟨i + 1, rfl, hiL, J5, r5⟩, (by first | omega | (dsimp only; omega) | (simp only []; omega))⟩
  · have hlt : ¬ ((16 * i : Nat) : Int) < (bs.length : Int) := of_decide_eq_false hlt
    have : i = m := by omega
    subst this
    exact hE hb0 l o h4 fun N hN => ⟨r4, fun h5 o5 => hN h5 (jo _ _ _ _ _ J4 o5)⟩
end Go.Proofs.YthimfpkkdhpceaaDoor.Ck
