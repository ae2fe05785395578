/-
  The table of zones: plain laws on its rows, and the table seen from another base.
-/
import Derived.Test.YticppjmldlhbiaaDoorZm
namespace Go.Proofs.YticppjmldlhbiaaDoor.Pz13
open Go.Pl Go.Proofs.YticppjmldlhbiaaDoor.W Go.Proofs.YticppjmldlhbiaaDoor.Zo
/- PLAIN. -/
/-- What holds of a table's rows. -/
structure Pz (m : Nat) (S F : List Int) (C : List (Int × Int)) (k : Nat) : Prop where
  len : S.length = m
  fnd : F.Nodup
  fin : ∀ x ∈ F, ∃ z : Nat, x = (z : Int) ∧ z < m ∧ S[z]? = some 0
  cnd : (C.map Prod.fst).Nodup
  cin : ∀ x ∈ C, ∃ z : Nat, x.1 = (z : Int) ∧ z < m ∧ S[z]? = some 2
  all : ∀ z : Nat, z < m → (S[z]? = some 0 ∧ (z : Int) ∈ F) ∨ S[z]? = some 1 ∨ (S[z]? = some 2 ∧ ∃ x ∈ C, x.1 = (z : Int))
  ris : C.Pairwise fun a b => a.2 < b.2
  kb : ∀ x ∈ C, 0 ≤ x.2 ∧ x.2 < (k : Int)
theorem nat_inj {a b : Nat} (h : (a : Int) = (b : Int)) : a = b := Int.ofNat.inj h
theorem set_ne {S : List Int} {z y : Nat} {v : Int} (h : z ≠ y) : (S.set z v)[y]? = S[y]? := List.getElem?_set_ne h
theorem set_eq {S : List Int} {z : Nat} {v : Int} (h : z < S.length) : (S.set z v)[z]? = some v := by rw [List.getElem?_set_self h]
theorem Pz.take {m k : Nat} {S F : List Int} {C : List (Int × Int)} {x : Int} (p : Pz m S (x :: F) C k) : ∃ z : Nat, x = (z : Int) ∧ z < m ∧ S[z]? = some 0 ∧ Pz m (S.set z 1) F C k ∧ (F.filter fun y => !((z : Int) == y)) = F := by
  obtain ⟨z, rfl, hz, h0⟩ := p.fin x (by simp)
  have hnd := List.nodup_cons.1 p.fnd
  have hl := p.len
  refine ⟨z, rfl, hz, h0, ⟨by simp [hl], hnd.2, fun y hy => ?_, p.cnd, fun c hc => ?_, fun y hy => ?_, p.ris, p.kb⟩, ?_⟩
  · obtain ⟨w, rfl, hw, h1⟩ := p.fin y (by simp [hy])
    have : z ≠ w := fun e => by subst e; exact hnd.1 hy
    exact ⟨w, rfl, hw, by rw [set_ne this]; exact h1⟩
  · obtain ⟨w, e, hw, h1⟩ := p.cin c hc
    have : z ≠ w := fun e => by subst e; rw [h0] at h1; cases h1
    exact ⟨w, e, hw, by rw [set_ne this]; exact h1⟩
  · by_cases e : z = y
    · subst e; exact .inr (.inl (set_eq (by omega)))
    · rw [set_ne e]
      rcases p.all y hy with ⟨h1, h2⟩ | h1 | h1
      · refine .inl ⟨h1, ?_⟩
        rcases List.mem_cons.1 h2 with h2 | h2
        · exact (e (nat_inj h2).symm).elim
        · exact h2
      · exact .inr (.inl h1)
      · exact .inr (.inr h1)
  · refine List.filter_eq_self.2 fun y hy => ?_
    have : ¬ (z : Int) = y := fun e => hnd.1 (by rw [e]; exact hy)
    simp [this]
theorem Pz.close {m k : Nat} {S F : List Int} {C : List (Int × Int)} {z : Nat} (p : Pz m S F C k) (h1 : S[z]? = some 1) : Pz m (S.set z 2) F (C ++ [((z : Int), (k : Int))]) (k + 1) := by
  have hz : z < S.length := (List.getElem?_eq_some_iff.1 h1).1
  have hl := p.len
  refine ⟨by simp [hl], p.fnd, fun y hy => ?_, ?_, fun c hc => ?_, fun y hy => ?_, ?_, fun c hc => ?_⟩
  · obtain ⟨w, rfl, hw, h2⟩ := p.fin y hy
    have : z ≠ w := fun e => by subst e; rw [h1] at h2; cases h2
    exact ⟨w, rfl, hw, by rw [set_ne this]; exact h2⟩
  · rw [List.map_append, List.nodup_append]
    refine ⟨p.cnd, by simp, fun a ha b hb e => ?_⟩
    simp at hb
    obtain ⟨c, hc, rfl⟩ := List.mem_map.1 ha
    obtain ⟨w, e2, hw, h2⟩ := p.cin c hc
    have : w = z := nat_inj (by rw [← e2, e, hb])
    subst this; rw [h1] at h2; cases h2
  · rcases List.mem_append.1 hc with hc | hc
    · obtain ⟨w, e, hw, h2⟩ := p.cin c hc
      have : z ≠ w := fun e => by subst e; rw [h1] at h2; cases h2
      exact ⟨w, e, hw, by rw [set_ne this]; exact h2⟩
    · obtain rfl := List.mem_singleton.1 hc
      exact ⟨z, rfl, by omega, set_eq hz⟩
  · by_cases e : z = y
    · subst e; exact .inr (.inr ⟨set_eq hz, ((z : Int), (k : Int)), by simp, rfl⟩)
    · rw [set_ne e]
      rcases p.all y hy with h2 | h2 | ⟨h2, c, hc, h3⟩
      · exact .inl h2
      · exact .inr (.inl h2)
      · exact .inr (.inr ⟨h2, c, by simp [hc], h3⟩)
  · rw [List.pairwise_append]
    refine ⟨p.ris, by simp, fun a ha b hb => ?_⟩
    obtain rfl := List.mem_singleton.1 hb
    exact (p.kb a ha).2
  · rcases List.mem_append.1 hc with hc | hc
    · have := p.kb c hc; omega
    · obtain rfl := List.mem_singleton.1 hc
      show 0 ≤ (k : Int) ∧ (k : Int) < ((k + 1 : Nat) : Int)
      omega
theorem Pz.give {m k : Nat} {S F : List Int} {C : List (Int × Int)} {z : Nat} {v : Int} (p : Pz m S F C k) (h1 : S[z]? = some v) (hv : v ≠ 0) : Pz m (S.set z 0) (F ++ [(z : Int)]) (C.filter fun y => !((z : Int) == y.1)) k := by
  have hz : z < S.length := (List.getElem?_eq_some_iff.1 h1).1
  have hl := p.len
  refine ⟨by simp [hl], ?_, fun y hy => ?_, ?_, fun c hc => ?_, fun y hy => ?_, p.ris.filter _, fun c hc => p.kb c (List.mem_filter.1 hc).1⟩
  · rw [List.nodup_append]
    refine ⟨p.fnd, by simp, fun a ha b hb e => ?_⟩
    have hb := List.mem_singleton.1 hb
    obtain ⟨w, rfl, hw, h2⟩ := p.fin a ha
    have : w = z := nat_inj (by rw [e, hb])
    subst this; rw [h1] at h2; injection h2 with h2; exact hv h2
  · rcases List.mem_append.1 hy with hy | hy
    · obtain ⟨w, rfl, hw, h2⟩ := p.fin y hy
      have : z ≠ w := fun e => by subst e; rw [h1] at h2; injection h2 with h2; exact hv h2
      exact ⟨w, rfl, hw, by rw [set_ne this]; exact h2⟩
    · obtain rfl := List.mem_singleton.1 hy
      exact ⟨z, rfl, by omega, set_eq hz⟩
  · exact (List.Sublist.map Prod.fst List.filter_sublist).nodup p.cnd
  · obtain ⟨hc, hne⟩ := List.mem_filter.1 hc
    obtain ⟨w, e, hw, h2⟩ := p.cin c hc
    have : z ≠ w := fun e' => by subst e'; rw [e] at hne; simp at hne
    exact ⟨w, e, hw, by rw [set_ne this]; exact h2⟩
  · by_cases e : z = y
    · subst e; exact .inl ⟨set_eq hz, by simp⟩
    · rw [set_ne e]
      rcases p.all y hy with ⟨h2, h3⟩ | h2 | ⟨h2, c, hc, h3⟩
      · exact .inl ⟨h2, by simp [h3]⟩
      · exact .inr (.inl h2)
      · refine .inr (.inr ⟨h2, c, List.mem_filter.2 ⟨hc, ?_⟩, h3⟩)
        rw [h3]
        have : ¬ (z : Int) = (y : Int) := fun e2 => e (nat_inj e2)
        simp [this]
theorem Pz.state {m k : Nat} {S F : List Int} {C : List (Int × Int)} (p : Pz m S F C k) {z : Nat} (hz : z < m) : ∃ v, S[z]? = some v ∧ (v = 0 ∨ v = 1 ∨ v = 2) := by
  rcases p.all z hz with ⟨h, _⟩ | h | ⟨h, _⟩
  · exact ⟨0, h, .inl rfl⟩
  · exact ⟨1, h, .inr (.inl rfl)⟩
  · exact ⟨2, h, .inr (.inr rfl)⟩
theorem stF_some {S : List Int} {z : Nat} {v : Int} (h : S[z]? = some v) : stF S (z : Int) = (v, true) := by
  have hz : z < S.length := (List.getElem?_eq_some_iff.1 h).1
  unfold stF
  rw [if_pos (by omega)]
  simp [List.getD_eq_getElem?_getD, h]
theorem Pz.age_in {m k : Nat} {S F : List Int} {C : List (Int × Int)} (p : Pz m S F C k) (hk : k ≤ 1000) {j : Nat} (hj : j < C.length) : ageF C (k : Int) C[j].1 = (k : Int) - 1 - C[j].2 := by
  have hb := p.kb C[j] (List.getElem_mem hj)
  rw [ageF_skip _ C k j fun x hx e => ?_, List.drop_eq_getElem_cons hj, ageF, if_pos rfl, wru32, wru32]
  · omega
  · obtain ⟨i, hi, rfl⟩ := List.getElem_of_mem hx
    rw [List.length_take] at hi
    rw [List.getElem_take] at e
    have := (List.nodup_iff_pairwise_ne.1 p.cnd)
    rw [List.pairwise_iff_getElem] at this
    have := this i j (by simp; omega) (by simp; omega) (by omega)
    simp only [List.getElem_map] at this
    exact this e
theorem age_out {C : List (Int × Int)} {k z : Int} (h : ∀ x ∈ C, x.1 ≠ z) : ageF C k z = 0 := by
  rw [ageF_skip z C k C.length (fun x hx => h x (List.mem_of_mem_take hx)), List.drop_length]; rfl
/- THE TABLE, SEEN FROM ANOTHER BASE. -/
theorem Tb.base {B : Bs} {h h' : Heap} {T : Nat} {S F : List Int} {C : List (Int × Int)} {k : Int} (t : Tb B h T S F C k) (X' : Nat → Prop) (ok : ∀ b, X' b → b < h'.size) (hX : ∀ b, X' b → B.X b ∨ h.size ≤ b) (hk : ∀ b, b < h.size → B.Out b → h'[b]? = h[b]?) : Tb ⟨h', X', ok⟩ h' T S F C k := by
  obtain ⟨g, fa, fc, ca, cc, t⟩ := t
  have out : ∀ {b : Nat}, B.Out b → b < h.size → (Bs.mk h' X' ok).Out b := fun ho hl hx => by
    rcases hX _ hx with h1 | h1
    · exact ho h1
    · omega
  exact ⟨g, fa, fc, ca, cc, (hk T t.blk.lt t.gT).trans t.blk, (hk g t.st.lt t.gg).trans t.st, t.fr.keep fun b _ _ hb e => hk b hb.lt (t.ff b e).1, t.cl.keep fun b _ _ hb e => hk b hb.lt (t.cf b e).1, ⟨Nat.le_refl _, fun _ _ => rfl⟩,
    out t.gT t.blk.lt, out t.gg t.st.lt, t.neT, fun b e => ⟨out (t.ff b e).1 (t.fr.blk_ge b e).2, (t.ff b e).2⟩, fun b e => ⟨out (t.cf b e).1 (t.cl.blk_ge b e).2, (t.cf b e).2⟩⟩
theorem Tb.at_ {B : Bs} {h : Heap} {T : Nat} {S F : List Int} {C : List (Int × Int)} {k : Int} (t : Tb B h T S F C k) : B.At h := by
  obtain ⟨_, _, _, _, _, t⟩ := t; exact t.new
theorem kept {B : Bs} {h h' : Heap} (t : B.At h) (t' : B.At h') {b : Nat} (hb : B.X b) : h'[b]? = h[b]? := (t'.2 b hb).trans (t.2 b hb).symm
end Go.Proofs.YticppjmldlhbiaaDoor.Pz13
