/-
  ZonesParts of layer 13.
-/
import Derived.Test.YticppjmldlhbiaaL13T
import Derived.Test.YticppjmldlhbiaaTail
namespace Go.Proofs.Yticppjmldlhbiaa.L13P
open Go.Pl Go.Proofs.Yticppjmldlhbiaa.W Go.Proofs.Yticppjmldlhbiaa.Zo Go.Proofs.Yticppjmldlhbiaa.L13T
/- PLAIN. -/
/-- What holds of a table's rows. -/
structure Pz (m : Nat) (S F : List Int) (C : List (Int × Int)) (k : Nat) : Prop where
  len : S.length = m
  fnd : F.Nodup
  fin : ∀ x ∈ F, ∃ z : Nat, x = (z : Int) ∧ z < m ∧ S[z]? = some 0
  cnd : (C.map Prod.fst).Nodup
  cin : ∀ x ∈ C, ∃ z : Nat, x.1 = (z : Int) ∧ z < m ∧ S[z]? = some 2
  all : ∀ z : Nat, z < m → (S[z]? = some 0 ∧ (z : Int) ∈ F) ∨ S[z]? = some 1 ∨ (S[z]? = some 2 ∧ ∃ x ∈ C, x.1 = (z : Int))
  ris : C.Pairwise fun a b => a.2 < b.2
  kb : ∀ x ∈ C, 0 ≤ x.2 ∧ x.2 < (k : Int)
theorem nat_inj {a b : Nat} (h : (a : Int) = (b : Int)) : a = b := Int.ofNat.inj h
theorem set_ne {S : List Int} {z y : Nat} {v : Int} (h : z ≠ y) : (S.set z v)[y]? = S[y]? := List.getElem?_set_ne h
theorem set_eq {S : List Int} {z : Nat} {v : Int} (h : z < S.length) : (S.set z v)[z]? = some v := by rw [List.getElem?_set_self h]
theorem Pz.take {m k : Nat} {S F : List Int} {C : List (Int × Int)} {x : Int} (p : Pz m S (x :: F) C k) : ∃ z : Nat, x = (z : Int) ∧ z < m ∧ S[z]? = some 0 ∧ Pz m (S.set z 1) F C k ∧ (F.filter fun y => !((z : Int) == y)) = F := by
  obtain ⟨z, rfl, hz, h0⟩ := p.fin x (by simp)
  have hnd := List.nodup_cons.1 p.fnd
  have hl := p.len
  refine ⟨z, rfl, hz, h0, ⟨by simp [hl], hnd.2, fun y hy => ?_, p.cnd, fun c hc => ?_, fun y hy => ?_, p.ris, p.kb⟩, ?_⟩
  · obtain ⟨w, rfl, hw, h1⟩ := p.fin y (by simp [hy])
    have : z ≠ w := fun e => by subst e; exact hnd.1 hy
    exact ⟨w, rfl, hw, by rw [set_ne this]; exact h1⟩
  · obtain ⟨w, e, hw, h1⟩ := p.cin c hc
    have : z ≠ w := fun e => by subst e; rw [h0] at h1; cases h1
    exact ⟨w, e, hw, by rw [set_ne this]; exact h1⟩
  · by_cases e : z = y
    · subst e; exact .inr (.inl (set_eq (by omega)))
    · rw [set_ne e]
      rcases p.all y hy with ⟨h1, h2⟩ | h1 | h1
      · refine .inl ⟨h1, ?_⟩
        rcases List.mem_cons.1 h2 with h2 | h2
        · exact (e (nat_inj h2).symm).elim
        · exact h2
      · exact .inr (.inl h1)
      · exact .inr (.inr h1)
  · refine List.filter_eq_self.2 fun y hy => ?_
    have : ¬ (z : Int) = y := fun e => hnd.1 (by rw [e]; exact hy)
    simp [this]
theorem Pz.close {m k : Nat} {S F : List Int} {C : List (Int × Int)} {z : Nat} (p : Pz m S F C k) (h1 : S[z]? = some 1) : Pz m (S.set z 2) F (C ++ [((z : Int), (k : Int))]) (k + 1) := by
  have hz : z < S.length := (List.getElem?_eq_some_iff.1 h1).1
  have hl := p.len
  refine ⟨by simp [hl], p.fnd, fun y hy => ?_, ?_, fun c hc => ?_, fun y hy => ?_, ?_, fun c hc => ?_⟩
  · obtain ⟨w, rfl, hw, h2⟩ := p.fin y hy
    have : z ≠ w := fun e => by subst e; rw [h1] at h2; cases h2
    exact ⟨w, rfl, hw, by rw [set_ne this]; exact h2⟩
  · rw [List.map_append, List.nodup_append]
    refine ⟨p.cnd, by simp, fun a ha b hb e => ?_⟩
    simp at hb
    obtain ⟨c, hc, rfl⟩ := List.mem_map.1 ha
    obtain ⟨w, e2, hw, h2⟩ := p.cin c hc
    have : w = z := nat_inj (by rw [← e2, e, hb])
    subst this; rw [h1] at h2; cases h2
  · rcases List.mem_append.1 hc with hc | hc
    · obtain ⟨w, e, hw, h2⟩ := p.cin c hc
      have : z ≠ w := fun e => by subst e; rw [h1] at h2; cases h2
      exact ⟨w, e, hw, by rw [set_ne this]; exact h2⟩
    · obtain rfl := List.mem_singleton.1 hc
      exact ⟨z, rfl, by omega, set_eq hz⟩
  · by_cases e : z = y
    · subst e; exact .inr (.inr ⟨set_eq hz, ((z : Int), (k : Int)), by simp, rfl⟩)
    · rw [set_ne e]
      rcases p.all y hy with h2 | h2 | ⟨h2, c, hc, h3⟩
      · exact .inl h2
      · exact .inr (.inl h2)
      · exact .inr (.inr ⟨h2, c, by simp [hc], h3⟩)
  · rw [List.pairwise_append]
    refine ⟨p.ris, by simp, fun a ha b hb => ?_⟩
    obtain rfl := List.mem_singleton.1 hb
    exact (p.kb a ha).2
  · rcases List.mem_append.1 hc with hc | hc
    · have := p.kb c hc; omega
    · obtain rfl := List.mem_singleton.1 hc
      show 0 ≤ (k : Int) ∧ (k : Int) < ((k + 1 : Nat) : Int)
      omega
theorem Pz.give {m k : Nat} {S F : List Int} {C : List (Int × Int)} {z : Nat} {v : Int} (p : Pz m S F C k) (h1 : S[z]? = some v) (hv : v ≠ 0) : Pz m (S.set z 0) (F ++ [(z : Int)]) (C.filter fun y => !((z : Int) == y.1)) k := by
  have hz : z < S.length := (List.getElem?_eq_some_iff.1 h1).1
  have hl := p.len
  refine ⟨by simp [hl], ?_, fun y hy => ?_, ?_, fun c hc => ?_, fun y hy => ?_, p.ris.filter _, fun c hc => p.kb c (List.mem_filter.1 hc).1⟩
  · rw [List.nodup_append]
    refine ⟨p.fnd, by simp, fun a ha b hb e => ?_⟩
    have hb := List.mem_singleton.1 hb
    obtain ⟨w, rfl, hw, h2⟩ := p.fin a ha
    have : w = z := nat_inj (by rw [e, hb])
    subst this; rw [h1] at h2; injection h2 with h2; exact hv h2
  · rcases List.mem_append.1 hy with hy | hy
    · obtain ⟨w, rfl, hw, h2⟩ := p.fin y hy
      have : z ≠ w := fun e => by subst e; rw [h1] at h2; injection h2 with h2; exact hv h2
      exact ⟨w, rfl, hw, by rw [set_ne this]; exact h2⟩
    · obtain rfl := List.mem_singleton.1 hy
      exact ⟨z, rfl, by omega, set_eq hz⟩
  · exact (List.Sublist.map Prod.fst List.filter_sublist).nodup p.cnd
  · obtain ⟨hc, hne⟩ := List.mem_filter.1 hc
    obtain ⟨w, e, hw, h2⟩ := p.cin c hc
    have : z ≠ w := fun e' => by subst e'; rw [e] at hne; simp at hne
    exact ⟨w, e, hw, by rw [set_ne this]; exact h2⟩
  · by_cases e : z = y
    · subst e; exact .inl ⟨set_eq hz, by simp⟩
    · rw [set_ne e]
      rcases p.all y hy with ⟨h2, h3⟩ | h2 | ⟨h2, c, hc, h3⟩
      · exact .inl ⟨h2, by simp [h3]⟩
      · exact .inr (.inl h2)
      · refine .inr (.inr ⟨h2, c, List.mem_filter.2 ⟨hc, ?_⟩, h3⟩)
        rw [h3]
        have : ¬ (z : Int) = (y : Int) := fun e2 => e (nat_inj e2)
        simp [this]
theorem Pz.state {m k : Nat} {S F : List Int} {C : List (Int × Int)} (p : Pz m S F C k) {z : Nat} (hz : z < m) : ∃ v, S[z]? = some v ∧ (v = 0 ∨ v = 1 ∨ v = 2) := by
  rcases p.all z hz with ⟨h, _⟩ | h | ⟨h, _⟩
  · exact ⟨0, h, .inl rfl⟩
  · exact ⟨1, h, .inr (.inl rfl)⟩
  · exact ⟨2, h, .inr (.inr rfl)⟩
/-- Some told states: 1 where nothing was told. -/
def marks (m : Nat) (F : List Int) (C : List Int) : List Int := (List.range m).map fun (z : Nat) => if (z : Int) ∈ F then 0 else if (z : Int) ∈ C then 2 else 1
theorem marks_len (m : Nat) (F C : List Int) : (marks m F C).length = m := by simp [marks]
theorem marks_get {m z : Nat} (F C : List Int) (h : z < m) : (marks m F C)[z]? = some (if (z : Int) ∈ F then 0 else if (z : Int) ∈ C then 2 else 1) := by simp [marks, h]
theorem marks_nil (m : Nat) : marks m [] [] = List.replicate m 1 := by
  apply List.ext_getElem?
  intro i
  by_cases h : i < m
  · rw [marks_get _ _ h]; simp [h]
  · rw [List.getElem?_eq_none (by rw [marks_len]; omega), List.getElem?_eq_none (by simp; omega)]
theorem marks_free {m z : Nat} (F : List Int) (hz : z < m) : (marks m F []).set z 0 = marks m (F ++ [(z : Int)]) [] := by
  apply List.ext_getElem?
  intro i
  by_cases h : i < m
  · rw [marks_get _ _ h]
    by_cases e : z = i
    · subst e; rw [set_eq (by rw [marks_len]; exact hz)]; simp
    · rw [set_ne e, marks_get _ _ h]
      have : ¬ (i : Int) = (z : Int) := fun e2 => e (nat_inj e2).symm
      simp [this]
  · rw [List.getElem?_eq_none (by rw [List.length_set, marks_len]; omega), List.getElem?_eq_none (by rw [marks_len]; omega)]
theorem marks_closed {m z : Nat} (F C : List Int) (hz : z < m) (hF : (z : Int) ∉ F) : (marks m F C).set z 2 = marks m F (C ++ [(z : Int)]) := by
  apply List.ext_getElem?
  intro i
  by_cases h : i < m
  · rw [marks_get _ _ h]
    by_cases e : z = i
    · subst e; rw [set_eq (by rw [marks_len]; exact hz)]; simp [hF]
    · rw [set_ne e, marks_get _ _ h]
      have : ¬ (i : Int) = (z : Int) := fun e2 => e (nat_inj e2).symm
      simp [this]
  · rw [List.getElem?_eq_none (by rw [List.length_set, marks_len]; omega), List.getElem?_eq_none (by rw [marks_len]; omega)]
theorem Pz.marks {m k : Nat} {S F : List Int} {C : List (Int × Int)} (p : Pz m S F C k) : marks m F (C.map Prod.fst) = S := by
  apply List.ext_getElem?
  intro i
  have hl := p.len
  by_cases h : i < m
  · rw [marks_get _ _ h]
    rcases p.all i h with ⟨h1, h2⟩ | h1 | ⟨h1, c, hc, h2⟩
    · rw [if_pos h2, h1]
    · rw [if_neg, if_neg, h1]
      · intro hh
        obtain ⟨c, hc, e⟩ := List.mem_map.1 hh
        obtain ⟨w, e2, _, h3⟩ := p.cin c hc
        have : w = i := nat_inj (by rw [← e2, e])
        subst this; rw [h1] at h3; cases h3
      · intro hh
        obtain ⟨w, e2, _, h3⟩ := p.fin _ hh
        have : w = i := nat_inj e2.symm
        subst this; rw [h1] at h3; cases h3
    · rw [if_neg, if_pos (List.mem_map.2 ⟨c, hc, h2⟩), h1]
      intro hh
      obtain ⟨w, e2, _, h3⟩ := p.fin _ hh
      have : w = i := nat_inj e2.symm
      subst this; rw [h1] at h3; cases h3
  · rw [List.getElem?_eq_none (by rw [marks_len]; omega), List.getElem?_eq_none (by omega)]
theorem stF_some {S : List Int} {z : Nat} {v : Int} (h : S[z]? = some v) : stF S (z : Int) = (v, true) := by
  have hz : z < S.length := (List.getElem?_eq_some_iff.1 h).1
  unfold stF
  rw [if_pos (by omega)]
  simp [List.getD_eq_getElem?_getD, h]
theorem Pz.age_in {m k : Nat} {S F : List Int} {C : List (Int × Int)} (p : Pz m S F C k) (hk : k ≤ 1000) {j : Nat} (hj : j < C.length) : ageF C (k : Int) C[j].1 = (k : Int) - 1 - C[j].2 := by
  have hb := p.kb C[j] (List.getElem_mem hj)
  rw [ageF_skip _ C k j fun x hx e => ?_, List.drop_eq_getElem_cons hj, ageF, if_pos rfl, wru32, wru32]
  · omega
  · obtain ⟨i, hi, rfl⟩ := List.getElem_of_mem hx
    rw [List.length_take] at hi
    rw [List.getElem_take] at e
    have := (List.nodup_iff_pairwise_ne.1 p.cnd)
    rw [List.pairwise_iff_getElem] at this
    have := this i j (by simp; omega) (by simp; omega) (by omega)
    simp only [List.getElem_map] at this
    exact this e
theorem age_out {C : List (Int × Int)} {k z : Int} (h : ∀ x ∈ C, x.1 ≠ z) : ageF C k z = 0 := by
  rw [ageF_skip z C k C.length (fun x hx => h x (List.mem_of_mem_take hx)), List.drop_length]; rfl
/- THE TABLE, SEEN FROM ANOTHER BASE. -/
theorem Tb.base {B : Bs} {h h' : Heap} {T : Nat} {S F : List Int} {C : List (Int × Int)} {k : Int} (t : Tb B h T S F C k) (X' : Nat → Prop) (ok : ∀ b, X' b → b < h'.size) (hX : ∀ b, X' b → B.X b ∨ h.size ≤ b) (hk : ∀ b, b < h.size → B.Out b → h'[b]? = h[b]?) : Tb ⟨h', X', ok⟩ h' T S F C k := by
  obtain ⟨g, fa, fc, ca, cc, t⟩ := t
  have out : ∀ {b : Nat}, B.Out b → b < h.size → (Bs.mk h' X' ok).Out b := fun ho hl hx => by
    rcases hX _ hx with h1 | h1
    · exact ho h1
    · omega
  exact ⟨g, fa, fc, ca, cc, (hk T t.blk.lt t.gT).trans t.blk, (hk g t.st.lt t.gg).trans t.st, t.fr.keep fun b _ _ hb e => hk b hb.lt (t.ff b e).1, t.cl.keep fun b _ _ hb e => hk b hb.lt (t.cf b e).1, ⟨Nat.le_refl _, fun _ _ => rfl⟩,
    out t.gT t.blk.lt, out t.gg t.st.lt, t.neT, fun b e => ⟨out (t.ff b e).1 (t.fr.blk_ge b e).2, (t.ff b e).2⟩, fun b e => ⟨out (t.cf b e).1 (t.cl.blk_ge b e).2, (t.cf b e).2⟩⟩
theorem Tb.at_ {B : Bs} {h : Heap} {T : Nat} {S F : List Int} {C : List (Int × Int)} {k : Int} (t : Tb B h T S F C k) : B.At h := by
  obtain ⟨_, _, _, _, _, t⟩ := t; exact t.new
theorem kept {B : Bs} {h h' : Heap} (t : B.At h) (t' : B.At h') {b : Nat} (hb : B.X b) : h'[b]? = h[b]? := (t'.2 b hb).trans (t.2 b hb).symm
/- AN ACT. -/
theorem do_ok {B : Bs} {h : Heap} {T m k : Nat} {S F : List Int} {C : List (Int × Int)} (d z : Int) (t : Tb B h T S F C (k : Int)) (p : Pz m S F C k) (hk : k ≤ 1000) (hF : F.length ≤ 400) (hC : C.length ≤ 400) :
    CallsH Try.prog 25 [.pointer (some ⟨T, 0, none⟩), .agg #[.int .i64 d, .int .i64 z]] h fun v h' => ∃ (o : Int) (is : Bool) (S' F' : List Int) (C' : List (Int × Int)) (k' : Nat), v = .tuple #[.int .i64 o, .bool is] ∧ Tb B h' T S' F' C' (k' : Int) ∧ Pz m S' F' C' k' ∧
      k' ≤ k + 1 ∧ F'.length ≤ F.length + 1 ∧ C'.length ≤ C.length + 1 ∧ (d = 0 → is = !F.isEmpty ∧ F' = F.tail ∧ ∀ x, F.head? = some x → o = x) ∧ (d ≠ 0 → F' = if d = 2 ∧ is = true then F ++ [z] else F) := by
  refine fun_ok hm' Try.func25 (by kernel_rfl) (F25_eq _ _ _ _ h) ?_
  unfold F25
  refine new_of fun h1 b1 n1 s1 => ?_
  have t1 := t.to n1
  have c1 : cellH h1 (Addr.add ⟨h.size, 0, none⟩ 1) = some (.int .i64 z) := by rw [add_mk, cellH_blk b1]; rfl
  refine ld_of (c := .int .i64) d (by rw [add_mk, cellH_blk b1]; rfl) (br_of (fun hd => ?_) fun hd => ?_)
  · have hd : d = 0 := by simpa using hd
    subst hd
    cases hF0 : F with
    | nil =>
      subst hF0
      refine call_of (take_no t1) ?_
      rintro v h' ⟨rfl, hh⟩; subst h'
      exact ⟨((0 : Int), false), rfl, 0, false, S, [], C, k, rfl, t1, p, by omega, by simp, by omega, fun _ => ⟨rfl, rfl, fun x hx => by simp at hx⟩, fun hh => (hh rfl).elim⟩
    | cons x F1 =>
      subst hF0
      obtain ⟨n, rfl, hn, h0, p', ef⟩ := p.take
      refine call_of (take_ok t1 (by rw [p.len]; exact hn) (by simp at hF; omega)) ?_
      rintro v h' ⟨rfl, t2⟩
      rw [ef] at t2
      exact ⟨((n : Int), true), rfl, (n : Int), true, _, F1, C, k, rfl, t2, p', by omega, by simp; omega, by omega, fun _ => ⟨rfl, rfl, fun x hx => by simpa using hx⟩, fun hh => (hh rfl).elim⟩
  have hd0 : d ≠ 0 := by simpa using hd
  refine br_of (fun hd => ?_) fun hd => ?_
  · have hd : d = 1 := by simpa using hd
    subst hd
    have hif : ∀ is : Bool, F = if (1 : Int) = 2 ∧ is = true then F ++ [z] else F := fun is => by rw [if_neg (by omega)]
    refine ld_of (c := .int .i64) z c1 ?_
    by_cases hs : (stF S z).1 = 1
    · obtain ⟨n, rfl, hn⟩ := st_nat hs (by decide)
      have hs' : S[n]? = some 1 := by
        obtain ⟨v, hv, _⟩ := p.state (by rw [← p.len]; exact hn)
        rw [stF_some hv] at hs
        have hs : v = 1 := hs
        rw [hv, hs]
      refine call_of (close_ok t1 hs hn (by omega)) ?_
      rintro v h' ⟨rfl, t2⟩
      rw [show IntKind.wrap .u32 ((k : Int) + 1) = ((k + 1 : Nat) : Int) by rw [wru32]; omega] at t2
      exact ⟨true, rfl, -1, true, _, F, _, k + 1, rfl, t2, p.close hs', by omega, by omega, by simp, fun hh => (hd0 hh).elim, fun _ => hif true⟩
    · refine call_of (close_no z t1 hs) ?_
      rintro v h' ⟨rfl, hh⟩; subst h'
      exact ⟨false, rfl, -1, false, S, F, C, k, rfl, t1, p, by omega, by omega, by omega, fun hh => (hd0 hh).elim, fun _ => hif false⟩
  refine br_of (fun hd2 => ?_) fun hd2 => ?_
  · have hd2 : d = 2 := by simpa using hd2
    subst hd2
    refine ld_of (c := .int .i64) z c1 ?_
    by_cases hs : (stF S z).1 = 0
    · refine call_of (give_no z t1 hs) ?_
      rintro v h' ⟨rfl, hh⟩; subst h'
      exact ⟨false, rfl, -1, false, S, F, C, k, rfl, t1, p, by omega, by omega, by omega, fun hh => (hd0 hh).elim, fun _ => by simp⟩
    · obtain ⟨n, rfl, hn⟩ := st_nat rfl hs
      obtain ⟨v, hv, _⟩ := p.state (by rw [← p.len]; exact hn)
      have hv0 : v ≠ 0 := fun e => hs (by rw [stF_some hv]; exact e)
      refine call_of (give_ok t1 hs hn (by omega) (by omega)) ?_
      rintro v' h' ⟨rfl, t2⟩
      exact ⟨true, rfl, -1, true, _, _, _, k, rfl, t2, p.give hv hv0, by omega, by simp, Nat.le_trans (List.length_filter_le _ _) (by omega), fun hh => (hd0 hh).elim, fun _ => by simp⟩
  · have hd2 : d ≠ 2 := by simpa using hd2
    exact ⟨-1, false, S, F, C, k, rfl, t1, p, by omega, by omega, by omega, fun hh => (hd0 hh).elim, fun _ => by rw [if_neg (by simp [hd2])]⟩
abbrev AcS : Sh := .pair (.int .i64) (.int .i64)
theorem two_ld {h0 h : Heap} {a : Option Addr} {l : List (Int × Int)} (r : SlAt h0 AcS a l) (n : New h0 h) {i : Nat} (hi : i < l.length) :
    ∀ {m : Nat} {F : Int × Int → Prop}, i < m → F (l[i].1, l[i].2) → ptrW a (fun p => idxW (i : Int) m true (ldAggW [.int .i64, .int .i64] (Addr.add p (Int.toNat (i : Int) * 2)) F h)) := by
  obtain ⟨b, o, es, rfl, hb, hel, hc, c1, c2, rfl, ⟨rfl, _⟩, ⟨rfl, w2⟩⟩ := r i _ (List.getElem?_eq_getElem hi)
  intro m F hm hF
  exact agg_at (k := 2) ((l[i].1, l[i].2) : Int × Int) (es := [.int .i64 l[i].1, .int .i64 l[i].2]) (fun j hj => by rw [cellH_same (n.same b hb)]; exact hc j hj) rfl rfl hm hF
theorem zeroA : (zeroC Try.prog 51).size = 2 := by kernel_rfl
theorem iv_set (xs : List Int) (z : Nat) (v : Int) : (iv xs).toArray.setIfInBounds z (.int .i64 v) = (iv (xs.set z v)).toArray := by simp [iv, List.map_set]
theorem nodup_get {l : List Int} (h : l.Nodup) {i j : Nat} (hi : i < l.length) (hj : j < l.length) (hne : i < j) : l[i] ≠ l[j] := by
  rw [List.nodup_iff_pairwise_ne, List.pairwise_iff_getElem] at h
  exact h i j hi hj hne
theorem parts_law (h : Heap) (v0 v1 : Value) (many : Int) (l : List (Int × Int)) (r0 : ReadsV h (.int .i64) v0 many) (r1 : ReadsV h (.slice AcS) v1 l) :
    CallsH Try.prog 4 [v0, v1] h fun v h' => v = .bool true ∧ New h h' := by
  obtain ⟨rfl⟩ : v0 = .int .i64 many := by obtain ⟨cs, hcs, e, _⟩ := r0; simp only at hcs; subst hcs; injection e
  obtain ⟨la, lc, rfl, _, _, _, sl⟩ := SlAt.reads r1
  refine fun_ok hm' Try.func4 (by kernel_rfl) (F4_eq many la l.length lc _ h) ?_
  unfold F4
  refine call_of (awake_ok h) ?_
  rintro v h1 ⟨rfl, n1⟩
  refine ⟨true, rfl, br_f rfl ?_⟩
  by_cases hz : ¬ (1 ≤ many ∧ many ≤ 24)
  · refine call_of (new_no many h1 hz) ?_
    rintro v h' ⟨rfl, hh⟩; subst h'
    refine ⟨(none, _), rfl, cut_q (ts := []) (fun _ _ => False) (fun _ _ hf _ => hf.elim) ?_⟩
    intro K hK
    exact br_t rfl ⟨rfl, n1⟩
  have hz := Classical.not_not.1 hz
  obtain ⟨m, rfl⟩ := Int.eq_ofNat_of_zero_le (show 0 ≤ many by omega)
  have hm : 1 ≤ m ∧ m ≤ 24 := by omega
  refine call_of (new_ok m h1 hm) ?_
  rintro v h2 ⟨T, rfl, t2⟩
  have n2 : New h1 h2 := Bs.of_at.1 (Tb.at_ t2)
  refine ⟨(some ⟨T, 0, none⟩, Value.nilIface), rfl, cut_q (ts := []) (fun _ h' => h' = h2 ∧ l.length ≤ 200) ?_ ?_⟩
  rotate_left
  · intro K hK
    refine br_f rfl (br_f (decide_eq_false (by omega)) (br_of (fun _ => ⟨rfl, n1.trans n2⟩) fun h4 => hK () _ ⟨rfl, ?_⟩))
    have := of_decide_eq_false h4; omega
  rintro _ h' ⟨hh, hl⟩ _; subst h'
  have eu : (upto m).length = m := by simp [upto]
  refine call_of (free_own t2 (by omega)) ?_
  rintro v h3 ⟨a3, c3, rfl, q3, ow3⟩
  have p0 : Pz m (List.replicate m 0) (upto m) [] 0 := by
    refine ⟨by simp, ?_, fun x hx => ?_, by simp, fun x hx => (by cases hx), fun z hz => ?_, by simp, fun x hx => (by cases hx)⟩
    · unfold upto
      rw [List.nodup_iff_pairwise_ne, List.pairwise_iff_getElem]
      intro i j hi hj hij
      simp only [List.getElem_map, List.getElem_range]
      omega
    · unfold upto at hx
      obtain ⟨z, hz, rfl⟩ := List.mem_map.1 hx
      exact ⟨z, rfl, List.mem_range.1 hz, by simp [List.mem_range.1 hz]⟩
    · exact .inl ⟨by simp [hz], List.mem_map.2 ⟨z, List.mem_range.2 hz, rfl⟩⟩
  have hne : upto m ≠ [] := fun e => by rw [e] at eu; simp at eu; omega
  have rt3 : RowT h3 TI a3 (upto m).length c3 (iv (upto m)) := RowT.own (ow3 hne)
  have at3 := q3.at_ hne
  have n13 : New h1 h3 := n2.trans q3.new
  have hs13 := n13.size
  have t3 : Tb ⟨h3, fun b => b < h1.size ∨ blkOf a3 = some b, fun b hb => by rcases hb with hb | hb; omega; exact rt3.blk_lt b hb⟩ h3 T (List.replicate m 0) (upto m) [] ((0 : Nat) : Int) := by
    refine Tb.base t2 _ _ (fun b hb => ?_) fun b hb _ => q3.new.same b hb
    rcases hb with hb | hb
    · exact .inl hb
    · exact .inr (at3 b hb)
  refine ⟨(a3, (upto m).length, c3), rfl, ?_⟩
  refine ⟨fun (s : (Option Addr × Nat × Nat) × Int) h' => ∃ (i : Nat) (S F : List Int) (C : List (Int × Int)) (k : Nat) (B : Bs), s.2 = i ∧ i ≤ l.length ∧ k ≤ i ∧ F.length ≤ m + i ∧ C.length ≤ i ∧ s.1.2.1 = F.length ∧ RowT h' TI s.1.1 s.1.2.1 s.1.2.2 (iv F) ∧ Pz m S F C k ∧ Tb B h' T S F C (k : Int) ∧ New h1 h' ∧ (∀ b, b < h1.size → B.X b) ∧ (∀ b, blkOf s.1.1 = some b → B.X b ∧ h1.size ≤ b),
    fun (s : (Option Addr × Nat × Nat) × Int) _ => ((l.length : Int) - s.2).toNat, ⟨0, _, _, _, 0, _, rfl, Nat.zero_le _, Nat.le_refl _, by rw [eu]; omega, Nat.le_refl _, rfl, rt3, p0, t3, n13, fun b hb => .inl hb, fun b hb => ⟨.inr hb, by have := at3 b hb; have := n2.size; omega⟩⟩, ?_⟩
  rintro ⟨⟨ra, rn, rc⟩, s⟩ j h4 ⟨i, S, F, C, k, B, hs, hi, hk, hFl, hCl, hrn, rt, p, t4, n4, hB1, hB2⟩
  simp only [] at hs hrn rt hB2
  subst hs; subst hrn
  refine br_of (fun hlt => ?_) (fun _ => ⟨rfl, n1.trans n4⟩)
  have hlt : (i : Int) < (l.length : Int) := of_decide_eq_true hlt
  have hiL : i < l.length := by omega
  refine two_ld sl (n1.trans n4) hiL hiL (new_stL (by rw [zeroA]; rfl) fun h5 b5 n5 s5 => ?_)
  generalize l[i].1 = d at b5
  generalize l[i].2 = z at b5
  have b5 : Blk h5 h4.size #[.int .i64 d, .int .i64 z] 51 := b5
  have a4 := Tb.at_ t4
  have hs45 := n5.size
  have t5 : Tb ⟨h5, fun b => B.X b ∨ b = h4.size, fun b hb => by rcases hb with hb | hb; have := B.ok b hb; have := a4.1; omega; omega⟩ h5 T S F C (k : Int) := by
    refine Tb.base t4 _ _ (fun b hb => ?_) fun b hb _ => n5.same b hb
    rcases hb with hb | hb
    · exact .inl hb
    · exact .inr (by omega)
  refine ldAgg_blk (d, z) b5 ⟨rfl, rfl, trivial⟩ (call_of (do_ok d z t5 p (by omega) (by omega) (by omega)) ?_)
  rintro v h6 ⟨o, is, S', F', C', k', rfl, t6, p', hk', hF', hC', hd0, hdn⟩
  have a5 := Tb.at_ t5
  have a6 := Tb.at_ t6
  have hs56 : h5.size ≤ h6.size := a6.1
  have b6 : Blk h6 h4.size #[.int .i64 d, .int .i64 z] 51 := (kept a5 a6 (.inr rfl)).trans b5
  have rt6 : RowT h6 TI ra F.length rc (iv F) := (rt.new n5).keep fun g hg _ => kept a5 a6 (.inl (hB2 g hg).1)
  have hs14 := n4.size
  have n6 : New h1 h6 := ⟨by omega, fun b hb => (kept a5 a6 (.inl (hB1 b hb))).trans ((n4.trans n5).same b hb)⟩
  refine ⟨(o, is), rfl, cut_q (ts := [.sc .slice]) (fun (s : Option Addr × Nat × Nat) h' => h' = h6 ∧ ∃ R : List Int, (d = 0 → R = F') ∧ (d ≠ 0 → R = F) ∧ s.2.1 = R.length ∧ RowT h6 TI s.1 s.2.1 s.2.2 (iv R) ∧ blkOf s.1 = blkOf ra) ?_ ?_⟩
  rotate_left
  · intro K hK
    refine ld_of (c := .int .i64) d (by rw [add_mk, cellH_blk b6]; rfl) (br_of (fun hd => ?_) fun hd => ?_)
    · have hd : d = 0 := by simpa using hd
      obtain ⟨hi1, hi2, hi3⟩ := hd0 hd
      cases hF0 : F with
      | nil =>
        subst hF0
        subst hi1
        exact br_f rfl (br_f rfl (hK _ _ ⟨rfl, [], fun _ => hi2.symm, fun _ => rfl, rfl, rt6, rfl⟩))
      | cons x F1 =>
        subst hF0
        subst hi1
        have hox := hi3 x rfl
        subst hox
        have hle := rt6.2.1
        refine br_f (by simp) (br_t rfl (ix_lit rt6.ar 0 rfl (by simp) (by simp) (br_f (by simp) (br_t rfl ⟨⟨by omega, by simp; omega, Int.ofNat_le.2 hle, Int.le_refl _⟩, hK _ _ ⟨rfl, F1, fun _ => hi2.symm, fun h0 => (h0 hd).elim, ?_, ?_, ?_⟩⟩))))
        · show Int.toNat (((o :: F1).length : Nat) : Int) - 1 = F1.length
          simp
        · have := (RowT.tail (x := .int .i64 o) (xs := iv F1) (n := F1.length) rt6).1
          have e1 : Int.toNat (((o :: F1).length : Nat) : Int) - Int.toNat 1 = F1.length := by simp
          have e2 : Int.toNat ((rc : Nat) : Int) = rc := Int.toNat_natCast rc
          simp only [e1, e2]
          exact this
        · have := (RowT.tail (x := .int .i64 o) (xs := iv F1) (n := F1.length) rt6).2
          have e2 : Int.toNat ((rc : Nat) : Int) = rc := Int.toNat_natCast rc
          simp only [e2]
          exact this
    · have hd : d ≠ 0 := by simpa using hd
      exact hK _ _ ⟨rfl, F, fun h0 => (hd h0).elim, fun _ => rfl, rfl, rt6, rfl⟩
  rintro ⟨xa, xn, xc⟩ h' ⟨hh, R, hR0, hR1, hxn, rtx, hxa⟩ _; subst h'
  simp only [] at hxn rtx hxa
  subst hxn
  refine cut_q (ts := [.sc .slice]) (fun (s : Option Addr × Nat × Nat) h' => ∃ B' : Bs, Tb B' h' T S' F' C' (k' : Int) ∧ s.2.1 = F'.length ∧ RowT h' TI s.1 s.2.1 s.2.2 (iv F') ∧ New h1 h' ∧ (∀ b, b < h1.size → B'.X b) ∧ (∀ b, blkOf s.1 = some b → B'.X b ∧ h1.size ≤ b)) ?_ ?_
  rotate_left
  · intro K hK
    refine cut_q (ts := [.sc .bool]) (fun (s : Bool) h' => h' = h6 ∧ s = (decide (d = 2) && is)) ?_ ?_
    rotate_left
    · intro K2 hK2
      refine ld_of (c := .int .i64) d (by rw [add_mk, cellH_blk b6]; rfl) (br_of (fun hd => ?_) fun hd => ?_)
      · have hd : d = 2 := by simpa using hd
        exact hK2 _ _ ⟨rfl, by rw [decide_eq_true hd]; simp⟩
      · have hd : d ≠ 2 := by simpa using hd
        exact hK2 _ _ ⟨rfl, by rw [decide_eq_false hd]; rfl⟩
    rintro s h' ⟨hh, hs⟩ _; subst h'
    have hs : s = (decide (d = 2) && is) := hs
    subst hs
    refine br_of (fun hb => ?_) fun hb => ?_
    · rw [Bool.and_eq_true] at hb
      have hd : d = 2 := of_decide_eq_true hb.1
      have hne : d ≠ 0 := by omega
      have eF := hdn hne
      rw [if_pos ⟨hd, hb.2⟩] at eF
      have eR := hR1 hne
      subst eR
      refine ld_of (c := .int .i64) z (by rw [add_mk, cellH_blk b6]; rfl) ?_
      refine RowT.push ap49 rtx rfl (by omega) (by omega) fun a7 c7 h7 rt7 u7 at7 => hK _ _ ?_
      have e7 : iv R ++ [Value.int .i64 z] = iv F' := by rw [eF]; simp [iv]
      have l7 : R.length + 1 = F'.length := by rw [eF]; simp
      rw [e7, l7] at rt7
      have hin : ∀ b, blkOf xa = some b → B.X b ∧ h1.size ≤ b := fun b hb => hB2 b (by rw [← hxa]; exact hb)
      have hs67 := u7.size
      refine ⟨⟨h7, fun b => b < h1.size ∨ blkOf a7 = some b, fun b hb => ?_⟩, Tb.base t6 _ _ (fun b hb => ?_) (fun b hb ho => u7.same b hb fun e => ho (.inl (hin b e.symm).1)), l7, by show RowT h7 TI a7 (R.length + 1) c7 (iv F'); rw [l7]; exact rt7, ⟨by omega, fun b hb => (u7.same b (by omega) fun e => by have := (hin b e.symm).2; omega).trans (n6.same b hb)⟩, fun b hb => .inl hb, fun b hb => ⟨.inr hb, ?_⟩⟩
      · rcases hb with hb | hb
        · omega
        · exact rt7.blk_lt b hb
      · rcases hb with hb | hb
        · exact .inl (.inl (hB1 b hb))
        · rcases at7 with e | ⟨g, e, hg⟩
          · exact .inl (.inl (hin b (by rw [← e]; exact hb)).1)
          · rw [e] at hb; injection hb with hb; subst hb; exact .inr hg
      · rcases at7 with e | ⟨g, e, hg⟩
        · exact (hin b (by rw [← e]; exact hb)).2
        · change blkOf a7 = some b at hb
          rw [e] at hb; injection hb with hb; subst hb; omega
    · have eF : F' = R := by
        by_cases hd : d = 0
        · exact (hR0 hd).symm
        · rw [hdn hd, hR1 hd, if_neg]
          rintro ⟨h1, h2⟩
          rw [h1, h2] at hb; simp at hb
      subst eF
      exact hK _ _ ⟨_, t6, rfl, rtx, n6, fun b hb => .inl (hB1 b hb), fun b hb => by
        have := hB2 b (by rw [← hxa]; exact hb)
        exact ⟨.inl this.1, this.2⟩⟩
  rintro ⟨ya, yn, yc⟩ h7 ⟨B', t7, hyn, rt7, n7, hB1', hB2'⟩ _
  simp only [] at hyn rt7 hB2'
  subst hyn
  refine call_of (free_ok t7 (by omega)) ?_
  rintro v h8 ⟨a8, c8, rfl, q8⟩
  refine ⟨(a8, F'.length, c8), rfl, call_of (closed_ok (t7.to q8.new) (by omega)) ?_⟩
  rintro v h9 ⟨a9, c9, rfl, q9⟩
  have t9 := (t7.to q8.new).to q9.new
  have n79 := q8.new.trans q9.new
  have rt9 := rt7.new n79
  have hF9 : F'.length ≤ 9223372036854775807 := by omega
  refine ⟨(a9, (C'.map Prod.fst).length, c9), rfl, call_of (Same.same_ok _ _ _ _ _ _ h9 F' F' rfl rfl hF9 (ar_p (q8.ar.new q9.new)) (ar_p rt9.ar)) ?_⟩
  rintro v h' ⟨rfl, hh⟩; subst h'
  refine ⟨true, by rw [decide_eq_true rfl] <;> rfl, br_f rfl (mk_of (n := m) sizeI1 zeroI1 (by rw [bytesI1]; omega) (by omega) fun h10 b10 n10 s10 => ?_)⟩
  have hw : ∀ {h' : Heap} {A : Array Value} (q : Nat) (v : Value) {G : Heap → Prop}, q < m → A.size = m → Blk h' h9.size A TI → New h9 h' → (∀ h'', Blk h'' h9.size (A.setIfInBounds q v) TI → New h9 h'' → G h'') → ptrW (some (⟨h9.size, 0, none⟩ : Addr)) (fun a => idxW (q : Int) m true (stW (Addr.add a (Int.toNat (q : Int) * 1)) v (fun h'' => G h'') h')) := fun {h' A} q v {G} hq hA hb hn hG => by
    refine ptr_of (ix_of hq ?_)
    rw [add_mk, Int.toNat_natCast, Nat.mul_one, Nat.zero_add]
    exact st_blk hb (by omega) fun h'' b'' o'' => hG h'' b'' (o''.upd.new hn (Nat.le_refl _))
  refine ⟨fun (s : Int) h' => ∃ q : Nat, s = q ∧ q ≤ m ∧ Blk h' h9.size (fillA m (fun _ => .int .i64 1) q (.int .i64 0)) TI ∧ New h9 h', fun (s : Int) _ => ((m : Int) - s).toNat, ⟨0, rfl, Nat.zero_le _, by rw [fillA_zero]; exact b10, n10⟩, ?_⟩
  rintro s j1 h11 ⟨q, rfl, hq, b11, n11⟩
  refine br_of (fun hlt => ?_) (fun hlt => ?_)
  · have hlt : (q : Int) < (m : Int) := of_decide_eq_true hlt
    rw [wr64 (by omega) (by omega)]
    refine hw q _ (by omega) (fillA_size _ _ _ _) b11 n11 fun h12 b12 n12 => ⟨⟨q + 1, rfl, by omega, ?_, n12⟩, (by first | omega | (dsimp only; omega) | (simp only []; omega))⟩
    rw [fillA_set _ _ _ _ _ rfl] at b12; exact b12
  have hlt : ¬ (q : Int) < (m : Int) := of_decide_eq_false hlt
  have hqm : q = m := by omega
  subst hqm
  have e11 : fillA q (fun _ => Value.int .i64 1) q (.int .i64 0) = (iv (marks q (F'.take 0) [])).toArray := by
    rw [fillA_full, List.take_zero, marks_nil]
    simp [iv, List.map_const']
  rw [e11] at b11
  have hF24 : F'.length ≤ 300 := by omega
  refine ⟨fun (s : Int) h' => ∃ r : Nat, s = r ∧ r ≤ F'.length ∧ Blk h' h9.size (iv (marks q (F'.take r) [])).toArray TI ∧ New h9 h', fun (s : Int) _ => ((F'.length : Int) - s).toNat, ⟨0, rfl, Nat.zero_le _, b11, n11⟩, ?_⟩
  rintro s j2 h12 ⟨r, rfl, hr, b12, n12⟩
  refine br_of (fun hlt => ?_) (fun hlt => ?_)
  · have hlt : (r : Int) < (F'.length : Int) := of_decide_eq_true hlt
    have hrF : r < F'.length := by omega
    rw [wr64 (by omega) (by omega)]
    refine ix_ld ((q8.ar.new q9.new).new n12) hrF hrF ?_
    obtain ⟨zn, ez, hzn, _⟩ := p'.fin F'[r] (List.getElem_mem hrF)
    rw [ez]
    refine hw zn _ hzn (by simp [iv, marks_len]) b12 n12 fun h13 b13 n13 => ⟨⟨r + 1, rfl, hrF, ?_, n13⟩, (by first | omega | (dsimp only; omega) | (simp only []; omega))⟩
    rw [iv_set, marks_free _ hzn, ← ez, List.take_append_getElem hrF] at b13; exact b13
  have hlt : ¬ (r : Int) < (F'.length : Int) := of_decide_eq_false hlt
  have hrF : r = F'.length := by omega
  subst hrF
  rw [List.take_length] at b12
  have hmc : (C'.map Prod.fst).length = C'.length := List.length_map _
  refine ⟨fun (s : Int) h' => ∃ r : Nat, s = r ∧ r ≤ C'.length ∧ Blk h' h9.size (iv (marks q F' ((C'.map Prod.fst).take r))).toArray TI ∧ New h9 h', fun (s : Int) _ => ((C'.length : Int) - s).toNat, ⟨0, rfl, Nat.zero_le _, b12, n12⟩, ?_⟩
  rintro s j3 h13 ⟨r, rfl, hr, b13, n13⟩
  rw [hmc]
  refine br_of (fun hlt => ?_) (fun hlt => ?_)
  · have hlt : (r : Int) < (C'.length : Int) := of_decide_eq_true hlt
    have hrC : r < C'.length := by omega
    have hrM : r < (C'.map Prod.fst).length := by omega
    rw [wr64 (n := (r : Int) + 1) (by omega) (by omega)]
    refine ix_ld (q9.ar.new n13) hrM hrC ?_
    have eg : (C'.map Prod.fst)[r] = C'[r].1 := List.getElem_map _
    obtain ⟨zn, ez, hzn, hz2⟩ := p'.cin C'[r] (List.getElem_mem hrC)
    have hzF : (zn : Int) ∉ F' := fun hh => by
      obtain ⟨w, e2, _, h3⟩ := p'.fin _ hh
      have : w = zn := nat_inj e2.symm
      subst this; rw [hz2] at h3; cases h3
    have hzt : (zn : Int) ∉ (C'.map Prod.fst).take r := fun hh => by
      obtain ⟨i', hi', e2⟩ := List.getElem_of_mem hh
      rw [List.length_take] at hi'
      rw [List.getElem_take] at e2
      exact nodup_get p'.cnd (show i' < (C'.map Prod.fst).length by omega) hrM (by omega) (by rw [e2, eg, ez])
    rw [eg]
    refine cut_q (ts := []) (fun _ h' => Blk h' h9.size (iv (marks q F' ((C'.map Prod.fst).take r))).toArray TI ∧ New h9 h') ?_ ?_
    rotate_left
    · intro K hK
      rw [ez]
      refine ptr_of (ix_of hzn ?_)
      rw [add_mk, Int.toNat_natCast, Nat.mul_one, Nat.zero_add]
      refine ld_of (c := .int .i64) (1 : Int) ?_ (br_f rfl (br_of (fun hr0 => ?_) fun _ => hK _ _ ⟨b13, n13⟩))
      · rw [cellH_blk b13]
        have := marks_get F' ((C'.map Prod.fst).take r) hzn
        rw [if_neg hzF, if_neg hzt] at this
        simp [iv, this]
        rfl
      · have hr0 : (r : Int) > 0 := of_decide_eq_true hr0
        have e1 : IntKind.wrap .i64 ((r : Int) - 1) = ((r - 1 : Nat) : Int) := by rw [wr64 (by omega) (by omega)]; omega
        have hr1 : r - 1 < (C'.map Prod.fst).length := by omega
        refine ix_lit (q9.ar.new n13) (r - 1) e1 hr1 (show r - 1 < C'.length by omega) ?_
        have eg1 : (C'.map Prod.fst)[r - 1] = C'[r - 1].1 := List.getElem_map _
        rw [eg1]
        refine call_of (age_ok C'[r - 1].1 (t9.to n13) (by omega)) ?_
        rintro v h14 ⟨rfl, n14⟩
        refine ⟨_, rfl, call_of (age_ok (zn : Int) (t9.to (n13.trans n14)) (by omega)) ?_⟩
        rintro v h15 ⟨rfl, n15⟩
        have e2 := p'.age_in (by omega) (show r - 1 < C'.length by omega)
        have e3 := p'.age_in (by omega) hrC
        rw [ez] at e3
        have hris := p'.ris
        rw [List.pairwise_iff_getElem] at hris
        have hris := hris (r - 1) r (by omega) hrC (by omega)
        refine ⟨_, rfl, br_f ?_ (hK _ _ ⟨b13.new (n14.trans n15), n13.trans (n14.trans n15)⟩)⟩
        refine decide_eq_false ?_
        rw [e2, e3]; omega
    rintro _ h14 ⟨b14, n14⟩ _
    rw [ez]
    refine hw zn _ hzn (by simp [iv, marks_len]) b14 n14 fun h15 b15 n15 => ⟨⟨r + 1, rfl, hrC, ?_, n15⟩, (by first | omega | (dsimp only; omega) | (simp only []; omega))⟩
    rw [iv_set, marks_closed _ _ hzn hzF, ← ez, ← eg, List.take_append_getElem hrM] at b15; exact b15
  have hlt : ¬ (r : Int) < (C'.length : Int) := of_decide_eq_false hlt
  have hrC : r = C'.length := by omega
  subst hrC
  rw [← hmc, List.take_length, p'.marks] at b13
  have hlen := p'.len
  refine ⟨fun (s : Int) h' => ∃ r : Nat, s = r ∧ r ≤ q ∧ Blk h' h9.size (iv S').toArray TI ∧ New h9 h', fun (s : Int) _ => ((q : Int) - s).toNat, ⟨0, rfl, Nat.zero_le _, b13, n13⟩, ?_⟩
  rintro s j4 h14 ⟨r, rfl, hr, b14, n14⟩
  refine br_of (fun hlt => ?_) (fun hlt => ?_)
  · have hlt : (r : Int) < (q : Int) := of_decide_eq_true hlt
    have hrq : r < q := by omega
    obtain ⟨v, hv, _⟩ := p'.state hrq
    rw [wr64 (by omega) (by omega)]
    refine ptr_of (ix_of hrq ?_)
    rw [add_mk, Int.toNat_natCast, Nat.mul_one, Nat.zero_add]
    refine ld_of (c := .int .i64) v (by rw [cellH_blk b14]; simp [iv, hv]; rfl) (call_of (state_ok (r : Int) (t9.to n14)) ?_)
    rintro v' h' ⟨rfl, hh⟩; subst h'
    rw [stF_some hv]
    refine ⟨(v, true), rfl, br_f (by simp) (br_f rfl (br_of (fun hv2 => ?_) fun _ => ⟨⟨r + 1, rfl, hrq, b14, n14⟩, (by first | omega | (dsimp only; omega) | (simp only []; omega))⟩))⟩
    have hv2 : v ≠ 2 := by simpa using hv2
    refine call_of (age_ok (r : Int) (t9.to n14) (by omega)) ?_
    rintro v' h15 ⟨rfl, n15⟩
    have e0 : ageF C' (k' : Int) (r : Int) = 0 := age_out fun x hx e => by
      obtain ⟨w, e2, _, h3⟩ := p'.cin x hx
      have : w = r := nat_inj (by rw [← e2, e])
      subst this; rw [hv] at h3; injection h3 with h3; exact hv2 h3
    exact ⟨_, rfl, br_f (by rw [e0]; rfl) ⟨⟨r + 1, rfl, hrq, b14.new n15, n14.trans n15⟩, (by first | omega | (dsimp only; omega) | (simp only []; omega))⟩⟩
  · have n714 := n79.trans n14
    rw [wr64 (by omega) (by omega)]
    exact ⟨⟨i + 1, S', F', C', k', B', rfl, hiL, by omega, by omega, by omega, rfl, rt7.new n714, p', t7.to n714, n7.trans n714, hB1', hB2'⟩, (by first | omega | (dsimp only; omega) | (simp only []; omega))⟩
end Go.Proofs.Yticppjmldlhbiaa.L13P
