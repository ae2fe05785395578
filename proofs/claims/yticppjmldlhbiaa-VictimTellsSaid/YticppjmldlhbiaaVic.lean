/-
  Zones that may be cleaned: their order, and which are chosen: plain laws.
-/
import Derived.Test.YticppjmldlhbiaaSep
namespace Go.Proofs.Yticppjmldlhbiaa.Vic
/-- A zone: its Id, its live pages, its age. -/
abbrev Z := Int × Int × Int
def goodZ (p : Int) (z y : Z) : Int := (z.2.2 + 1) * (p - z.2.1) * (y.2.1 + 1)
def aheadB (pol p : Int) (a b : Z) : Bool :=
  if pol = 0 then (if a.2.1 ≠ b.2.1 then decide (a.2.1 < b.2.1) else decide (a.1 < b.1))
  else (if goodZ p a b ≠ goodZ p b a then decide (goodZ p b a < goodZ p a b) else decide (a.1 < b.1))
structure okZ (p : Int) (z : Z) : Prop where
  v0 : 0 ≤ z.2.1
  v1 : z.2.1 ≤ p
  a0 : 0 ≤ z.2.2
  a1 : z.2.2 < 4294967296
theorem good_trans {p : Int} {a b c : Z} (hb : okZ p b) (hc : okZ p c) (ha : okZ p a) (h1 : goodZ p b a ≤ goodZ p a b) (h2 : goodZ p c b ≤ goodZ p b c) :
    goodZ p c a ≤ goodZ p a c ∧ (goodZ p b a < goodZ p a b ∨ goodZ p c b < goodZ p b c → goodZ p c a < goodZ p a c) ∧ (goodZ p b a = goodZ p a b → goodZ p c b = goodZ p b c → goodZ p c a = goodZ p a c) := by
  unfold goodZ at *
  generalize hna : (a.2.2 + 1) * (p - a.2.1) = na at *
  generalize hnb : (b.2.2 + 1) * (p - b.2.1) = nb at *
  generalize hnc : (c.2.2 + 1) * (p - c.2.1) = nc at *
  have d1 : 0 < a.2.1 + 1 := by have := ha.v0; omega
  have d2 : 0 < b.2.1 + 1 := by have := hb.v0; omega
  have d3 : 0 < c.2.1 + 1 := by have := hc.v0; omega
  generalize a.2.1 + 1 = da at *
  generalize b.2.1 + 1 = db at *
  generalize c.2.1 + 1 = dc at *
  have e1 : nb * da * dc ≤ na * db * dc := Int.mul_le_mul_of_nonneg_right h1 (by omega)
  have e2 : nc * db * da ≤ nb * dc * da := Int.mul_le_mul_of_nonneg_right h2 (by omega)
  have c1 : nb * da * dc = nb * dc * da := by rw [Int.mul_assoc, Int.mul_comm da dc, ← Int.mul_assoc]
  have c2 : na * db * dc = na * dc * db := by rw [Int.mul_assoc, Int.mul_comm db dc, ← Int.mul_assoc]
  have c3 : nc * db * da = nc * da * db := by rw [Int.mul_assoc, Int.mul_comm db da, ← Int.mul_assoc]
  refine ⟨?_, fun h => ?_, fun g1 g2 => ?_⟩
  · have : nc * da * db ≤ na * dc * db := by omega
    exact Int.le_of_mul_le_mul_right this d2
  · have : nc * da * db < na * dc * db := by
      rcases h with h | h
      · have := Int.mul_lt_mul_of_pos_right h d3; omega
      · have := Int.mul_lt_mul_of_pos_right h d1; omega
    exact Int.lt_of_mul_lt_mul_right this (by omega)
  · have : nc * da * db = na * dc * db := by
      have f1 : nb * da * dc = na * db * dc := by rw [g1]
      have f2 : nc * db * da = nb * dc * da := by rw [g2]
      omega
    exact Int.eq_of_mul_eq_mul_right (by omega) this
theorem ahead_irrefl (pol p : Int) (a : Z) : aheadB pol p a a = false := by unfold aheadB; simp
theorem ahead_trans {pol p : Int} {a b c : Z} (ha : okZ p a) (hb : okZ p b) (hc : okZ p c) (h1 : aheadB pol p a b = true) (h2 : aheadB pol p b c = true) : aheadB pol p a c = true := by
  unfold aheadB at *
  by_cases hp : pol = 0
  · simp only [hp, if_true] at *
    by_cases e1 : a.2.1 = b.2.1 <;> by_cases e2 : b.2.1 = c.2.1 <;> by_cases e3 : a.2.1 = c.2.1 <;> simp_all <;> omega
  · simp only [hp, if_false] at *
    have t := fun h1 h2 => good_trans (p := p) (a := a) (b := b) (c := c) hb hc ha h1 h2
    generalize goodZ p a b = x1 at *
    generalize goodZ p b a = x2 at *
    generalize goodZ p b c = x3 at *
    generalize goodZ p c b = x4 at *
    generalize goodZ p a c = x5 at *
    generalize goodZ p c a = x6 at *
    have f1 : x2 ≤ x1 ∧ (x2 = x1 → a.1 < b.1) := by
      by_cases e : x1 = x2
      · simp [e] at h1; omega
      · simp [e] at h1; omega
    have f2 : x4 ≤ x3 ∧ (x4 = x3 → b.1 < c.1) := by
      by_cases e : x3 = x4
      · simp [e] at h2; omega
      · simp [e] at h2; omega
    obtain ⟨t1, t2, t3⟩ := t f1.1 f2.1
    by_cases e : x5 = x6
    · have g1 : x2 = x1 := by
        rcases Int.lt_or_le x2 x1 with h | h
        · have := t2 (.inl h); omega
        · omega
      have g2 : x4 = x3 := by
        rcases Int.lt_or_le x4 x3 with h | h
        · have := t2 (.inr h); omega
        · omega
      have := f1.2 g1; have := f2.2 g2
      simp [e]; omega
    · simp [e]; omega
theorem ahead_ntrans {pol p : Int} {a b c : Z} (ha : okZ p a) (hb : okZ p b) (hc : okZ p c) (h1 : aheadB pol p a b = false) (h2 : aheadB pol p b c = false) : aheadB pol p a c = false := by
  unfold aheadB at *
  by_cases hp : pol = 0
  · simp only [hp, if_true] at *
    by_cases e1 : a.2.1 = b.2.1 <;> by_cases e2 : b.2.1 = c.2.1 <;> by_cases e3 : a.2.1 = c.2.1 <;> simp_all <;> omega
  · simp only [hp, if_false] at *
    have t := fun h1 h2 => good_trans (p := p) (a := c) (b := b) (c := a) hb ha hc h1 h2
    generalize goodZ p a b = x1 at *
    generalize goodZ p b a = x2 at *
    generalize goodZ p b c = x3 at *
    generalize goodZ p c b = x4 at *
    generalize goodZ p a c = x5 at *
    generalize goodZ p c a = x6 at *
    have f1 : x1 ≤ x2 ∧ (x1 = x2 → b.1 ≤ a.1) := by
      by_cases e : x1 = x2
      · simp [e] at h1; omega
      · simp [e] at h1; omega
    have f2 : x3 ≤ x4 ∧ (x3 = x4 → c.1 ≤ b.1) := by
      by_cases e : x3 = x4
      · simp [e] at h2; omega
      · simp [e] at h2; omega
    obtain ⟨t1, t2, t3⟩ := t f2.1 f1.1
    by_cases e : x5 = x6
    · have g1 : x1 = x2 := by
        rcases Int.lt_or_le x1 x2 with h | h
        · have := t2 (.inr h); omega
        · omega
      have g2 : x3 = x4 := by
        rcases Int.lt_or_le x3 x4 with h | h
        · have := t2 (.inl h); omega
        · omega
      have := f1.2 g1; have := f2.2 g2
      simp [e]; omega
    · simp [e]; omega
theorem lt_flip {x y : Int} (h : x ≠ y) : decide (x < y) = !decide (y < x) := by
  by_cases h2 : x < y
  · rw [decide_eq_true h2, decide_eq_false (by omega)]; rfl
  · rw [decide_eq_false h2, decide_eq_true (by omega)]; rfl
theorem ahead_total {pol p : Int} {a b : Z} (h : a.1 ≠ b.1) : aheadB pol p a b = !aheadB pol p b a := by
  unfold aheadB
  by_cases hp : pol = 0
  · rw [if_pos hp, if_pos hp]
    by_cases e : a.2.1 = b.2.1
    · rw [if_neg (fun hh => hh e), if_neg (fun hh => hh e.symm)]; exact lt_flip h
    · rw [if_pos e, if_pos (fun hh => e hh.symm)]; exact lt_flip e
  · rw [if_neg hp, if_neg hp]
    by_cases e : goodZ p a b = goodZ p b a
    · rw [if_neg (fun hh => hh e), if_neg (fun hh => hh e.symm)]; exact lt_flip h
    · rw [if_pos e, if_pos (fun hh => e hh.symm)]; exact lt_flip (fun hh => e hh.symm)
/- THE REFERENCE's ORDER. -/
def insZ (pol p : Int) (x : Z) : List Z → List Z
  | [] => [x]
  | y :: ys => if aheadB pol p y x = true then y :: insZ pol p x ys else x :: y :: ys
def sortZ (pol p : Int) (l : List Z) : List Z := l.foldl (fun out x => insZ pol p x out) []
theorem insZ_perm (pol p : Int) (x : Z) : ∀ l, (insZ pol p x l).Perm (x :: l)
  | [] => List.Perm.refl _
  | y :: ys => by
    unfold insZ
    split
    · exact (List.Perm.cons y (insZ_perm pol p x ys)).trans (List.Perm.swap x y ys)
    · exact List.Perm.refl _
theorem foldZ_perm (pol p : Int) : ∀ (l out : List Z), (l.foldl (fun out x => insZ pol p x out) out).Perm (out ++ l)
  | [], out => by simp
  | x :: l, out => by
    rw [List.foldl_cons]
    refine (foldZ_perm pol p l _).trans ?_
    refine ((insZ_perm pol p x out).append_right l).trans ?_
    simpa using (List.perm_middle (a := x) (l₁ := out) (l₂ := l)).symm
theorem sortZ_perm (pol p : Int) (l : List Z) : (sortZ pol p l).Perm l := foldZ_perm pol p l []
/-- Zones that may be: each may be, and no two have one Id. -/
structure Goods (p : Int) (l : List Z) : Prop where
  ok : ∀ z ∈ l, okZ p z
  ids : (l.map Prod.fst).Nodup
theorem Goods.perm {p : Int} {l m : List Z} (h : Goods p l) (hp : m.Perm l) : Goods p m := ⟨fun z hz => h.ok z (hp.mem_iff.1 hz), (hp.map Prod.fst).nodup_iff.2 h.ids⟩
def Srt (pol p : Int) (l : List Z) : Prop := l.Pairwise fun a b => aheadB pol p a b = true
theorem insZ_srt {pol p : Int} {x : Z} : ∀ {l : List Z}, Goods p (x :: l) → Srt pol p l → Srt pol p (insZ pol p x l)
  | [], _, _ => by simp [insZ, Srt]
  | y :: ys, hg, hs => by
    have hs' := List.pairwise_cons.1 hs
    have hne : ∀ z ∈ y :: ys, x.1 ≠ z.1 := fun z hz e => by
      have := (List.nodup_cons.1 hg.ids).1
      exact this (List.mem_map.2 ⟨z, hz, e.symm⟩)
    unfold insZ
    split
    · rename_i ha
      refine List.pairwise_cons.2 ⟨fun z hz => ?_, insZ_srt (hg.perm (l := x :: y :: ys) (m := x :: y :: ys) (List.Perm.refl _) |> fun h => ⟨fun z hz => h.ok z (by rcases List.mem_cons.1 hz with e | e <;> simp [e]), ?_⟩) hs'.2⟩
      · rcases List.mem_cons.1 ((insZ_perm pol p x ys).mem_iff.1 hz) with e | e
        · rw [e]; exact ha
        · exact hs'.1 z e
      · have := h.ids
        simp only [List.map_cons, List.nodup_cons, List.mem_cons, not_or] at this ⊢
        exact ⟨this.1.2, this.2.2⟩
    · rename_i ha
      have hxy : aheadB pol p x y = true := by rw [ahead_total (hne y (by simp))]; simpa using ha
      refine List.pairwise_cons.2 ⟨fun z hz => ?_, hs⟩
      rcases List.mem_cons.1 hz with e | e
      · rw [e]; exact hxy
      · exact ahead_trans (hg.ok x (by simp)) (hg.ok y (by simp)) (hg.ok z (by simp [e])) hxy (hs'.1 z e)
theorem foldZ_srt {pol p : Int} : ∀ {l out : List Z}, Goods p (out ++ l) → Srt pol p out → Srt pol p (l.foldl (fun out x => insZ pol p x out) out)
  | [], out, _, hs => hs
  | x :: l, out, hg, hs => by
    rw [List.foldl_cons]
    have hp1 : (x :: out ++ l).Perm (out ++ x :: l) := by simpa using (List.perm_middle (a := x) (l₁ := out) (l₂ := l)).symm
    have h1 : Goods p (x :: out) := by
      have := hg.perm hp1
      refine ⟨fun z hz => this.ok z (List.mem_append_left l hz), ?_⟩
      have h2 := this.ids
      rw [List.map_append] at h2
      exact (List.nodup_append.1 h2).1
    exact foldZ_srt (hg.perm (((insZ_perm pol p x out).append_right l).trans hp1)) (insZ_srt h1 hs)
theorem sortZ_srt {pol p : Int} {l : List Z} (h : Goods p l) : Srt pol p (sortZ pol p l) := foldZ_srt (by simpa using h) List.Pairwise.nil
/-- There is one order alone. -/
theorem srt_uniq {pol p : Int} {l m : List Z} (hp : l.Perm m) (hg : Goods p l) (h1 : Srt pol p l) (h2 : Srt pol p m) : l = m := by
  refine List.Perm.eq_of_pairwise (le := fun a b => aheadB pol p a b = true) (fun a b ha hb g1 g2 => ?_) h1 h2 hp
  have := ahead_trans (hg.ok a ha) (hg.ok b (hp.mem_iff.2 hb)) (hg.ok a ha) g1 g2
  rw [ahead_irrefl] at this; cases this
theorem sortZ_eq {pol p : Int} {l m : List Z} (hp : m.Perm l) (hg : Goods p l) (h : Srt pol p m) : m = sortZ pol p l := srt_uniq (hp.trans (sortZ_perm pol p l).symm) (hg.perm hp) h (sortZ_srt hg)
theorem sortZ_turn {pol p : Int} {l m : List Z} (hp : m.Perm l) (hg : Goods p l) : sortZ pol p m = sortZ pol p l := sortZ_eq ((sortZ_perm pol p m).trans hp) hg (sortZ_srt (hg.perm hp))
/- WHAT IS CHOSEN. -/
def sumV (l : List Z) : Int := (l.map fun z => z.2.1).sum
def needB (p live : Int) (i : Nat) : Bool := decide ((live + p - 1) / p ≤ min (i : Int) 3)
def pick (p : Int) : Nat → Int → List Z → Option Nat
  | _, _, [] => none
  | i, live, z :: zs => if needB p (live + z.2.1) i = true then some (i + 1) else pick p (i + 1) (live + z.2.1) zs
def chosen (pol p extra : Int) (l : List Z) : List Z :=
  match pick p 0 extra (sortZ pol p l) with
  | some k => (sortZ pol p l).take k
  | none => if pol = 0 then [] else match pick p 0 extra (sortZ 0 p l) with
    | some k => (sortZ 0 p l).take k
    | none => []
theorem sumV_cons (z : Z) (l : List Z) : sumV (z :: l) = z.2.1 + sumV l := by simp [sumV]
theorem sumV_nil : sumV [] = 0 := rfl
theorem pick_some {p : Int} : ∀ {zs : List Z} {i k : Nat} {live : Int}, pick p i live zs = some k → i < k ∧ k ≤ i + zs.length ∧ needB p (live + sumV (zs.take (k - i))) (k - 1) = true
  | [], _, _, _, h => by cases h
  | z :: zs, i, k, live, h => by
    unfold pick at h
    split at h
    · rename_i hn
      injection h with h; subst h
      refine ⟨by omega, by simp, ?_⟩
      rw [show i + 1 - i = 1 by omega, show i + 1 - 1 = i by omega]
      simpa [sumV] using hn
    · obtain ⟨h1, h2, h3⟩ := pick_some h
      refine ⟨by omega, by simp; omega, ?_⟩
      rw [show k - i = (k - (i + 1)) + 1 by omega, List.take_succ_cons, sumV_cons, ← Int.add_assoc]
      exact h3
theorem pick_le {p : Int} : ∀ {zs : List Z} {i : Nat} {live : Int} (j : Nat), j < zs.length → needB p (live + sumV (zs.take (j + 1))) (i + j) = true → ∃ k, pick p i live zs = some k ∧ k ≤ i + j + 1
  | [], _, _, j, hj, _ => by simp at hj
  | z :: zs, i, live, j, hj, h => by
    unfold pick
    split
    · exact ⟨i + 1, rfl, by omega⟩
    · rename_i hn
      cases j with
      | zero => rw [List.take_succ_cons, List.take_zero, sumV_cons, sumV_nil, Int.add_zero] at h; exact (hn h).elim
      | succ j =>
        rw [List.take_succ_cons, sumV_cons, ← Int.add_assoc, show i + (j + 1) = i + 1 + j by omega] at h
        obtain ⟨k, h1, h2⟩ := pick_le (i := i + 1) j (by simpa using hj) h
        exact ⟨k, h1, by omega⟩
/- THE LEAST. -/
theorem srt_least {p : Int} {l : List Z} (h : Srt 0 p l) : l.Pairwise fun a b => a.2.1 ≤ b.2.1 := by
  refine List.Pairwise.imp (fun {a b} hab => ?_) h
  unfold aheadB at hab
  simp only [if_true] at hab
  split at hab
  · have := of_decide_eq_true hab; omega
  · rename_i hne
    have : a.2.1 = b.2.1 := Classical.not_not.1 hne
    omega
theorem sum_le_each {r : List Z} {x : Int} : (∀ y ∈ r, x ≤ y.2.1) → x * (r.length : Int) ≤ sumV r := by
  induction r with
  | nil => intro _; simp [sumV]
  | cons y r ih =>
    intro h
    have h1 := h y (by simp)
    have h2 := ih fun z hz => h z (by simp [hz])
    rw [sumV_cons, List.length_cons, Int.natCast_add, Int.mul_add]
    simp; omega
theorem sum_two {r : List Z} : ∀ {s : List Z}, (∀ x ∈ s, ∀ y ∈ r, x.2.1 ≤ y.2.1) → sumV s * (r.length : Int) ≤ (s.length : Int) * sumV r
  | [], _ => by simp [sumV]
  | x :: s, h => by
    have h1 := sum_le_each (h x (by simp))
    have h2 := sum_two (s := s) fun z hz => h z (by simp [hz])
    rw [sumV_cons, List.length_cons, Int.natCast_add, Int.add_mul, Int.add_mul]
    simp; omega
theorem sumV_app (a b : List Z) : sumV (a ++ b) = sumV a + sumV b := by simp [sumV]
theorem sum_first {l : List Z} (h : l.Pairwise fun a b => a.2.1 ≤ b.2.1) {m : Nat} (hm : m ≤ l.length) : (l.length : Int) * sumV (l.take m) ≤ (m : Int) * sumV l := by
  have hd : ∀ x ∈ l.take m, ∀ y ∈ l.drop m, x.2.1 ≤ y.2.1 := by
    have h' := h
    rw [← List.take_append_drop m l] at h'
    exact fun x hx y hy => (List.pairwise_append.1 h').2.2 x hx y hy
  have h2 := sum_two hd
  have e : sumV l = sumV (l.take m) + sumV (l.drop m) := by rw [← sumV_app, List.take_append_drop]
  have l1 : (l.take m).length = m := by rw [List.length_take]; omega
  have l2 : (l.drop m).length = l.length - m := List.length_drop
  rw [l1, l2] at h2
  rw [e, Int.mul_add]
  have : (l.length : Int) * sumV (l.take m) = (m : Int) * sumV (l.take m) + sumV (l.take m) * ((l.length - m : Nat) : Int) := by
    rw [Int.mul_comm (sumV _) _, ← Int.add_mul]
    congr 1
    omega
  omega
theorem perm_sum : ∀ {a b : List Int}, a.Perm b → a.sum = b.sum := by
  intro a b h
  induction h with
  | nil => rfl
  | cons x _ ih => simp [ih]
  | swap x y l => simp; omega
  | trans _ _ h1 h2 => exact h1.trans h2
/-- Of four zones there is a choice. -/
theorem pick_four {p extra : Int} {l : List Z} (hp : 1 ≤ p) (hg : Goods p l) (he : extra ≤ p) (h4 : 4 ≤ l.length) (hs : 2 * sumV l ≤ (l.length : Int) * p) : ∃ k, pick p 0 extra (sortZ 0 p l) = some k := by
  have hperm := sortZ_perm 0 p l
  have hl := hperm.length_eq
  have hsum : sumV (sortZ 0 p l) = sumV l := by
    have := (hperm.map fun z : Z => z.2.1)
    exact perm_sum this
  have h1 := sum_first (srt_least (sortZ_srt (pol := 0) hg)) (m := 4) (by omega)
  rw [hl, hsum] at h1
  have h2 : (l.length : Int) * sumV ((sortZ 0 p l).take 4) ≤ (l.length : Int) * (2 * p) := by
    have : (l.length : Int) * (2 * p) = 2 * ((l.length : Int) * p) := by rw [← Int.mul_assoc, Int.mul_comm (l.length : Int) 2, Int.mul_assoc]
    rw [this]
    have : ((4 : Nat) : Int) * sumV l = 2 * (2 * sumV l) := by omega
    omega
  have h3 := Int.le_of_mul_le_mul_left h2 (by omega)
  obtain ⟨k, hk, _⟩ := pick_le (p := p) (i := 0) (live := extra) (zs := sortZ 0 p l) 3 (by omega) (by
    unfold needB
    refine decide_eq_true ?_
    have : (extra + sumV ((sortZ 0 p l).take 4) + p - 1) / p < 4 := Int.ediv_lt_of_lt_mul (by omega) (by omega)
    show (extra + sumV ((sortZ 0 p l).take (3 + 1)) + p - 1) / p ≤ min ((0 + 3 : Nat) : Int) 3
    have e : (3 + 1 : Nat) = 4 := rfl
    rw [e]; omega)
  exact ⟨k, hk⟩
end Go.Proofs.Yticppjmldlhbiaa.Vic
