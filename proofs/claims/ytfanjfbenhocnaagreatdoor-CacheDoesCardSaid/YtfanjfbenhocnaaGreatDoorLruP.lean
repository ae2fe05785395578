/-
  Rows that are linked both ways: plain laws. No program in sight.
-/
import Derived.WalkKit
namespace Go.Pl.Lru
/- ROWS THAT ARE LINKED BOTH WAYS, EACH A RING THROUGH ITS END: plain. -/
def Link (nx bk : Nat → Nat) : List Nat → Prop
  | x :: y :: r => (nx x = y ∧ bk y = x) ∧ Link nx bk (y :: r)
  | _ => True
def up (f : Nat → Nat) (i v : Nat) : Nat → Nat := fun j => if j = i then v else f j
theorem up_same (f : Nat → Nat) (i v : Nat) : up f i v i = v := by simp [up]
theorem up_ne (f : Nat → Nat) {i j : Nat} (v : Nat) (h : j ≠ i) : up f i v j = f j := by simp [up, h]
theorem Link.congr {nx bk nx' bk' : Nat → Nat} : ∀ (l : List Nat), Link nx bk l → (∀ x ∈ l.dropLast, nx' x = nx x) → (∀ x ∈ l.tail, bk' x = bk x) → Link nx' bk' l
  | [], _, _, _ => trivial
  | [_], _, _, _ => trivial
  | x :: y :: r, ⟨⟨h1, h2⟩, h3⟩, hn, hb => by
    refine ⟨⟨by rw [hn x (by simp), h1], by rw [hb y (by simp), h2]⟩, Link.congr (y :: r) h3 (fun z hz => hn z ?_) (fun z hz => hb z ?_)⟩
    · rw [List.dropLast_cons_of_ne_nil (by simp)]; exact List.mem_cons_of_mem _ hz
    · simp only [List.tail_cons] at hz ⊢; exact List.mem_cons_of_mem _ hz
theorem Link.split {nx bk : Nat → Nat} : ∀ (l : List Nat) (x : Nat) (r : List Nat), Link nx bk (l ++ x :: r) ↔ Link nx bk (l ++ [x]) ∧ Link nx bk (x :: r)
  | [], x, r => by simp [Link]
  | [y], x, r => by simp [Link]
  | y :: z :: l, x, r => by
    have := Link.split (nx := nx) (bk := bk) (z :: l) x r
    simp only [List.cons_append, Link] at this ⊢
    rw [this]
    constructor
    · rintro ⟨a, b, c⟩; exact ⟨⟨a, b⟩, c⟩
    · rintro ⟨⟨a, b⟩, c⟩; exact ⟨a, b, c⟩
theorem link_first {nx bk : Nat → Nat} {e s : Nat} {l : List Nat} (h : Link nx bk (e :: (l ++ [e]))) (hnd : l.Nodup) (he : e ∉ l) (hs : s ∉ l) (hse : s ≠ e) :
    Link (up (up nx e s) s (nx e)) (up (up bk s e) (nx e) s) (e :: (s :: l ++ [e])) := by
  have key : ∀ (n : Nat) (rest : List Nat), l ++ [e] = n :: rest → nx e = n → Link nx bk (n :: rest) → s ≠ n → n ∉ rest → s ∉ rest → (∀ x ∈ (n :: rest).dropLast, x ≠ e ∧ x ≠ s) →
      Link (up (up nx e s) s (nx e)) (up (up bk s e) (nx e) s) (e :: s :: n :: rest) := by
    intro n rest _ hn hl h1 h2 h3 h4
    rw [hn]
    refine ⟨⟨?_, ?_⟩, ⟨?_, ?_⟩, ?_⟩
    · rw [up_ne _ _ (Ne.symm hse), up_same]
    · rw [up_ne _ _ h1, up_same]
    · rw [up_same]
    · rw [up_same]
    · refine Link.congr _ hl (fun x hx => ?_) (fun x hx => ?_)
      · rw [up_ne _ _ (h4 x hx).2, up_ne _ _ (h4 x hx).1]
      · simp only [List.tail_cons] at hx
        rw [up_ne _ _ (fun e : x = n => h2 (by rw [← e]; exact hx)), up_ne _ _ (fun e : x = s => h3 (by rw [← e]; exact hx))]
  cases l with
  | nil => exact key e [] rfl h.1.1 trivial hse (by simp) (by simp) (by simp)
  | cons n r =>
    refine key n (r ++ [e]) rfl h.1.1 h.2 (fun e' => hs (by simp [e'])) ?_ ?_ ?_
    · have := (List.nodup_cons.1 hnd).1
      simp only [List.mem_append, List.mem_singleton, not_or]
      exact ⟨this, fun e' => he (by simp [e'])⟩
    · simp only [List.mem_append, List.mem_singleton, not_or]
      exact ⟨fun h' => hs (by simp [h']), hse⟩
    · intro x hx
      have : x ∈ n :: r := by
        rw [← List.cons_append, List.dropLast_concat] at hx; exact hx
      exact ⟨fun e' => he (e' ▸ this), fun e' => hs (e' ▸ this)⟩
/-- A node of a ring, and what stands beside it. -/
theorem link_at {nx bk : Nat → Nat} {e s : Nat} {l1 l2 : List Nat} (h : Link nx bk (e :: (l1 ++ s :: l2 ++ [e]))) :
    (∃ A, e :: l1 = A ++ [bk s]) ∧ (∃ B, l2 ++ [e] = nx s :: B) := by
  have h' : Link nx bk ((e :: l1) ++ s :: (l2 ++ [e])) := by simpa using h
  rw [Link.split] at h'
  obtain ⟨h1, h2⟩ := h'
  constructor
  · obtain ⟨A, b, hA⟩ : ∃ A b, e :: l1 = A ++ [b] := ⟨(e :: l1).dropLast, (e :: l1).getLast (by simp), (List.dropLast_concat_getLast _).symm⟩
    rw [hA, List.append_assoc, List.singleton_append, Link.split] at h1
    exact ⟨A, by rw [hA, h1.2.1.2]⟩
  · cases l2 with
    | nil => exact ⟨[], by rw [h2.1.1]; rfl⟩
    | cons n r => exact ⟨r ++ [e], by rw [h2.1.1]; rfl⟩
theorem link_remove {nx bk : Nat → Nat} {e s : Nat} {l1 l2 : List Nat} (h : Link nx bk (e :: (l1 ++ s :: l2 ++ [e]))) (hnd : (l1 ++ s :: l2).Nodup) (he : e ∉ l1 ++ s :: l2) :
    Link (up nx (bk s) (nx s)) (up bk (nx s) (bk s)) (e :: (l1 ++ l2 ++ [e])) := by
  obtain ⟨⟨A, hA⟩, B, hB⟩ := link_at h
  have h' : Link nx bk ((e :: l1) ++ s :: (l2 ++ [e])) := by simpa using h
  rw [Link.split] at h'
  obtain ⟨h1, h2⟩ := h'
  have h1' : Link nx bk (A ++ [bk s]) := by
    rw [hA, List.append_assoc, List.singleton_append, Link.split] at h1; exact h1.1
  have h2' : Link nx bk (nx s :: B) := by rw [hB] at h2; exact h2.2
  have e1 : e :: (l1 ++ l2 ++ [e]) = A ++ bk s :: nx s :: B := by
    have : e :: (l1 ++ l2 ++ [e]) = (e :: l1) ++ (l2 ++ [e]) := by simp
    rw [this, hA, hB]; simp
  rw [List.nodup_append] at hnd
  obtain ⟨n1, n2, n3⟩ := hnd
  obtain ⟨ns, n2⟩ := List.nodup_cons.1 n2
  have hel1 : e ∉ l1 := fun h => he (List.mem_append_left _ h)
  have hel2 : e ∉ l2 := fun h => he (List.mem_append_right _ (List.mem_cons_of_mem _ h))
  have ndA : (A ++ [bk s]).Nodup := by rw [← hA]; exact List.nodup_cons.2 ⟨hel1, n1⟩
  have ndB : (nx s :: B).Nodup := by
    rw [← hB]
    rw [List.nodup_append]
    exact ⟨n2, by simp, fun a ha b hb => by rw [List.mem_singleton] at hb; subst hb; exact fun e' => hel2 (e' ▸ ha)⟩
  have mB : ∀ x, x ∈ nx s :: B ↔ x ∈ l2 ∨ x = e := fun x => by rw [← hB]; simp
  have mA : ∀ x, x ∈ A ++ [bk s] ↔ x = e ∨ x ∈ l1 := fun x => by rw [← hA]; simp
  rw [e1, Link.split]
  have dis : ∀ x, x ∈ l1 → x ∉ l2 := fun x h1 h2 => n3 x h1 x (List.mem_cons_of_mem _ h2) rfl
  have hnA : bk s ∉ A := by
    rw [List.nodup_append] at ndA
    exact fun h => ndA.2.2 _ h (bk s) (by simp) rfl
  constructor
  · refine Link.congr _ h1' (fun x hx => ?_) (fun x hx => ?_)
    · rw [List.dropLast_concat] at hx
      rw [up_ne _ _ (fun e' : x = bk s => hnA (by rw [← e']; exact hx))]
    · rw [← hA, List.tail_cons] at hx
      refine up_ne _ _ fun e' => ?_
      have := (mB x).1 (by rw [e']; simp)
      rcases this with h | h
      · exact dis x hx h
      · exact hel1 (h ▸ hx)
  · refine ⟨⟨up_same _ _ _, up_same _ _ _⟩, Link.congr _ h2' (fun x hx => ?_) (fun x hx => ?_)⟩
    · have hx2 : x ∈ l2 := by rw [← hB, List.dropLast_concat] at hx; exact hx
      refine up_ne _ _ fun e' => ?_
      have := (mA x).1 (by rw [e']; simp)
      rcases this with h | h
      · exact hel2 (h ▸ hx2)
      · exact dis x h hx2
    · simp only [List.tail_cons] at hx
      exact up_ne _ _ fun e' => (List.nodup_cons.1 ndB).1 (e' ▸ hx)
/-- What is turned in another ring leaves this one as it is. -/
theorem link_other {nx bk nx' bk' : Nat → Nat} {e : Nat} {l : List Nat} (h : Link nx bk (e :: (l ++ [e]))) (hn : ∀ x, x = e ∨ x ∈ l → nx' x = nx x ∧ bk' x = bk x) : Link nx' bk' (e :: (l ++ [e])) := by
  refine Link.congr _ h (fun x hx => ?_) (fun x hx => ?_)
  · have := List.dropLast_subset _ hx
    simp at this
    exact (hn x (by rcases this with h | h | h <;> simp [h])).1
  · simp at hx
    exact (hn x (by rcases hx with h | h <;> simp [h])).2
def upL (Ls : Nat → List Nat) (r : Nat) (l : List Nat) : Nat → List Nat := fun q => if q = r then l else Ls q
def del (Ls : Nat → List Nat) (s : Nat) : Nat → List Nat := fun r => (Ls r).filter fun x => x != s
structure Rk (nx bk rw : Nat → Nat) (S : Nat) (Ls : Nat → List Nat) : Prop where
  le : S ≤ 64
  link : ∀ r, r < 2 → Link nx bk ((64 + r) :: (Ls r ++ [64 + r]))
  nd : ∀ r, r < 2 → (Ls r).Nodup
  row : ∀ r, r < 2 → ∀ x, x ∈ Ls r ↔ x < S ∧ rw x = r
  out : ∀ x, x < 66 → rw x ≤ 2
theorem Rk.small {nx bk rw : Nat → Nat} {S : Nat} {Ls : Nat → List Nat} (h : Rk nx bk rw S Ls) {r x : Nat} (hr : r < 2) (hx : x ∈ Ls r) : x < 64 := by
  have := ((h.row r hr x).1 hx).1; have := h.le; omega
theorem link_mem {nx bk : Nat → Nat} {e : Nat} {l : List Nat} (h : Link nx bk (e :: (l ++ [e]))) : (nx e = e ∨ nx e ∈ l) ∧ (bk e = e ∨ bk e ∈ l) := by
  constructor
  · cases l with
    | nil => exact .inl h.1.1
    | cons n r => exact .inr (by rw [h.1.1]; simp)
  · rcases List.eq_nil_or_concat l with rfl | ⟨l', x, rfl⟩
    · exact .inl h.1.2
    · have h' : Link nx bk ((e :: l') ++ x :: [e]) := by simpa using h
      rw [Link.split] at h'
      exact .inr (by rw [h'.2.1.2]; simp)
theorem Rk.first {nx bk rw : Nat → Nat} {S : Nat} {Ls : Nat → List Nat} (h : Rk nx bk rw S Ls) {s r : Nat} (hs : s < S) (hr : r < 2) (hout : ∀ q, q < 2 → s ∉ Ls q) :
    Rk (up (up nx (64 + r) s) s (nx (64 + r))) (up (up bk s (64 + r)) (nx (64 + r)) s) (up rw s r) S (upL Ls r (s :: Ls r)) := by
  have hle := h.le
  have hend : ∀ q x, q < 2 → x ∈ Ls q → x ≠ s ∧ x < 64 := fun q x hq hx => ⟨fun e => hout q hq (e ▸ hx), h.small hq hx⟩
  refine ⟨h.le, fun q hq => ?_, fun q hq => ?_, fun q hq x => ?_, fun x hx => ?_⟩
  · by_cases e : q = r
    · subst e
      simp only [upL, if_true]
      exact link_first (h.link q hq) (h.nd q hq) (fun hh => by have := h.small hq hh; omega) (hout q hq) (by omega)
    · simp only [upL, if_neg e]
      refine link_other (h.link q hq) fun x hx => ?_
      have hxs : x ≠ s := by
        rcases hx with rfl | hx
        · omega
        · exact (hend q x hq hx).1
      have hxe : x ≠ 64 + r := by
        rcases hx with rfl | hx
        · omega
        · have := (hend q x hq hx).2; omega
      refine ⟨by rw [up_ne _ _ hxs, up_ne _ _ hxe], ?_⟩
      rw [up_ne _ _ (fun e' => ?_), up_ne _ _ hxs]
      have := (link_mem (h.link r hr)).1
      rw [← e'] at this
      rcases this with e2 | e2
      · exact hxe e2
      · rcases hx with rfl | hx
        · have := h.small hr e2; omega
        · exact e (((h.row q hq x).1 hx).2.symm.trans ((h.row r hr x).1 e2).2)
  · by_cases e : q = r
    · subst e; simp only [upL, if_true]; exact List.nodup_cons.2 ⟨hout q hq, h.nd q hq⟩
    · simp only [upL, if_neg e]; exact h.nd q hq
  · have hrow := h.row q hq x
    by_cases hx : x = s
    · subst hx
      simp only [up_same]
      by_cases e : q = r
      · subst e; simp [upL, hs]
      · simp only [upL, if_neg e]
        exact ⟨fun hh => absurd hh (hout q hq), fun hh => absurd hh.2.symm e⟩
    · rw [up_ne _ _ hx]
      by_cases e : q = r
      · subst e; simp only [upL, if_true, List.mem_cons]; rw [← hrow]; simp [hx]
      · simp only [upL, if_neg e]; exact hrow
  · by_cases e : x = s
    · subst e; rw [up_same]; omega
    · rw [up_ne _ _ e]; exact h.out x hx
theorem filter_mid {s : Nat} {l1 l2 : List Nat} (hnd : (l1 ++ s :: l2).Nodup) : (l1 ++ s :: l2).filter (fun x => x != s) = l1 ++ l2 := by
  rw [List.nodup_append] at hnd
  obtain ⟨_, n2, n3⟩ := hnd
  have h2 := (List.nodup_cons.1 n2).1
  rw [List.filter_append, List.filter_cons_of_neg (by simp)]
  rw [List.filter_eq_self.2 (fun a ha => by simp; exact fun e => n3 a ha s (by simp) e), List.filter_eq_self.2 (fun a ha => by simp; exact fun e => h2 (e ▸ ha))]
theorem Rk.remove {nx bk rw : Nat → Nat} {S : Nat} {Ls : Nat → List Nat} (h : Rk nx bk rw S Ls) {s r : Nat} (hr : r < 2) (hin : s ∈ Ls r) :
    Rk (up nx (bk s) (nx s)) (up bk (nx s) (bk s)) (up rw s 2) S (del Ls s) ∧ nx s < 66 ∧ bk s < 66 ∧ rw s = r ∧ (del Ls s r).length + 1 = (Ls r).length ∧ ∀ q, q < 2 → q ≠ r → del Ls s q = Ls q := by
  have hle := h.le
  have hsS := (h.row r hr s).1 hin
  obtain ⟨l1, l2, hl⟩ := List.append_of_mem hin
  have hlink := h.link r hr
  have hnd := h.nd r hr
  have hre : 64 + r ∉ Ls r := fun hh => by have := h.small hr hh; omega
  have hat := link_at (by rw [hl] at hlink; exact hlink)
  have hdel : del Ls s r = l1 ++ l2 := by simp only [del]; rw [hl]; rw [hl] at hnd; exact filter_mid hnd
  have mb : bk s = 64 + r ∨ bk s ∈ Ls r := by
    obtain ⟨⟨A, hA⟩, _⟩ := hat
    have : bk s ∈ (64 + r) :: l1 := by rw [hA]; simp
    rcases List.mem_cons.1 this with h | h
    · exact .inl h
    · exact .inr (by rw [hl]; simp [h])
  have mn : nx s = 64 + r ∨ nx s ∈ Ls r := by
    obtain ⟨_, B, hB⟩ := hat
    have : nx s ∈ l2 ++ [64 + r] := by rw [hB]; simp
    simp at this
    rcases this with h | h
    · exact .inr (by rw [hl]; simp [h])
    · exact .inl h
  have hother : ∀ q, q < 2 → q ≠ r → del Ls s q = Ls q := by
    intro q hq hne
    simp only [del]
    refine List.filter_eq_self.2 fun x hx => ?_
    simp only [bne_iff_ne, ne_eq]
    intro e; subst e
    exact hne (((h.row q hq x).1 hx).2.symm.trans hsS.2)
  refine ⟨⟨h.le, fun q hq => ?_, fun q hq => ?_, fun q hq x => ?_, fun x hx => ?_⟩, ?_, ?_, hsS.2, ?_, hother⟩
  · by_cases e : q = r
    · subst e
      rw [hdel]
      exact link_remove (by rw [hl] at hlink; exact hlink) (by rw [← hl]; exact hnd) (by rw [← hl]; exact hre)
    · rw [hother q hq e]
      have no : ∀ x, x = 64 + q ∨ x ∈ Ls q → ∀ y, y = 64 + r ∨ y ∈ Ls r → x ≠ y := by
        rintro x hx y hy rfl
        rcases hx with hx | hx <;> rcases hy with hy | hy
        · omega
        · have := h.small hr hy; omega
        · have := h.small hq hx; omega
        · exact e (((h.row q hq x).1 hx).2.symm.trans ((h.row r hr x).1 hy).2)
      exact link_other (h.link q hq) fun x hx => ⟨up_ne _ _ (no x hx _ mb), up_ne _ _ (no x hx _ mn)⟩
  · exact (h.nd q hq).sublist List.filter_sublist
  · simp only [del, List.mem_filter, bne_iff_ne, ne_eq, h.row q hq x]
    by_cases hx : x = s
    · subst hx; simp [up_same]; omega
    · simp [up_ne _ _ hx, hx]
  · by_cases e : x = s
    · subst e; rw [up_same]; omega
    · rw [up_ne _ _ e]; exact h.out x hx
  · rcases mn with h' | h'
    · omega
    · have := h.small hr h'; omega
  · rcases mb with h' | h'
    · omega
    · have := h.small hr h'; omega
  · rw [hdel, hl]; simp; omega
/-- The first one of a row, and the last one. -/
theorem Rk.ends {nx bk rw : Nat → Nat} {S : Nat} {Ls : Nat → List Nat} (h : Rk nx bk rw S Ls) {r : Nat} (hr : r < 2) : bk (64 + r) = (Ls r).getLastD (64 + r) ∧ nx (64 + r) = (Ls r).headD (64 + r) := by
  have hl := h.link r hr
  constructor
  · rcases List.eq_nil_or_concat (Ls r) with e | ⟨l', x, e⟩
    · rw [e] at hl ⊢; exact hl.1.2
    · rw [e] at hl ⊢
      have h' : Link nx bk (((64 + r) :: l') ++ x :: [64 + r]) := by simpa using hl
      rw [Link.split] at h'
      rw [h'.2.1.2]; simp
  · cases e : Ls r with
    | nil => rw [e] at hl; exact hl.1.1
    | cons a l => rw [e] at hl; exact hl.1.1
theorem Rk.step {nx bk rw : Nat → Nat} {S : Nat} {Ls : Nat → List Nat} (h : Rk nx bk rw S Ls) {r : Nat} (hr : r < 2) {l1 l2 : List Nat} {x : Nat} (hl : Ls r = l1 ++ x :: l2) : nx x = l2.headD (64 + r) := by
  have hk := h.link r hr
  rw [hl] at hk
  obtain ⟨_, B, hB⟩ := link_at hk
  cases l2 with
  | nil => simp at hB; simp [hB.1]
  | cons a l => simp at hB; simp [hB.1]
theorem nodup_le : ∀ (S : Nat) (l : List Nat), l.Nodup → (∀ x ∈ l, x < S) → l.length ≤ S
  | 0, l, _, h => by
    cases l with
    | nil => simp
    | cons a l => have := h a (by simp); omega
  | S + 1, l, hn, h => by
    by_cases hS : S ∈ l
    · obtain ⟨a, b, rfl⟩ := List.append_of_mem hS
      rw [List.nodup_append] at hn
      obtain ⟨n1, n2, n3⟩ := hn
      obtain ⟨ns, n2⟩ := List.nodup_cons.1 n2
      have hab : (a ++ b).Nodup := List.nodup_append.2 ⟨n1, n2, fun x hx y hy => n3 x hx y (List.mem_cons_of_mem _ hy)⟩
      have := nodup_le S (a ++ b) hab (fun x hx => by
        have h1 : x ≠ S := by
          rintro rfl
          rcases List.mem_append.1 hx with hx | hx
          · exact n3 x hx x (by simp) rfl
          · exact ns hx
        have h2 := h x (by simp at hx ⊢; rcases hx with h | h <;> simp [h])
        omega)
      simp at this ⊢; omega
    · have := nodup_le S l hn (fun x hx => by
        have h1 := h x hx
        have h2 : x ≠ S := fun e => hS (e ▸ hx)
        omega)
      omega
theorem Rk.len {nx bk rw : Nat → Nat} {S : Nat} {Ls : Nat → List Nat} (h : Rk nx bk rw S Ls) {r : Nat} (hr : r < 2) : (Ls r).length ≤ S := nodup_le S _ (h.nd r hr) fun x hx => ((h.row r hr x).1 hx).1
/-- Does a slot stand in a row? -/
def inL (Ls : Nat → List Nat) (x : Nat) : Bool := decide (x ∈ Ls 0) || decide (x ∈ Ls 1)
def inI (Ls : Nat → List Nat) (x : Int) : Bool := decide (0 ≤ x) && inL Ls x.toNat
theorem inL_iff {Ls : Nat → List Nat} {x : Nat} : inL Ls x = true ↔ ∃ r, r < 2 ∧ x ∈ Ls r := by
  simp only [inL, Bool.or_eq_true, decide_eq_true_eq]
  constructor
  · rintro (h | h)
    · exact ⟨0, by omega, h⟩
    · exact ⟨1, by omega, h⟩
  · rintro ⟨r, hr, h⟩
    have : r = 0 ∨ r = 1 := by omega
    rcases this with rfl | rfl
    · exact .inl h
    · exact .inr h
theorem Rk.in_rw {nx bk rw : Nat → Nat} {S : Nat} {Ls : Nat → List Nat} (h : Rk nx bk rw S Ls) {x : Nat} (hx : x < S) : inL Ls x = ((rw x : Int) != 2) := by
  have h0 := h.row 0 (by omega) x
  have h1 := h.row 1 (by omega) x
  have h2 := h.out x (by have := h.le; omega)
  rw [Bool.eq_iff_iff]
  simp only [inL, Bool.or_eq_true, decide_eq_true_eq, h0, h1, bne_iff_ne, ne_eq]
  omega
theorem Rk.in_small {nx bk rw : Nat → Nat} {S : Nat} {Ls : Nat → List Nat} (h : Rk nx bk rw S Ls) {x : Nat} (hx : inL Ls x = true) : x < S := by
  obtain ⟨r, hr, hx⟩ := inL_iff.1 hx
  exact ((h.row r hr x).1 hx).1
/-- All that stand in a row, by who goes first. -/
def que (Ls : Nat → List Nat) : List Nat := (Ls 0).reverse ++ (Ls 1).reverse
theorem mem_que {Ls : Nat → List Nat} {x : Nat} : x ∈ que Ls ↔ inL Ls x = true := by simp [que, inL]
theorem que_del (Ls : Nat → List Nat) (n : Nat) : que (del Ls n) = (que Ls).filter fun x => x != n := by simp [que, del, List.filter_append, List.filter_reverse]
theorem nodup_rev {l : List Nat} (h : l.Nodup) : l.reverse.Nodup := List.pairwise_reverse.2 (List.Pairwise.imp (fun hab => Ne.symm hab) h)
theorem Rk.que {nx bk rw : Nat → Nat} {S : Nat} {Ls : Nat → List Nat} (h : Rk nx bk rw S Ls) : (que Ls).Nodup := by
  unfold Lru.que
  rw [List.nodup_append]
  refine ⟨nodup_rev (h.nd 0 (by omega)), nodup_rev (h.nd 1 (by omega)), fun a ha b hb e => ?_⟩
  subst e
  have h0 := ((h.row 0 (by omega) a).1 (List.mem_reverse.1 ha)).2
  have h1 := ((h.row 1 (by omega) a).1 (List.mem_reverse.1 hb)).2
  omega
end Go.Pl.Lru
