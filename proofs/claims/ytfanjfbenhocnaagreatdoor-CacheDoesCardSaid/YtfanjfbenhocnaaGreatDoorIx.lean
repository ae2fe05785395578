/-
  An open table of 128 places: plain laws on how keys are found, put and taken out. No program in sight.
-/
import Derived.WalkKit
namespace Go.Pl.Ix
/- AN OPEN TABLE OF 128 PLACES, GONE THROUGH ONE BY ONE: plain. -/
structure C where
  t : Bool
  k : Int
  s : Int
def emptyC : C := ⟨false, 0, 0⟩
def upd (p : Nat → C) (i : Nat) (c : C) : Nat → C := fun j => if j = i then c else p j
theorem upd_same (p : Nat → C) (i : Nat) (c : C) : upd p i c i = c := by simp [upd]
theorem upd_ne (p : Nat → C) {i j : Nat} (c : C) (h : j ≠ i) : upd p i c j = p j := by simp [upd, h]
def hm (k : Int) : Nat := ((k * 2654435761) % 4294967296 / 33554432).toNat
theorem hm_lt (k : Int) : hm k < 128 := by unfold hm; omega
def dist (a b : Nat) : Nat := (b + 128 - a) % 128
theorem dist_at (a d : Nat) (ha : a < 128) (hd : d < 128) : dist a ((a + d) % 128) = d := by unfold dist; omega
theorem at_dist (a b : Nat) (ha : a < 128) (hb : b < 128) : (a + dist a b) % 128 = b := by unfold dist; omega
theorem dist_lt (a b : Nat) : dist a b < 128 := by unfold dist; omega
structure Inv (p : Nat → C) : Prop where
  uniq : ∀ i j, i < 128 → j < 128 → (p i).t = true → (p j).t = true → (p i).k = (p j).k → i = j
  path : ∀ i, i < 128 → (p i).t = true → ∀ d, d < dist (hm (p i).k) i → (p ((hm (p i).k + d) % 128)).t = true
def cnt (p : Nat → C) : Nat → Nat
  | 0 => 0
  | n + 1 => cnt p n + if (p n).t then 1 else 0
theorem cnt_le (p : Nat → C) : ∀ n, cnt p n ≤ n
  | 0 => Nat.le_refl _
  | n + 1 => by have := cnt_le p n; simp only [cnt]; split <;> omega
theorem cnt_full (p : Nat → C) : ∀ n, (∀ i, i < n → (p i).t = true) → cnt p n = n
  | 0, _ => rfl
  | n + 1, h => by simp only [cnt, cnt_full p n (fun i hi => h i (by omega)), h n (by omega), if_true]
theorem has_empty {p : Nat → C} (h : cnt p 128 < 128) : ∃ e, e < 128 ∧ (p e).t = false := by
  by_cases hh : ∀ i, i < 128 → (p i).t = true
  · rw [cnt_full p 128 hh] at h; omega
  · have : ∃ i, ¬ (i < 128 → (p i).t = true) := Classical.not_forall.1 hh
    obtain ⟨i, hi⟩ := this
    have hlt : i < 128 := Classical.byContradiction fun h => hi fun h' => absurd h' h
    exact ⟨i, hlt, by cases hb : (p i).t with | false => rfl | true => exact absurd (fun _ => hb) hi⟩
theorem cnt_upd (p : Nat → C) (i : Nat) (c : C) : ∀ n, i < n → cnt (upd p i c) n + (if (p i).t then 1 else 0) = cnt p n + if c.t then 1 else 0
  | n + 1, h => by
    simp only [cnt]
    by_cases hi : i = n
    · subst hi
      have : ∀ m, m ≤ i → cnt (upd p i c) m = cnt p m := by
        intro m
        induction m with
        | zero => intro _; rfl
        | succ m ih => intro hm; simp only [cnt, ih (by omega), upd_ne p c (show m ≠ i by omega)]
      rw [this i (Nat.le_refl _), upd_same]; omega
    · have := cnt_upd p i c n (by omega)
      rw [upd_ne p c (show n ≠ i from fun e => hi e.symm)]; omega
theorem cnt_pos {p : Nat → C} {i : Nat} (h : (p i).t = true) : ∀ n, i < n → 1 ≤ cnt p n
  | n + 1, hi => by
    simp only [cnt]
    by_cases e : i = n
    · subst e; simp [h]
    · have := cnt_pos h n (by omega); omega
def FindAt (p : Nat → C) (key : Int) (f : Nat) : Prop :=
  ∃ d, d < 128 ∧ f = (hm key + d) % 128 ∧ (∀ e, e < d → (p ((hm key + e) % 128)).t = true ∧ (p ((hm key + e) % 128)).k ≠ key) ∧ ((p f).t = true → (p f).k = key)
def NoKey (p : Nat → C) (key : Int) : Prop := ∀ i, i < 128 → (p i).t = true → (p i).k ≠ key
def Look (p : Nat → C) (key v : Int) : Prop := ∃ i, i < 128 ∧ (p i).t = true ∧ (p i).k = key ∧ (p i).s = v
theorem find_none {p : Nat → C} {key : Int} {f : Nat} (hi : Inv p) (hf : FindAt p key f) (ht : (p f).t = false) : NoKey p key := by
  intro i hi128 hit hik
  obtain ⟨d, hd, rfl, hpre, _⟩ := hf
  have hpath := hi.path i hi128 hit
  rw [hik] at hpath
  have hl := hm_lt key
  rcases Nat.lt_trichotomy d (dist (hm key) i) with h | h | h
  · have := hpath d h; rw [ht] at this; cases this
  · rw [h, at_dist _ _ hl hi128] at ht; rw [hit] at ht; cases ht
  · have := (hpre _ h).2; rw [at_dist _ _ hl hi128] at this; exact this hik
theorem find_ex {p : Nat → C} {key : Int} (he : ∃ e, e < 128 ∧ (p e).t = false) : ∃ f, FindAt p key f := by
  obtain ⟨e, he, het⟩ := he
  have hl := hm_lt key
  have hd := dist_lt (hm key) e
  have hex : ∀ n d, dist (hm key) e - d = n → d ≤ dist (hm key) e → (∀ x, x < d → (p ((hm key + x) % 128)).t = true ∧ (p ((hm key + x) % 128)).k ≠ key) → ∃ f, FindAt p key f := by
    intro n
    induction n with
    | zero =>
      intro d h1 h2 hp
      have : d = dist (hm key) e := by omega
      subst this
      refine ⟨e, _, hd, (at_dist _ _ hl he).symm, hp, fun h => ?_⟩
      rw [het] at h; cases h
    | succ n ih =>
      intro d h1 h2 hp
      by_cases hc : (p ((hm key + d) % 128)).t = true ∧ (p ((hm key + d) % 128)).k ≠ key
      · refine ih (d + 1) (by omega) (by omega) fun x hx => ?_
        by_cases e : x = d
        · subst e; exact hc
        · exact hp x (by omega)
      · exact ⟨_, d, by omega, rfl, hp, fun h => Classical.byContradiction fun h' => hc ⟨h, h'⟩⟩
  exact hex _ 0 rfl (Nat.zero_le _) fun x hx => by omega
theorem find_one {p : Nat → C} {key : Int} {f g : Nat} (h1 : FindAt p key f) (h2 : FindAt p key g) : f = g := by
  obtain ⟨d, hd, rfl, hp, ht⟩ := h1
  obtain ⟨d', hd', rfl, hp', ht'⟩ := h2
  rcases Nat.lt_trichotomy d d' with h | h | h
  · exact absurd (ht (hp' d h).1) (hp' d h).2
  · rw [h]
  · exact absurd (ht' (hp d' h).1) (hp d' h).2
theorem FindAt.lt {p : Nat → C} {key : Int} {f : Nat} (hf : FindAt p key f) : f < 128 := by obtain ⟨d, hd, rfl, _⟩ := hf; omega
/-- The table tells M. -/
structure Rep (p : Nat → C) (M : Int → Option Int) : Prop where
  no : ∀ k, M k = none → NoKey p k
  yes : ∀ k v, M k = some v → Look p k v
def setM (M : Int → Option Int) (k : Int) (v : Option Int) : Int → Option Int := fun x => if x = k then v else M x
theorem Rep.look {p : Nat → C} {M : Int → Option Int} (h : Rep p M) {i : Nat} (hi : i < 128) (ht : (p i).t = true) (hinv : Inv p) : M (p i).k = some (p i).s := by
  cases hM : M (p i).k with
  | none => exact absurd rfl (h.no _ hM i hi ht)
  | some v =>
    obtain ⟨j, hj, hjt, hjk, hjs⟩ := h.yes _ _ hM
    obtain rfl := hinv.uniq j i hj hi hjt ht hjk
    rw [hjs]
theorem Rep.nokey {p : Nat → C} {M : Int → Option Int} (h : Rep p M) {k : Int} (hn : NoKey p k) : M k = none := by
  cases hM : M k with
  | none => rfl
  | some v =>
    obtain ⟨j, hj, hjt, hjk, _⟩ := h.yes _ _ hM
    exact absurd hjk (hn j hj hjt)
theorem find_some {p : Nat → C} {M : Int → Option Int} {key : Int} {f : Nat} (hi : Inv p) (hr : Rep p M) (hf : FindAt p key f) : ((p f).t = true ∧ (p f).k = key ∧ M key = some (p f).s) ∨ ((p f).t = false ∧ M key = none) := by
  cases ht : (p f).t with
  | true =>
    have hk : (p f).k = key := by obtain ⟨d, _, _, _, h⟩ := hf; exact h ht
    have hl : f < 128 := by obtain ⟨d, hd, rfl, _⟩ := hf; omega
    exact .inl ⟨rfl, hk, hk ▸ hr.look hl ht hi⟩
  | false => exact .inr ⟨rfl, hr.nokey (find_none hi hf ht)⟩
theorem inv_put {p : Nat → C} {key s : Int} {f : Nat} (hi : Inv p) (hf : FindAt p key f) : Inv (upd p f ⟨true, key, s⟩) := by
  have hft := hf.lt
  have hcase : (p f).t = true ∧ (p f).k = key ∨ (p f).t = false ∧ NoKey p key := by
    cases ht : (p f).t with
    | true => obtain ⟨d, _, _, _, h⟩ := hf; exact .inl ⟨rfl, h ht⟩
    | false => exact .inr ⟨rfl, find_none hi hf ht⟩
  have grow : ∀ j, (p j).t = true → (upd p f ⟨true, key, s⟩ j).t = true := by
    intro j hj
    by_cases e : j = f
    · subst e; rw [upd_same]
    · rw [upd_ne _ _ e]; exact hj
  constructor
  · intro i j hi1 hj1 hit hjt hk
    by_cases e1 : i = f <;> by_cases e2 : j = f
    · rw [e1, e2]
    · subst e1
      rw [upd_same] at hk; rw [upd_ne _ _ e2] at hk hjt
      rcases hcase with ⟨h1, h2⟩ | ⟨_, h2⟩
      · exact hi.uniq i j hi1 hj1 h1 hjt (h2.trans hk)
      · exact absurd hk.symm (h2 j hj1 hjt)
    · subst e2
      rw [upd_same] at hk; rw [upd_ne _ _ e1] at hk hit
      rcases hcase with ⟨h1, h2⟩ | ⟨_, h2⟩
      · exact hi.uniq i j hi1 hj1 hit h1 (hk.trans h2.symm)
      · exact absurd hk (h2 i hi1 hit)
    · rw [upd_ne _ _ e1] at hk hit; rw [upd_ne _ _ e2] at hk hjt
      exact hi.uniq i j hi1 hj1 hit hjt hk
  · intro i hi1 hit d hd
    by_cases e1 : i = f
    · subst e1
      rw [upd_same] at hd ⊢
      obtain ⟨d0, hd0, hf0, hpre, _⟩ := hf
      have : dist (hm key) i = d0 := by rw [hf0]; exact dist_at _ _ (hm_lt key) hd0
      rw [this] at hd
      exact grow _ (hpre d hd).1
    · rw [upd_ne _ _ e1] at hit hd ⊢
      exact grow _ (hi.path i hi1 hit d hd)
theorem rep_put {p : Nat → C} {M : Int → Option Int} {key s : Int} {f : Nat} (hr : Rep p M) (hf : FindAt p key f) : Rep (upd p f ⟨true, key, s⟩) (setM M key (some s)) := by
  have hft := hf.lt
  have hkey : (p f).t = true → (p f).k = key := by obtain ⟨d, _, _, _, h⟩ := hf; exact h
  constructor
  · intro k hk i hi1 hit hik
    unfold setM at hk
    split at hk
    · cases hk
    · rename_i hne
      by_cases e : i = f
      · subst e; rw [upd_same] at hik; exact hne hik.symm
      · rw [upd_ne _ _ e] at hit hik; exact hr.no k hk i hi1 hit hik
  · intro k v hk
    unfold setM at hk
    split at hk
    · rename_i he
      subst he
      injection hk with hk
      subst hk
      exact ⟨f, hft, by rw [upd_same], by rw [upd_same], by rw [upd_same]⟩
    · rename_i hne
      obtain ⟨i, hi1, hit, hik, his⟩ := hr.yes k v hk
      have e : i ≠ f := fun e => by subst e; exact hne (hik.symm.trans (hkey hit))
      exact ⟨i, hi1, by rw [upd_ne _ _ e]; exact hit, by rw [upd_ne _ _ e]; exact hik, by rw [upd_ne _ _ e]; exact his⟩
/- TAKING A KEY OUT: the hole wanders. -/
/-- All is in its place, but that the way of some may lead through the hole; these stand behind 'a', and all from the hole to 'a' is taken. -/
structure Hole (p : Nat → C) (o a : Nat) : Prop where
  ol : o < 128
  al : a < 128
  uniq : ∀ i j, i < 128 → j < 128 → (p i).t = true → (p j).t = true → (p i).k = (p j).k → i = j
  none : (p o).t = false
  path : ∀ i, i < 128 → (p i).t = true → ∀ d, d < dist (hm (p i).k) i → (p ((hm (p i).k + d) % 128)).t = true ∨ ((hm (p i).k + d) % 128 = o ∧ dist o a < dist o i)
  run : ∀ d, 1 ≤ d → d ≤ dist o a → (p ((o + d) % 128)).t = true
theorem hole_start {p : Nat → C} {f : Nat} (hi : Inv p) (hf : f < 128) : Hole (upd p f emptyC) f f := by
  have hd : dist f f = 0 := by unfold dist; omega
  refine ⟨hf, hf, ?_, by rw [upd_same]; rfl, ?_, fun d h1 h2 => by omega⟩
  · intro i j hi1 hj1 hit hjt hk
    have e1 : i ≠ f := fun e => by subst e; rw [upd_same] at hit; cases hit
    have e2 : j ≠ f := fun e => by subst e; rw [upd_same] at hjt; cases hjt
    rw [upd_ne _ _ e1] at hit hk; rw [upd_ne _ _ e2] at hjt hk
    exact hi.uniq i j hi1 hj1 hit hjt hk
  · intro i hi1 hit d hd'
    have e1 : i ≠ f := fun e => by subst e; rw [upd_same] at hit; cases hit
    rw [upd_ne _ _ e1] at hit hd' ⊢
    by_cases e : (hm (p i).k + d) % 128 = f
    · right; refine ⟨e, ?_⟩
      rw [hd]; unfold dist; omega
    · left; rw [upd_ne _ _ e]; exact hi.path i hi1 hit d hd'
/-- The next place is free: all is in its place. -/
theorem hole_end {p : Nat → C} {o a : Nat} (h : Hole p o a) (hn : (p ((a + 1) % 128)).t = false) : Inv p := by
  refine ⟨h.uniq, fun i hi1 hit d hd => ?_⟩
  rcases h.path i hi1 hit d hd with h1 | ⟨h1, h2⟩
  · exact h1
  · exfalso
    have hl := hm_lt (p i).k
    have ol := h.ol
    have al := h.al
    -- the free place lies on i's way, behind the hole
    have hne : (a + 1) % 128 ≠ i := fun e => by rw [e, hit] at hn; cases hn
    have hne' : (a + 1) % 128 ≠ o ∨ (a + 1) % 128 = o := by omega
    rcases hne' with hno | ho
    · have hdd : d + (dist o a + 1) < dist (hm (p i).k) i := by unfold dist at *; omega
      have hat : (hm (p i).k + (d + (dist o a + 1))) % 128 = (a + 1) % 128 := by unfold dist at *; omega
      rcases h.path i hi1 hit _ hdd with h3 | ⟨h3, _⟩
      · rw [hat, hn] at h3; cases h3
      · rw [hat] at h3; exact hno h3
    · have : dist o a = 127 := by unfold dist; omega
      have := dist_lt o i
      omega
/-- The next place stays: its own way does not lead through the hole. -/
theorem hole_stay {p : Nat → C} {o a : Nat} (h : Hole p o a) (ht : (p ((a + 1) % 128)).t = true) (hfar : dist (hm (p ((a + 1) % 128)).k) ((a + 1) % 128) < dist o ((a + 1) % 128)) : Hole p o ((a + 1) % 128) := by
  have ol := h.ol
  have al := h.al
  have hno : (a + 1) % 128 ≠ o := fun e => by rw [e] at ht; rw [h.none] at ht; cases ht
  have hda : dist o ((a + 1) % 128) = dist o a + 1 := by unfold dist at *; omega
  refine ⟨ol, by omega, h.uniq, h.none, ?_, ?_⟩
  · intro i hi1 hit d hd
    rcases h.path i hi1 hit d hd with h1 | ⟨h1, h2⟩
    · exact .inl h1
    · refine .inr ⟨h1, ?_⟩
      have hl := hm_lt (p i).k
      have hne : i ≠ (a + 1) % 128 := by
        intro e
        subst e
        have : dist (hm (p ((a + 1) % 128)).k) ((a + 1) % 128) ≥ dist o ((a + 1) % 128) := by
          generalize hm (p ((a + 1) % 128)).k = m at *
          unfold dist at *; omega
        omega
      rw [hda]
      unfold dist at *; omega
  · intro d h1 h2
    rw [hda] at h2
    by_cases e : d = dist o a + 1
    · subst e
      have : (o + (dist o a + 1)) % 128 = (a + 1) % 128 := by unfold dist at *; omega
      rw [this]; exact ht
    · exact h.run d h1 (by omega)
/-- The next place goes into the hole, which goes there. -/
theorem hole_move {p : Nat → C} {o a : Nat} (h : Hole p o a) (ht : (p ((a + 1) % 128)).t = true) (hfar : dist o ((a + 1) % 128) ≤ dist (hm (p ((a + 1) % 128)).k) ((a + 1) % 128)) :
    Hole (upd (upd p o (p ((a + 1) % 128))) ((a + 1) % 128) emptyC) ((a + 1) % 128) ((a + 1) % 128) := by
  have ol := h.ol
  have al := h.al
  have hno : (a + 1) % 128 ≠ o := fun e => by rw [e] at ht; rw [h.none] at ht; cases ht
  generalize hg : (a + 1) % 128 = g at *
  have gl : g < 128 := by omega
  have hgg : dist g g = 0 := by unfold dist; omega
  have val : ∀ j, upd (upd p o (p g)) g emptyC j = if j = g then emptyC else if j = o then p g else p j := by
    intro j; unfold upd; rfl
  refine ⟨gl, gl, ?_, by rw [val]; simp [emptyC], ?_, fun d h1 h2 => by omega⟩
  · intro i j hi1 hj1 hit hjt hk
    rw [val] at hit hk; rw [val] at hjt hk
    by_cases e1 : i = g
    · simp [e1, emptyC] at hit
    by_cases e2 : j = g
    · simp [e2, emptyC] at hjt
    rw [if_neg e1] at hit hk; rw [if_neg e2] at hjt hk
    by_cases e3 : i = o <;> by_cases e4 : j = o
    · rw [e3, e4]
    · rw [if_pos e3] at hit hk; rw [if_neg e4] at hjt hk
      exact absurd (h.uniq g j gl hj1 hit hjt hk).symm e2
    · rw [if_neg e3] at hit hk; rw [if_pos e4] at hjt hk
      exact absurd (h.uniq i g hi1 gl hit hjt hk) e1
    · rw [if_neg e3] at hit hk; rw [if_neg e4] at hjt hk
      exact h.uniq i j hi1 hj1 hit hjt hk
  · intro i hi1 hit d hd
    by_cases e1 : i = g
    · rw [val, if_pos e1] at hit; cases hit
    -- what stands there now, and where its way leads
    have way : ∀ (x : Nat), (p x).t = true → x ≠ o → (upd (upd p o (p g)) g emptyC x).t = true ∨ x = g := by
      intro x hx hxo
      by_cases e : x = g
      · exact .inr e
      · left; rw [val, if_neg e, if_neg hxo]; exact hx
    by_cases e3 : i = o
    · have vi : upd (upd p o (p g)) g emptyC i = p g := by rw [val, if_neg e1, if_pos e3]
      rw [vi] at hit hd ⊢
      subst e3
      have hl := hm_lt (p g).k
      generalize hmg : hm (p g).k = m at *
      have hd2 : d < dist m g := by unfold dist at *; omega
      have hx : (m + d) % 128 ≠ i := by unfold dist at *; omega
      have hxg : (m + d) % 128 ≠ g := by unfold dist at *; omega
      rcases h.path g gl ht d (by rw [hmg]; exact hd2) with h1 | ⟨h1, _⟩
      · rw [hmg] at h1
        rcases way _ h1 hx with h2 | h2
        · exact .inl h2
        · exact absurd h2 hxg
      · rw [hmg] at h1; exact absurd h1 hx
    · have vi : upd (upd p o (p g)) g emptyC i = p i := by rw [val, if_neg e1, if_neg e3]
      rw [vi] at hit hd ⊢
      have hl := hm_lt (p i).k
      by_cases exo : (hm (p i).k + d) % 128 = o
      · left; rw [exo, val, if_neg (fun e => hno e.symm), if_pos rfl]; exact ht
      · rcases h.path i hi1 hit d hd with h1 | ⟨h1, _⟩
        · rcases way _ h1 exo with h2 | h2
          · exact .inl h2
          · refine .inr ⟨h2, ?_⟩
            rw [hgg]; unfold dist; omega
        · exact absurd h1 exo
theorem rep_hole {p : Nat → C} {M : Int → Option Int} {f : Nat} (hi : Inv p) (hr : Rep p M) (hf : f < 128) (ht : (p f).t = true) : Rep (upd p f emptyC) (setM M (p f).k none) := by
  constructor
  · intro k hk i hi1 hit hik
    have e : i ≠ f := fun e => by subst e; rw [upd_same] at hit; cases hit
    rw [upd_ne _ _ e] at hit hik
    unfold setM at hk
    split at hk
    · rename_i he; exact e (hi.uniq i f hi1 hf hit ht (hik.trans he))
    · exact hr.no k hk i hi1 hit hik
  · intro k v hk
    unfold setM at hk
    split at hk
    · cases hk
    · rename_i hne
      obtain ⟨i, hi1, hit, hik, his⟩ := hr.yes k v hk
      have e : i ≠ f := fun e => by subst e; exact hne hik.symm
      exact ⟨i, hi1, by rw [upd_ne _ _ e]; exact hit, by rw [upd_ne _ _ e]; exact hik, by rw [upd_ne _ _ e]; exact his⟩
theorem rep_move {p : Nat → C} {M : Int → Option Int} {o g : Nat} (hr : Rep p M) (ho : o < 128) (hg : g < 128) (hn : (p o).t = false) (hne : g ≠ o) (ht : (p g).t = true) : Rep (upd (upd p o (p g)) g emptyC) M := by
  have val : ∀ j, upd (upd p o (p g)) g emptyC j = if j = g then emptyC else if j = o then p g else p j := by intro j; unfold upd; rfl
  constructor
  · intro k hk i hi1 hit hik
    rw [val] at hit hik
    by_cases e1 : i = g
    · simp [e1, emptyC] at hit
    · rw [if_neg e1] at hit hik
      by_cases e2 : i = o
      · rw [if_pos e2] at hit hik; exact hr.no k hk g hg hit hik
      · rw [if_neg e2] at hit hik; exact hr.no k hk i hi1 hit hik
  · intro k v hk
    obtain ⟨i, hi1, hit, hik, his⟩ := hr.yes k v hk
    have e : i ≠ o := fun e => by subst e; rw [hn] at hit; cases hit
    by_cases e1 : i = g
    · subst e1
      refine ⟨o, ho, ?_, ?_, ?_⟩ <;> rw [val, if_neg (fun e => hne e.symm), if_pos rfl] <;> assumption
    · refine ⟨i, hi1, ?_, ?_, ?_⟩ <;> rw [val, if_neg e1, if_neg e] <;> assumption
theorem cnt_move {p : Nat → C} {o g : Nat} (ho : o < 128) (hg : g < 128) (hn : (p o).t = false) (hne : g ≠ o) (ht : (p g).t = true) : cnt (upd (upd p o (p g)) g emptyC) 128 = cnt p 128 := by
  have h1 := cnt_upd (upd p o (p g)) g emptyC 128 hg
  have h2 := cnt_upd p o (p g) 128 ho
  rw [upd_ne _ _ hne] at h1
  have e0 : emptyC.t = false := rfl
  simp only [ht, hn, e0, if_true, Bool.false_eq_true, if_false] at h1 h2
  omega
end Go.Pl.Ix
