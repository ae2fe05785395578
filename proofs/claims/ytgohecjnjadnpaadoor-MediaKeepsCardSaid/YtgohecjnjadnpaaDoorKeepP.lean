/-
  What was put is there till its zone is reset, or a crash takes it: plain laws.
-/
import Derived.Test.YtgohecjnjadnpaaDoorMedA
import Derived.Test.YtgohecjnjadnpaaDoorMapS
namespace Go.Proofs.YtgohecjnjadnpaaDoor.Keep
open Go.Pl Go.Proofs.YtgohecjnjadnpaaDoor.Byts Go.Proofs.YtgohecjnjadnpaaDoor.Head Go.Proofs.YtgohecjnjadnpaaDoor.HdP Go.Proofs.YtgohecjnjadnpaaDoor.Zns Go.Proofs.YtgohecjnjadnpaaDoor.Geo Go.Proofs.YtgohecjnjadnpaaDoor.Med Go.Proofs.YtgohecjnjadnpaaDoor.MedA
abbrev Act := MedA.Act
def adr (p : Int) (zn i : Nat) : Int := (zn : Int) * p + i + 1
abbrev Kp := List (Int × Nat)
structure Kept0 (z p : Int) (D : Dev) (X : Nat → Act) (n : Nat) (K : Kp) : Prop where
  nd : (keysL K).Nodup
  key : ∀ q ∈ K, q.2 < n ∧ ∃ zn i : Nat, (zn : Int) < z - 2 ∧ (i : Int) < p ∧ q.1 = adr p zn i
  page : ∀ zn i : Nat, (zn : Int) < z - 2 → ∀ pg, (D.at_ zn).pages[i]? = some pg → ∃ j, (adr p zn i, j) ∈ K ∧ isR (X j).hd = true ∧ HdOk (X j).hd ∧ Byt (X j).b ∧ (X j).b.length = 16 ∧ (pg = [] ∨ pg = pageL (X j).hd (X j).b)
def Shr (E D : Dev) : Prop := ∀ (zn i : Nat) pg, (E.at_ zn).pages[i]? = some pg → ∃ pg', (D.at_ zn).pages[i]? = some pg' ∧ (pg = [] ∨ pg = pg')
theorem at_zs {E D : Dev} (h : E.zs = D.zs) (n : Int) : E.at_ n = D.at_ n := by unfold Dev.at_ Dev.there; rw [h]
theorem Shr.zs {E D : Dev} (h : E.zs = D.zs) : Shr E D := fun zn i pg hp => ⟨pg, by rw [← at_zs h]; exact hp, .inr rfl⟩
theorem Kept0.shr {z p : Int} {D E : Dev} {X : Nat → Act} {n : Nat} {K : Kp} (k : Kept0 z p D X n K) (s : Shr E D) : Kept0 z p E X n K :=
  ⟨k.nd, k.key, fun zn i hz pg hp => by
    obtain ⟨pg', h1, h2⟩ := s zn i pg hp
    obtain ⟨j, h3, h4, h5, h6, h7, h8⟩ := k.page zn i hz pg' h1
    refine ⟨j, h3, h4, h5, h6, h7, ?_⟩
    rcases h2 with h2 | h2
    · exact .inl h2
    · rw [h2]; exact h8⟩
theorem Kept0.mono {z p : Int} {D : Dev} {X : Nat → Act} {n m : Nat} {K : Kp} (k : Kept0 z p D X n K) (h : n ≤ m) : Kept0 z p D X m K :=
  ⟨k.nd, fun q hq => ⟨Nat.lt_of_lt_of_le (k.key q hq).1 h, (k.key q hq).2⟩, k.page⟩
theorem Shr.reset (D : Dev) (n : Int) : Shr (D.reset n).1 D := by
  unfold Dev.reset
  simp only []
  split
  · exact Shr.zs (doing_zs _ _)
  · rename_i h
    have h := Classical.not_not.1 h
    obtain ⟨he, _, _, e1⟩ := doing_ok h
    have ht : D.there n = true := by
      unfold Dev.resetE at he
      cases hh : D.there n with
      | true => rfl
      | false => rw [if_pos hh] at he; cases he
    intro zn i pg hp
    have ht' : (D.doing (D.resetE n)).1.there n = true := by rw [e1]; exact ht
    rw [at_setZ ht'] at hp
    split at hp
    · simp [Zn.bare] at hp
    · rw [at_zs (doing_zs _ _)] at hp
      exact ⟨pg, hp, .inr rfl⟩
theorem at_map {D E : Dev} {f : Nat → Zn → Zn} (h : E.zs = D.zs.mapIdx f) (zn : Nat) : (zn < D.zs.length ∧ E.at_ (zn : Int) = f zn (D.at_ (zn : Int))) ∨ (D.zs.length ≤ zn ∧ E.at_ (zn : Int) = Zn.bare) := by
  have hl : E.zs.length = D.zs.length := by rw [h]; simp
  rcases Nat.lt_or_ge zn D.zs.length with hz | hz
  · refine .inl ⟨hz, ?_⟩
    rw [at_of (show zn < E.zs.length by omega), at_of hz]
    simp [h]
  · refine .inr ⟨hz, at_none ?_⟩
    unfold Dev.there
    rw [decide_eq_false_iff_not]; omega
theorem Shr.flush (D : Dev) : Shr D.flush.1 D := by
  unfold Dev.flush
  simp only []
  split
  · exact Shr.zs (doing_zs _ _)
  · intro zn i pg hp
    have hm : (D.doing 0).1.settle.zs = (D.doing 0).1.zs.mapIdx fun _ Z => Z.settle := by
      show List.map _ _ = _
      exact List.ext_getElem? fun i => by simp [List.getElem?_mapIdx]
    rcases at_map hm zn with ⟨_, e⟩ | ⟨_, e⟩
    · rw [e, at_zs (doing_zs _ _)] at hp
      exact ⟨pg, hp, .inr rfl⟩
    · rw [e] at hp; simp [Zn.bare] at hp
theorem Shr.crash (D : Dev) (keep : List Int) (tear : List Bool) : Shr (D.crash keep tear) D := by
  intro zn i pg hp
  have hm : (D.crash keep tear).zs = D.zs.mapIdx fun i Z => Z.crash keep tear i := rfl
  rcases at_map hm zn with ⟨_, e⟩ | ⟨_, e⟩
  · rw [e] at hp
    simp only [Zn.crash] at hp
    rcases Nat.lt_or_ge i ((D.at_ (zn : Int)).pages.take ((D.at_ (zn : Int)).stay keep zn)).length with hi | hi
    · rw [List.getElem?_append_left hi, List.getElem?_take] at hp
      split at hp
      · exact ⟨pg, hp, .inr rfl⟩
      · cases hp
    · rw [List.getElem?_append_right hi] at hp
      split at hp
      · rename_i ht
        simp only [Zn.torn, Bool.and_eq_true, decide_eq_true_eq] at ht
        rw [List.length_take] at hi hp
        have h0 : i - min ((D.at_ (zn : Int)).stay keep zn) (D.at_ (zn : Int)).pages.length = 0 := by
          have := (List.getElem?_eq_some_iff.1 hp).1
          simp at this; omega
        rw [h0] at hp
        have hlt : i < (D.at_ (zn : Int)).pages.length := by omega
        exact ⟨_, List.getElem?_eq_getElem hlt, .inl (by simpa using hp.symm)⟩
      · simp at hp
  · rw [e] at hp; simp [Zn.bare] at hp
/- KEYS. -/
theorem mem_put {α : Type} {k : Int} {x : α} : ∀ {m : List (Int × α)}, (keysL m).Nodup → ∀ q, q ∈ putP m k x ↔ q = (k, x) ∨ (q.1 ≠ k ∧ q ∈ m)
  | [], _, q => by unfold putP; simp
  | y :: r, hn, q => by
    have hn' : y.1 ∉ keysL r ∧ (keysL r).Nodup := List.nodup_cons.1 hn
    unfold putP
    by_cases h : y.1 = k
    · rw [if_pos h, List.mem_cons, List.mem_cons]
      constructor
      · rintro (e | e)
        · exact .inl e
        · refine .inr ⟨fun e2 => hn'.1 ?_, .inr e⟩
          rw [h, ← e2]
          exact List.mem_map.2 ⟨q, e, rfl⟩
      · rintro (e | ⟨e1, e | e⟩)
        · exact .inl e
        · exact (e1 (by rw [e]; exact h)).elim
        · exact .inr e
    · rw [if_neg h, List.mem_cons, List.mem_cons, mem_put hn'.2]
      constructor
      · rintro (e | e | ⟨e1, e⟩)
        · exact .inr ⟨by rw [e]; exact h, .inl e⟩
        · exact .inl e
        · exact .inr ⟨e1, .inr e⟩
      · rintro (e | ⟨e1, e | e⟩)
        · exact .inr (.inl e)
        · exact .inl e
        · exact .inr (.inr ⟨e1, e⟩)
theorem adr_at {z p : Int} (hp : 4 ≤ p ∧ p ≤ 16) {zn i : Nat} (hz : (zn : Int) < z - 2) (hi : (i : Int) < p) : atF z p (adr p zn i) = ((zn : Int), (i : Int), true) ∧ ofF z p zn i = adr p zn i := by
  obtain ⟨h1, h2⟩ := of_at (z := z) hp (zone := (zn : Int)) (page := (i : Int)) ⟨⟨by omega, by omega⟩, by omega, by omega⟩
  exact ⟨h2, h1⟩
theorem adr_inj {z p : Int} (hp : 4 ≤ p ∧ p ≤ 16) {zn i zn' i' : Nat} (hz : (zn : Int) < z - 2) (hi : (i : Int) < p) (hz' : (zn' : Int) < z - 2) (hi' : (i' : Int) < p) (e : adr p zn i = adr p zn' i') : zn = zn' ∧ i = i' := by
  have h1 := (adr_at hp hz hi).1
  rw [e, (adr_at hp hz' hi').1] at h1
  have h2 := (Prod.mk.inj h1).1
  have h3 := (Prod.mk.inj (Prod.mk.inj h1).2).1
  omega
/- AN ACT. -/
theorem Kept0.put {z p : Int} {D : Dev} {X : Nat → Act} {n : Nat} {K : Kp} (g : GOk z p D) (k : Kept0 z p D X n K) (hx : HdOk (X n).hd) (hb : Byt (X n).b) (h : (putM z p D (X n).zone (X n).hd (X n).b).2.2 = 0) :
    Kept0 z p (putM z p D (X n).zone (X n).hd (X n).b).1 X (n + 1) (putP K (putM z p D (X n).zone (X n).hd (X n).b).2.1 n) := by
  obtain ⟨hzn, hr, hl, ha, e1, e2⟩ := put_cases h
  have hP := g.ok.pages
  obtain ⟨f1, f2, f3, f4, f5, f6, f7, f8, f9⟩ := app_facts hP.1 ha
  rw [e1, e2, f5]
  have hgP := g.P
  have hp := g.pr
  generalize (D.append (X n).zone (pageL (X n).hd (X n).b)).1 = E at *
  generalize hzz : (X n).zone = zo at *
  obtain ⟨zn, rfl⟩ := Int.eq_ofNat_of_zero_le hzn.1
  have hmo := (g.ok.at_ (zn : Int)).most
  have hpt : D.point (zn : Int) = (D.at_ (zn : Int)).pages.length := rfl
  have hlt : (D.point (zn : Int) : Int) < p := by omega
  rw [(adr_at hp (z := z) (by omega) hlt).2]
  refine ⟨nodup_put k.nd _ _, fun q hq => ?_, fun zn' i hz' pg hpg => ?_⟩
  · rcases (mem_put k.nd q).1 hq with e | ⟨_, e⟩
    · subst e; exact ⟨Nat.lt_succ_self _, zn, D.point (zn : Int), by omega, hlt, rfl⟩
    · exact ⟨Nat.lt_succ_of_lt (k.key q e).1, (k.key q e).2⟩
  · rw [f9] at hpg
    have hold : ∀ pg, (D.at_ (zn' : Int)).pages[i]? = some pg → ¬ (zn' = zn ∧ i = D.point (zn : Int)) → ∃ j, (adr p zn' i, j) ∈ putP K (adr p zn (D.point (zn : Int))) n ∧ isR (X j).hd = true ∧ HdOk (X j).hd ∧ Byt (X j).b ∧ (X j).b.length = 16 ∧ (pg = [] ∨ pg = pageL (X j).hd (X j).b) := fun pg hpg hne => by
      obtain ⟨j, h3, h4⟩ := k.page zn' i hz' pg hpg
      refine ⟨j, (mem_put k.nd _).2 (.inr ⟨fun e => hne ?_, h3⟩), h4⟩
      have hi : (i : Int) < p := by
        have h5 := (List.getElem?_eq_some_iff.1 hpg).1
        have h6 := (g.ok.at_ (zn' : Int)).most
        omega
      exact adr_inj hp hz' hi (by omega) hlt e
    split at hpg
    · rename_i he
      have he : zn' = zn := by omega
      subst he
      simp only [] at hpg
      rcases Nat.lt_or_ge i (D.at_ (zn' : Int)).pages.length with hi | hi
      · rw [List.getElem?_append_left hi] at hpg
        exact hold pg hpg fun e => by omega
      · rw [List.getElem?_append_right hi] at hpg
        have h0 : i - (D.at_ (zn' : Int)).pages.length = 0 := by
          have := (List.getElem?_eq_some_iff.1 hpg).1
          simp at this; omega
        rw [h0] at hpg
        have hi : i = D.point (zn' : Int) := by omega
        subst hi
        exact ⟨n, (mem_put k.nd _).2 (.inl rfl), hr, hx, hb, hl, .inr (by simpa using hpg.symm)⟩
    · rename_i he
      exact hold pg hpg fun e => he (by rw [e.1])
theorem put_zs {z p : Int} {D : Dev} {zone : Int} {x : Hd} {bs : List Int} (h : (putM z p D zone x bs).2.2 ≠ 0) : (putM z p D zone x bs).1.zs = D.zs := by
  unfold putM at h ⊢
  split
  · rfl
  · rename_i h1
    rw [if_neg h1] at h
    split
    · rfl
    · rename_i h2
      rw [if_neg h2] at h
      split
      · rename_i h3
        unfold Dev.append at h3 ⊢
        simp only [] at h3 ⊢
        split
        · exact doing_zs _ _
        · rename_i h4
          rw [if_neg h4] at h3
          exact (h3 rfl).elim
      · rename_i h3
        rw [if_neg h3] at h
        exact (h rfl).elim
/-- The keys behind an act. -/
def keptA (z p : Int) (D : Dev) (x : Act) (n : Nat) (K : Kp) : Kp := if x.op = 0 ∧ (MedA.act z p D x).2.e = 0 then putP K (MedA.act z p D x).2.a n else K
theorem Kept0.act {z p : Int} {D : Dev} {X : Nat → Act} {n : Nat} {K : Kp} (g : GOk z p D) (k : Kept0 z p D X n K) (hx : HdOk (X n).hd) (hb : Byt (X n).b) :
    Kept0 z p (MedA.act z p D (X n)).1 X (n + 1) (keptA z p D (X n) n K) := by
  unfold keptA
  by_cases h0 : (X n).op = 0
  · have ea : MedA.act z p D (X n) = ((putM z p D (X n).zone (X n).hd (X n).b).1, ⟨(putM z p D (X n).zone (X n).hd (X n).b).2.1, hd0, [], (putM z p D (X n).zone (X n).hd (X n).b).2.2⟩) := by unfold MedA.act; rw [if_pos h0]
    rw [ea]
    by_cases h1 : (putM z p D (X n).zone (X n).hd (X n).b).2.2 = 0
    · rw [if_pos ⟨h0, h1⟩]; exact Kept0.put g k hx hb h1
    · rw [if_neg (fun h => h1 h.2)]
      exact (k.shr (Shr.zs (put_zs h1))).mono (Nat.le_succ n)
  · rw [if_neg (fun h => h0 h.1)]
    refine (k.shr ?_).mono (Nat.le_succ n)
    unfold MedA.act
    rw [if_neg h0]
    split
    · exact Shr.zs rfl
    split
    · exact Shr.reset D _
    split
    · exact Shr.flush D
    split
    · exact Shr.zs rfl
    split
    · exact Shr.crash D _ _
    · exact Shr.zs rfl
/- WHAT IS GONE. -/
def gone (p : Int) (D : Dev) (zn i : Nat) (a : Int) : Prop := ∃ zn' i' : Nat, (zn' < zn ∨ zn' = zn ∧ i' < i) ∧ D.point (zn' : Int) ≤ i' ∧ (i' : Int) < p ∧ a = adr p zn' i'
structure Rid (p : Int) (D : Dev) (K : Kp) (zn i : Nat) (K' : Kp) : Prop where
  nd : (keysL K').Nodup
  mem : ∀ q, q ∈ K' ↔ q ∈ K ∧ ¬ gone p D zn i q.1
theorem Rid.start {p : Int} {D : Dev} {K : Kp} (h : (keysL K).Nodup) : Rid p D K 0 0 K := ⟨h, fun q => ⟨fun hq => ⟨hq, by rintro ⟨a, b, h, _⟩; omega⟩, fun hq => hq.1⟩⟩
theorem Rid.iff {p : Int} {D : Dev} {K K' : Kp} {zn i zn' i' : Nat} (r : Rid p D K zn i K') (h : ∀ a, gone p D zn i a ↔ gone p D zn' i' a) : Rid p D K zn' i' K' := ⟨r.nd, fun q => by rw [r.mem, h]⟩
theorem Rid.inner {p : Int} {D : Dev} {K K' : Kp} {zn : Nat} (r : Rid p D K zn 0 K') : Rid p D K zn (D.point (zn : Int)) K' := r.iff fun a => by
  constructor
  · rintro ⟨u, v, h1, h2⟩; exact ⟨u, v, by omega, h2⟩
  · rintro ⟨u, v, h1 | ⟨rfl, h1⟩, h2, h3⟩
    · exact ⟨u, v, .inl h1, h2, h3⟩
    · omega
theorem Rid.outer {p : Int} {D : Dev} {K K' : Kp} {zn i : Nat} (r : Rid p D K zn i K') (hi : p ≤ (i : Int)) : Rid p D K (zn + 1) 0 K' := r.iff fun a => by
  constructor
  · rintro ⟨u, v, h1, h2⟩; exact ⟨u, v, by omega, h2⟩
  · rintro ⟨u, v, h1, h2, h3, h4⟩
    exact ⟨u, v, by omega, h2, h3, h4⟩
theorem Rid.del {p : Int} {D : Dev} {K K' : Kp} {zn i : Nat} (r : Rid p D K zn i K') (hi : D.point (zn : Int) ≤ i) (hp : (i : Int) < p) : Rid p D K zn (i + 1) (delP K' (adr p zn i)) := by
  rw [delP_eq _ _ r.nd]
  refine ⟨?_, fun q => ?_⟩
  · exact List.Nodup.sublist (List.filter_sublist.map _) r.nd
  · rw [List.mem_filter, r.mem]
    simp only [bne_iff_ne, ne_eq]
    constructor
    · rintro ⟨⟨h1, h2⟩, h3⟩
      refine ⟨h1, ?_⟩
      rintro ⟨u, v, h4, h5, h6, h7⟩
      by_cases he : u = zn ∧ v = i
      · obtain ⟨rfl, rfl⟩ := he; exact h3 h7
      · exact h2 ⟨u, v, by omega, h5, h6, h7⟩
    · rintro ⟨h1, h2⟩
      refine ⟨⟨h1, ?_⟩, fun e => h2 ⟨zn, i, .inr ⟨rfl, Nat.lt_succ_self _⟩, hi, hp, e⟩⟩
      rintro ⟨u, v, h4, h5⟩
      exact h2 ⟨u, v, by omega, h5⟩
structure Kept (z p : Int) (D : Dev) (X : Nat → Act) (n : Nat) (K : Kp) : Prop extends Kept0 z p D X n K where
  here : ∀ q ∈ K, ∃ zn i : Nat, (zn : Int) < z - 2 ∧ i < D.point (zn : Int) ∧ q.1 = adr p zn i
theorem Kept0.rid {z p : Int} {D : Dev} {X : Nat → Act} {n : Nat} {K K' : Kp} {m : Nat} (g : GOk z p D) (k : Kept0 z p D X n K) (r : Rid p D K m 0 K') (hm : (m : Int) = z - 2) : Kept z p D X n K' := by
  have hp := g.pr
  refine ⟨⟨r.nd, fun q hq => k.key q ((r.mem q).1 hq).1, fun zn i hz pg hpg => ?_⟩, fun q hq => ?_⟩
  · obtain ⟨j, h3, h4⟩ := k.page zn i hz pg hpg
    refine ⟨j, (r.mem _).2 ⟨h3, ?_⟩, h4⟩
    rintro ⟨u, v, h5, h6, h7, h8⟩
    have hi := (List.getElem?_eq_some_iff.1 hpg).1
    have h9 : (D.at_ (zn : Int)).pages.length = D.point (zn : Int) := rfl
    have h10 := g.pt (zn : Int)
    obtain ⟨rfl, rfl⟩ := adr_inj hp hz (by omega) (show (u : Int) < z - 2 by omega) h7 h8
    omega
  · obtain ⟨h1, h2⟩ := (r.mem q).1 hq
    obtain ⟨_, zn, i, hz, hi, e⟩ := k.key q h1
    refine ⟨zn, i, hz, ?_, e⟩
    rcases Nat.lt_or_ge i (D.point (zn : Int)) with h | h
    · exact h
    · exact (h2 ⟨zn, i, .inl (by omega), h, hi, e⟩).elim
theorem Kept.start (z p : Int) (n m : Nat) (X : Nat → Act) : Kept z p (Dev.empty n m) X 0 [] :=
  ⟨⟨List.nodup_nil, (fun q hq => by cases hq), (fun zn i _ pg hpg => by
    exfalso
    rcases Nat.lt_or_ge zn (Dev.empty n m).zs.length with hz | hz
    · rw [at_of hz] at hpg; simp [Dev.empty, Zn.bare] at hpg
    · rw [at_none (by unfold Dev.there; rw [decide_eq_false_iff_not]; omega)] at hpg; simp [Zn.bare] at hpg)⟩, (fun q hq => by cases hq)⟩
/- WHAT IS TOLD AT LAST. -/
theorem Kept.get {z p : Int} {D : Dev} {X : Nat → Act} {n : Nat} {K : Kp} (g : GOk z p D) (hd : D.down = false) (k : Kept z p D X n K) (q : Int × Nat) (hq : q ∈ K) : q.2 < n ∧ 0 ≤ q.1 ∧ q.1 < 4294967296 ∧ ((getM z p D q.1).2.2 = 6 ∨ getM z p D q.1 = ((X q.2).hd, (X q.2).b, 0)) := by
  have hp := g.pr
  have hzr := g.zr
  have hpt := g.pt
  obtain ⟨zn, i, hz, hi, e⟩ := k.here q hq
  have hlt : i < (D.at_ (zn : Int)).pages.length := hi
  obtain ⟨j, h3, h4, h5, h6, h7, h8⟩ := k.page zn i hz _ (List.getElem?_eq_getElem hlt)
  have hj : j = q.2 := by
    have h9 := getP_of k.nd h3
    rw [← e, getP_of k.nd (show (q.1, q.2) ∈ K from hq)] at h9
    exact (Option.some.inj h9).symm
  subst hj
  have hip : (i : Int) < p := by have := hpt (zn : Int); omega
  have hth : D.there (zn : Int) = true := by
    unfold Dev.there
    have := g.zs
    exact decide_eq_true ⟨by omega, by omega⟩
  have hb0 : 0 ≤ (zn : Int) * p := Int.mul_nonneg (by omega) (by omega)
  have hb1 : (zn : Int) * p ≤ 22 * 16 := Int.le_trans (Int.mul_le_mul_of_nonneg_right (by omega : (zn : Int) ≤ 22) (by omega)) (Int.mul_le_mul_of_nonneg_left (by omega) (by omega))
  refine ⟨(k.key q hq).1, by rw [e]; unfold adr; omega, by rw [e]; unfold adr; omega, ?_⟩
  have hgd : (D.at_ (zn : Int)).pages.getD i [] = (D.at_ (zn : Int)).pages[i] := by rw [List.getD_eq_getElem?_getD, List.getElem?_eq_getElem hlt]; rfl
  have hrd : D.read (zn : Int) (i : Int) = if ((D.at_ (zn : Int)).pages[i]).length = 0 then ([], 6) else ((D.at_ (zn : Int)).pages[i], 0) := by
    unfold Dev.read
    have := g.P
    rw [Int.toNat_natCast, hgd, if_neg (by rw [hd]; simp), if_neg (by rw [hth]; simp; omega), if_neg (by omega)]
  unfold getM
  rw [e, (adr_at hp hz hip).1]
  simp only []
  rw [hrd]
  rcases h8 with h8 | h8
  · left; rw [h8]; simp
  · right
    rw [h8]
    have hl33 : (pageL (X q.2).hd (X q.2).b).length ≠ 0 := by
      rcases (g.ok.at_ (zn : Int)).page _ (List.getElem_mem hlt) with ⟨_, h | h⟩
      · rw [h8] at h; omega
      · rw [h8] at h
        have h10 := (read_page h5 h7 h4)
        rw [h] at h10
        have : (readF []).2.2 = 0 := by rw [h10]
        exact absurd this (by decide)
    rw [if_neg hl33, if_neg (by simp), if_neg (by simp)]
    exact read_page h5 h7 h4
theorem Kept.keys {z p : Int} {D : Dev} {X : Nat → Act} {n : Nat} {K : Kp} (g : GOk z p D) (k : Kept z p D X n K) : (keysL K).Perm (alls z p D) := by
  refine (List.perm_ext_iff_of_nodup k.nd ((alls_up g).imp fun {a b} hab e => by rw [e] at hab; omega)).2 fun a => ?_
  rw [mem_alls]
  constructor
  · intro h
    obtain ⟨q, hq, rfl⟩ := List.mem_map.1 h
    obtain ⟨zn, i, hz, hi, e⟩ := k.here q hq
    exact ⟨zn, i, hz, hi, e⟩
  · rintro ⟨zn, i, hz, hi, rfl⟩
    have hlt : i < (D.at_ (zn : Int)).pages.length := hi
    obtain ⟨j, h3, _⟩ := k.page zn i hz _ (List.getElem?_eq_getElem hlt)
    exact List.mem_map.2 ⟨_, h3, rfl⟩
def torn (z p : Int) (D : Dev) (q : Int × Nat) : Bool := decide ((getM z p D q.1).2.2 = 6)
theorem Kept.scan {z p : Int} {D : Dev} {X : Nat → Act} {n : Nat} {K : Kp} (g : GOk z p D) (hd : D.down = false) (k : Kept z p D X n K) (y : Pg) (hy : y ∈ scanM z p D) : ∃ j, getP K y.1 = some j ∧ j < n ∧ 1 ≤ y.1 ∧ y.1 < 4294967296 ∧ getM z p D y.1 = ((X j).hd, (X j).b, 0) ∧ y.2 = (X j).hd := by
  obtain ⟨h0, h1, h2⟩ := (mem_scan g y).1 hy
  have hin : y.1 ∈ alls z p D := by
    unfold scanM at hy
    obtain ⟨a, ha, hya⟩ := List.mem_flatMap.1 hy
    unfold scan1 at hya
    split at hya
    · rw [List.mem_singleton.1 hya]; exact ha
    · cases hya
  have h1' : 1 ≤ y.1 := by
    obtain ⟨zn, i, hz, _, e⟩ := (mem_alls y.1).1 hin
    have hp := g.pr
    have : 0 ≤ (zn : Int) * p := Int.mul_nonneg (by omega) (by omega)
    omega
  obtain ⟨q, hq, e⟩ := List.mem_map.1 (((Kept.keys g k).mem_iff).2 hin)
  obtain ⟨h3, _, h4, h5⟩ := Kept.get g hd k q hq
  rw [e] at h4 h5
  rcases h5 with h5 | h5
  · omega
  · exact ⟨q.2, getP_of k.nd (by rw [← e]; exact hq), h3, h1', h4, h5, by rw [h2, h5]⟩
theorem flat_one {z p : Int} {D : Dev} : ∀ l : List Int, (∀ a ∈ l, (getM z p D a).2.2 = 6 ∨ (getM z p D a).2.2 = 0) → (l.flatMap (scan1 z p D)).length + (l.filter fun a => decide ((getM z p D a).2.2 = 6)).length = l.length
  | [], _ => rfl
  | a :: l, h => by
    have ih := flat_one l fun b hb => h b (.tail _ hb)
    rw [List.flatMap_cons, List.length_append]
    unfold scan1
    rcases h a (.head _) with e | e
    · rw [if_neg (by omega), List.filter_cons_of_pos (by simpa using e)]
      simp only [List.length_cons, List.length_nil]
      have : (List.flatMap (scan1 z p D) l) = l.flatMap (scan1 z p D) := rfl
      unfold scan1 at ih
      omega
    · rw [if_pos e, List.filter_cons_of_neg (by simp; omega)]
      simp only [List.length_cons, List.length_nil]
      unfold scan1 at ih
      omega
theorem Kept.count {z p : Int} {D : Dev} {X : Nat → Act} {n : Nat} {K : Kp} (g : GOk z p D) (hd : D.down = false) (k : Kept z p D X n K) : (scanM z p D).length + (K.filter (torn z p D)).length = K.length := by
  have hpm := Kept.keys g k
  have h1 : K.length = (alls z p D).length := by rw [← hpm.length_eq]; unfold keysL; simp
  have h2 : (K.filter (torn z p D)).length = ((alls z p D).filter fun a => decide ((getM z p D a).2.2 = 6)).length := by
    rw [← (hpm.filter _).length_eq]
    unfold keysL
    rw [List.filter_map, List.length_map]
    rfl
  rw [h1, h2]
  refine flat_one _ fun a ha => ?_
  obtain ⟨q, hq, e⟩ := List.mem_map.1 ((hpm.mem_iff).2 ha)
  obtain ⟨_, _, _, h5⟩ := Kept.get g hd k q hq
  rw [e] at h5
  rcases h5 with h5 | h5
  · exact .inl h5
  · exact .inr (by rw [h5])
end Go.Proofs.YtgohecjnjadnpaaDoor.Keep
