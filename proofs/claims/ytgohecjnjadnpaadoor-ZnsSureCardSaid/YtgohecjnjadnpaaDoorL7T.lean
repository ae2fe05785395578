/-
  ZnsSure of layer 7: plain laws of what stays.
-/
import Derived.Test.YtgohecjnjadnpaaDoorL7S
namespace Go.Proofs.YtgohecjnjadnpaaDoor.L7T
open Go.Pl Go.Proofs.YtgohecjnjadnpaaDoor.W Go.Proofs.YtgohecjnjadnpaaDoor.Byts Go.Proofs.YtgohecjnjadnpaaDoor.As Go.Proofs.YtgohecjnjadnpaaDoor.Zns Go.Proofs.YtgohecjnjadnpaaDoor.L7A Go.Proofs.YtgohecjnjadnpaaDoor.L7S
theorem at_zs {D E : Dev} (h : E.zs = D.zs) (n : Int) : E.at_ n = D.at_ n := by unfold Dev.at_ Dev.there; rw [h]
theorem there_zs {D E : Dev} (h : E.zs = D.zs) (n : Int) : E.there n = D.there n := by unfold Dev.there; rw [h]
theorem at_setZ {E : Dev} {n : Int} {Z : Zn} (hn : E.there n = true) (z : Int) : (E.setZ n Z).at_ z = if z = n then Z else E.at_ z := by
  obtain ⟨m, rfl, hm⟩ := there_nat hn
  have hth : (E.setZ (m : Int) Z).there z = E.there z := by unfold Dev.there; simp [Dev.setZ]
  cases ht : E.there z with
  | false => rw [at_none (hth.trans ht), at_none ht, if_neg (by intro e; subst e; rw [hn] at ht; cases ht)]
  | true =>
    obtain ⟨k, rfl, hk⟩ := there_nat ht
    have hk2 : k < (E.setZ (m : Int) Z).zs.length := by simp [Dev.setZ]; exact hk
    rw [at_of hk2, at_of hk]
    by_cases e : k = m
    · subst e; simp [Dev.setZ]
    · rw [if_neg (by omega)]
      simp only [Dev.setZ, Int.toNat_natCast]
      exact List.getElem_set_ne (Ne.symm e) _
theorem at_settle (E : Dev) (z : Int) : E.settle.at_ z = (E.at_ z).settle := by
  have hth : E.settle.there z = E.there z := by unfold Dev.there; simp [Dev.settle]
  cases ht : E.there z with
  | false => rw [at_none (hth.trans ht), at_none ht]; rfl
  | true =>
    obtain ⟨k, rfl, hk⟩ := there_nat ht
    rw [at_of (show k < E.settle.zs.length by simp [Dev.settle]; exact hk), at_of hk]
    simp [Dev.settle]
theorem at_crash (E : Dev) (keep : List Int) (tear : List Bool) (z : Int) : (E.crash keep tear).at_ z = if E.there z = true then (E.at_ z).crash keep tear z.toNat else Zn.bare := by
  have hth : (E.crash keep tear).there z = E.there z := by unfold Dev.there; simp [Dev.crash]
  cases ht : E.there z with
  | false => rw [at_none (hth.trans ht)]; rfl
  | true =>
    obtain ⟨k, rfl, hk⟩ := there_nat ht
    rw [at_of (show k < (E.crash keep tear).zs.length by simp [Dev.crash]; exact hk), at_of hk, if_pos rfl]
    simp [Dev.crash]
/-- What an act makes of a zone. -/
theorem act_zone (D : Dev) (x : L7A.Act) (z : Int) :
    (act D x).1.at_ z = D.at_ z ∨ (x.op = 0 ∧ (act D x).1.at_ z = { D.at_ z with pages := (D.at_ z).pages ++ [x.b] }) ∨ (x.op = 2 ∧ (act D x).2.e = 0 ∧ z = x.zone) ∨
    (∃ f, (act D x).1.at_ z = { D.at_ z with fin := f }) ∨ (act D x).1.at_ z = (D.at_ z).settle ∨ (x.op = 6 ∧ (act D x).1.at_ z = (D.at_ z).crash x.keep x.tear z.toNat) := by
  by_cases h0 : x.op = 0
  · unfold act
    rw [if_pos h0]
    unfold Dev.append
    simp only []
    split
    · exact .inl (at_zs (doing_zs ..) z)
    · rename_i h
      have hE := (doing_ok (Classical.not_not.1 h)).1
      have ht : D.there x.zone = true := by
        cases ht : D.there x.zone with
        | true => rfl
        | false => unfold Dev.appendE at hE; rw [if_pos (.inl ht)] at hE; cases hE
      rw [at_setZ (by rw [there_zs (doing_zs ..)]; exact ht) z]
      by_cases hz : z = x.zone
      · rw [if_pos hz, hz]; exact .inr (.inl ⟨h0, rfl⟩)
      · rw [if_neg hz]; exact .inl (at_zs (doing_zs ..) z)
  by_cases h1 : x.op = 1
  · unfold act; rw [if_neg h0, if_pos h1]; exact .inl rfl
  by_cases h2 : x.op = 2
  · unfold act
    rw [if_neg h0, if_neg h1, if_pos h2]
    unfold Dev.reset
    simp only []
    split
    · exact .inl (at_zs (doing_zs ..) z)
    · rename_i h
      have hE := (doing_ok (Classical.not_not.1 h)).1
      have ht : D.there x.zone = true := by
        cases ht : D.there x.zone with
        | true => rfl
        | false => unfold Dev.resetE at hE; rw [if_pos ht] at hE; cases hE
      rw [at_setZ (by rw [there_zs (doing_zs ..)]; exact ht) z]
      by_cases hz : z = x.zone
      · exact .inr (.inr (.inl ⟨h2, rfl, hz⟩))
      · rw [if_neg hz]; exact .inl (at_zs (doing_zs ..) z)
  by_cases h3 : x.op = 3
  · unfold act
    rw [if_neg h0, if_neg h1, if_neg h2, if_pos h3]
    unfold Dev.finish
    simp only []
    split
    · exact .inl (at_zs (doing_zs ..) z)
    · rename_i h
      have hE := (doing_ok (Classical.not_not.1 h)).1
      have ht : D.there x.zone = true := by
        cases ht : D.there x.zone with
        | true => rfl
        | false => unfold Dev.finishE at hE; rw [if_pos ht] at hE; cases hE
      rw [at_setZ (by rw [there_zs (doing_zs ..)]; exact ht) z]
      by_cases hz : z = x.zone
      · rw [if_pos hz, hz]; exact .inr (.inr (.inr (.inl ⟨true, rfl⟩)))
      · rw [if_neg hz]; exact .inl (at_zs (doing_zs ..) z)
  by_cases h4 : x.op = 4
  · unfold act
    rw [if_neg h0, if_neg h1, if_neg h2, if_neg h3, if_pos h4]
    unfold Dev.flush
    simp only []
    split
    · exact .inl (at_zs (doing_zs ..) z)
    · refine .inr (.inr (.inr (.inr (.inl ?_))))
      rw [at_settle, at_zs (doing_zs ..)]
  by_cases h5 : x.op = 5
  · unfold act; rw [if_neg h0, if_neg h1, if_neg h2, if_neg h3, if_neg h4, if_pos h5]; exact .inl rfl
  by_cases h6 : x.op = 6
  · unfold act
    rw [if_neg h0, if_neg h1, if_neg h2, if_neg h3, if_neg h4, if_neg h5, if_pos h6]
    simp only []
    rw [at_crash]
    cases ht : D.there z with
    | false => rw [if_neg (by simp)]; exact .inl (at_none ht).symm
    | true => rw [if_pos rfl]; exact .inr (.inr (.inr (.inr (.inr ⟨h6, rfl⟩))))
  · unfold act; rw [if_neg h0, if_neg h1, if_neg h2, if_neg h3, if_neg h4, if_neg h5, if_neg h6]; exact .inl rfl
theorem crash_len {P : Nat} {Z : Zn} (o : ZnOk P Z) (keep : List Int) (tear : List Bool) (i : Nat) : Z.stay keep i ≤ (Z.crash keep tear i).pages.length := by
  have := (stay_le o keep i).2
  simp only [Zn.crash, List.length_append, List.length_take]; omega
theorem act_sure {D : Dev} (o : DevOk D) (x : L7A.Act) (h2 : x.op ≠ 2) (z : Int) : D.sure z ≤ (act D x).1.sure z := by
  unfold Dev.sure
  have ok := o.at_ z
  rcases act_zone D x z with e | ⟨_, e⟩ | ⟨e, _⟩ | ⟨f, e⟩ | e | ⟨_, e⟩
  · rw [e]; exact Nat.le_refl _
  · rw [e]; exact Nat.le_refl _
  · exact (h2 e).elim
  · rw [e]; exact Nat.le_refl _
  · rw [e]; exact ok.sure
  · rw [e]; exact Nat.le_trans (stay_le ok x.keep z.toNat).1 (crash_len ok x.keep x.tear z.toNat)
theorem crash_sure (D : Dev) (x : L7A.Act) (h6 : x.op = 6) (z : Int) : (act D x).1.sure z = (act D x).1.point z := by
  have e : (act D x).1 = D.crash x.keep x.tear := by unfold act; rw [h6]; rfl
  rw [e]
  unfold Dev.sure Dev.point
  rw [at_crash]
  split
  · rfl
  · rfl
theorem crash_up (D : Dev) (x : L7A.Act) (h6 : x.op = 6) : (act D x).1.down = false := by
  have e : (act D x).1 = D.crash x.keep x.tear := by unfold act; rw [h6]; rfl
  rw [e]; rfl
def pg (D : Dev) (z : Int) (p : Nat) : List Int := (D.at_ z).pages.getD p []
theorem act_page {D : Dev} (o : DevOk D) (x : L7A.Act) (z : Int) (p : Nat) (hp : p < D.point z) (hp' : p < (act D x).1.point z) (hr : ¬ (x.op = 2 ∧ (act D x).2.e = 0 ∧ z = x.zone)) : pg (act D x).1 z p = pg D z p ∨ pg (act D x).1 z p = [] := by
  unfold pg
  unfold Dev.point at hp hp'
  have ok := o.at_ z
  rcases act_zone D x z with e | ⟨_, e⟩ | e | ⟨f, e⟩ | e | ⟨_, e⟩
  · rw [e]; exact .inl rfl
  · rw [e]; refine .inl ?_
    simp only [List.getD_eq_getElem?_getD]; rw [List.getElem?_append_left hp]
  · exact (hr e).elim
  · rw [e]; exact .inl rfl
  · rw [e]; exact .inl rfl
  · rw [e] at hp' ⊢
    have hs := stay_le ok x.keep z.toNat
    simp only [Zn.crash] at hp' ⊢
    simp only [List.getD_eq_getElem?_getD]
    have hl : ((D.at_ z).pages.take ((D.at_ z).stay x.keep z.toNat)).length = (D.at_ z).stay x.keep z.toNat := by rw [List.length_take]; omega
    by_cases h : p < (D.at_ z).stay x.keep z.toNat
    · refine .inl ?_
      rw [List.getElem?_append_left (by omega), List.getElem?_take_of_lt h]
    · refine .inr ?_
      rw [List.getElem?_append_right (by omega), hl]
      split
      · rename_i ht
        rw [if_pos ht] at hp'
        simp only [List.length_append, hl, List.length_singleton] at hp'
        rw [show p - (D.at_ z).stay x.keep z.toNat = 0 by omega]; rfl
      · rfl
theorem act_new (D : Dev) (x : L7A.Act) (h0 : x.op = 0) (he : (act D x).2.e = 0) : x.b.length = 33 ∧ (act D x).2.n = (D.point x.zone : Int) ∧ D.point x.zone < (act D x).1.point x.zone ∧ pg (act D x).1 x.zone (D.point x.zone) = x.b := by
  unfold act at he ⊢
  rw [if_pos h0] at he ⊢
  simp only [] at he ⊢
  unfold Dev.append at he ⊢
  simp only [] at he ⊢
  split at he
  · rename_i h; exact (h he).elim
  · rename_i h
    rw [if_neg h]
    have hE := (doing_ok (Classical.not_not.1 h)).1
    have h1 : ¬ (D.there x.zone = false ∨ x.b.length ≠ 33) := by
      intro hh; unfold Dev.appendE at hE; rw [if_pos hh] at hE; cases hE
    have ht : D.there x.zone = true := by
      cases ht : D.there x.zone with
      | true => rfl
      | false => exact (h1 (.inl ht)).elim
    have hb : x.b.length = 33 := Classical.byContradiction fun hb => h1 (.inr hb)
    simp only []
    unfold pg Dev.point
    rw [at_setZ (by rw [there_zs (doing_zs ..)]; exact ht) x.zone, if_pos rfl]
    refine ⟨hb, trivial, by simp, ?_⟩
    simp only [List.getD_eq_getElem?_getD]
    rw [List.getElem?_append_right (Nat.le_refl _), Nat.sub_self]; rfl
/- WHAT IS KEPT OF WHAT WAS WRITTEN. -/
def KOk (D : Dev) (w : Wr) : Prop := ∃ p : Nat, w.2.1 = p ∧ p < D.point w.1 ∧ w.2.2.length = 33 ∧ (pg D w.1 p = w.2.2 ∨ pg D w.1 p = [])
def stays (x : L7A.Act) (e : Int) (D : Dev) (w : Wr) : Bool := decide ((x.op ≠ 2 ∨ e ≠ 0 ∨ w.1 ≠ x.zone) ∧ w.2.1 < (D.point w.1 : Int))
def plus (x : L7A.Act) (r : L7A.Told) (ws : List Wr) : List Wr := if x.op = 0 ∧ r.e = 0 then ws ++ [(x.zone, r.n, x.b)] else ws
theorem plus_len (x : L7A.Act) (r : L7A.Told) (ws : List Wr) : (plus x r ws).length ≤ ws.length + 1 := by unfold plus; split <;> simp
theorem kept_step {D : Dev} (o : DevOk D) (x : L7A.Act) (ws : List Wr) (h : ∀ w ∈ ws, KOk D w) : ∀ w ∈ (plus x (act D x).2 ws).filter (stays x (act D x).2.e (act D x).1), KOk (act D x).1 w := by
  intro w hw
  obtain ⟨hw, hs⟩ := List.mem_filter.1 hw
  obtain ⟨hr, hp⟩ := of_decide_eq_true hs
  have old : w ∈ ws → KOk (act D x).1 w := fun hw => by
    obtain ⟨p, e, h1, h2, h3⟩ := h w hw
    rw [e] at hp
    have hp : p < (act D x).1.point w.1 := by omega
    refine ⟨p, e, hp, h2, ?_⟩
    rcases act_page o x w.1 p h1 hp (fun ⟨a, b, c⟩ => by
      rcases hr with hr | hr | hr
      · exact hr a
      · exact hr b
      · exact hr c) with e1 | e1
    · rw [e1]; exact h3
    · exact .inr e1
  unfold plus at hw
  split at hw
  · rename_i hc
    rcases List.mem_append.1 hw with hw | hw
    · exact old hw
    · obtain rfl := List.mem_singleton.1 hw
      obtain ⟨h1, h2, h3, h4⟩ := act_new D x hc.1 hc.2
      exact ⟨D.point x.zone, h2, h3, h1, .inl h4⟩
  · exact old hw
theorem read_kept {D : Dev} (o : DevOk D) (hd : D.down = false) {w : Wr} (k : KOk D w) : (D.read w.1 w.2.1).2 = 6 ∨ (D.read w.1 w.2.1 = (w.2.2, 0)) := by
  obtain ⟨p, e, h1, h2, h3⟩ := k
  have ok := o.at_ w.1
  have ht : D.there w.1 = true := by
    cases ht : D.there w.1 with
    | true => rfl
    | false => unfold Dev.point at h1; rw [at_none ht] at h1; cases h1
  have hm := ok.most
  unfold Dev.point at h1
  have hno : ¬ (D.there w.1 = false ∨ (p : Int) < 0 ∨ (p : Int) ≥ D.P) := by
    rw [ht]
    rintro (h | h | h)
    · cases h
    · omega
    · omega
  rw [e, ZnsP.readE hd hno, if_neg (by omega), Int.toNat_natCast]
  unfold pg at h3
  rcases h3 with h3 | h3
  · rw [if_neg (by rw [h3]; omega), h3]; exact .inr rfl
  · rw [if_pos (by rw [h3]; rfl)]; exact .inl rfl
end Go.Proofs.YtgohecjnjadnpaaDoor.L7T
