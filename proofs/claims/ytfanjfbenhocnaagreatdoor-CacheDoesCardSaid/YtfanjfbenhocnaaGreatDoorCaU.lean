/-
  The contracts of reference 10: Dirty, Tables, Clean, New.
-/
import Derived.Test.YtfanjfbenhocnaaGreatDoorCaT
namespace Go.Proofs.YtfanjfbenhocnaaGreatDoor.Ca
open Go.Pl Go.Pl.Lru Go.Pl.Ix Go.Proofs.YtfanjfbenhocnaaGreatDoor.W Go.Proofs.YtfanjfbenhocnaaGreatDoor.Lru Go.Proofs.YtfanjfbenhocnaaGreatDoor.IxS
open Go.Proofs.YtfanjfbenhocnaaGreatDoor.R8M (RKL new8_ok)
section
variable {k q kq c0 c1 S : Nat} {t t' : Tags} {h h' : Heap} {a0 a1 : Option Addr} {c : Cm} {ρ : Nat → Nat} {T : TypeId}
theorem RH.new (a : RH k t h q kq a0 c0 a1 c1 S c ρ T) (n : New h h') : RH k t h' q kq a0 c0 a1 c1 S c ρ T := a.fr' (Q := fun _ => True) (Fr.new0 n) fun _ => trivial
abbrev dl (c : Cm) (tb : Int) (l : List Nat) : List En := (l.map (ev c)).filter fun (z : En) => dirt tb z.1 z.2
theorem dl_all (c : Cm) (tb : Int) : dl c tb (blocks c) = dirtyC c tb := rfl
theorem rdirty_ok (tb : Int) (a : RRep k t h q S c) :
    CallsH Tryz.prog 15 [ptr q, .int .i64 tb] h fun v h' => ∃ a' c', v = .slice a' (dirtyC c tb).length c' ∧ RowS h' TR 3 a' (dirtyC c tb).length c' (encs (dirtyC c tb)) ∧ New h h' := by
  obtain ⟨kq, a0, c0, a1, c1, ρ, T, a⟩ := a
  refine fun_ok hm' Tryz.func15 (by kernel_rfl) (F15_eq _ _ _ h) ?_
  unfold F15
  have hbl := a.bl
  refine new_of fun h1 b1 n1 s1 => ?_
  have hr0 : ∀ b : Nat, blkOf (some (⟨h.size, 0, none⟩ : Addr)) = some b → h.size ≤ b := fun b e => by injection e with e; change h.size = b at e; omega
  refine ⟨fun (s : (Option Addr × Nat × Nat) × Int) h' => ∃ i : Nat, s.2 = i ∧ i ≤ (blocks c).length ∧ s.1.2.1 = (dl c tb ((blocks c).take i)).length ∧ Grow h1 (blkOf (some (⟨h.size, 0, none⟩ : Addr))) h' TR 3 s.1.1 (dl c tb ((blocks c).take i)).length s.1.2.2 (encs (dl c tb ((blocks c).take i))), fun (s : (Option Addr × Nat × Nat) × Int) _ => (((blocks c).length : Int) - s.2).toNat, ⟨0, rfl, Nat.zero_le _, rfl, Grow.start (RowS.nil' h1 TR 3 (some ⟨h.size, 0, none⟩))⟩, ?_⟩
  rintro ⟨⟨oa, on, oc⟩, s⟩ j h2 ⟨i, hs, hi, hon, g2⟩
  have hs : s = (i : Int) := hs
  have hon : on = (dl c tb ((blocks c).take i)).length := hon
  have g2 : Grow h1 (blkOf (some (⟨h.size, 0, none⟩ : Addr))) h2 TR 3 oa (dl c tb ((blocks c).take i)).length oc (encs (dl c tb ((blocks c).take i))) := g2
  subst hs; subst hon
  have n2 : New h h2 := g2.upd.grow n1 hr0
  have a2 := a.new n2
  refine ld_of (c := .slice) (a0, (blocks c).length, c0) a2.k0 (br_of (fun hlt => ?_) fun hlt => ?_)
  · have hlt : (i : Int) < ((blocks c).length : Int) := of_decide_eq_true hlt
    have hiL : i < (blocks c).length := by omega
    have hget : (blocks c)[i]? = some (blocks c)[i] := List.getElem?_eq_getElem hiL
    have hq := (mem_blocks a.inv _).1 (List.getElem_mem hiL)
    have h64 := a.inv.lt _ hq
    obtain ⟨e, he⟩ := Option.isSome_iff_exists.1 ((a.inv.mem _).1 hq)
    obtain ⟨g, o, e1, hc⟩ := a2.cell hget he
    have hae := blocks_ev hget he
    obtain ⟨hiA, hag⟩ := List.getElem?_eq_some_iff.1 hae
    have hev : (ev c (blocks c)[i]).2 = e := by unfold ev; rw [he]; rfl
    have ez : IntKind.wrap .i64 ((i : Int) + 1) = ((i + 1 : Nat) : Int) := (by first | (rw [wr64 (by omega) (by omega)]; omega) | (simp only [IntKind.wrap_i64]; omega))
    have hstep : dl c tb ((blocks c).take (i + 1)) = dl c tb ((blocks c).take i) ++ if dirt tb (blocks c)[i] e = true then [ev c (blocks c)[i]] else [] := by
      have := ev_dirt (c := c) (x := (blocks c)[i]) (tb := tb) ((blocks c).take i)
      rw [List.take_append_getElem hiL, hev] at this
      exact this
    have hfl : (dl c tb ((blocks c).take i)).length ≤ i := by
      have := fl_le (c := c) ((blocks c).take i) tb
      rw [List.length_take] at this
      exact Nat.le_trans this (Nat.min_le_left _ _)
    refine cut_q (ts := [.sc .bool]) (fun (s : Bool) h' => h' = h2 ∧ s = dirt tb (blocks c)[i] e) ?_ ?_
    rotate_left
    · intro K hK
      refine ld_of (c := .slice) (a0, (blocks c).length, c0) a2.k0 ?_
      rw [e1]
      refine ptr_of ⟨⟨(by first | omega | (dsimp only; omega) | (simp only []; omega)), rfl⟩, ?_⟩
      rw [Int.toNat_natCast, add_mk, add_mk, Nat.add_assoc]
      refine ld_of (c := .bool) e.2 (hc 2 (by decide)) (br_of (fun hd => ?_) fun hd => hK _ _ ⟨rfl, ?_⟩)
      · rw [e1] at a2
        refine ld_of (c := .slice) (some ⟨g, o, none⟩, (blocks c).length, c0) a2.k0 (ptr_of ⟨⟨(by first | omega | (dsimp only; omega) | (simp only []; omega)), rfl⟩, ?_⟩)
        rw [add_mk, add_mk, Nat.add_assoc]
        refine ld_of (c := .int .i64) ((blocks c)[i] : Int) (hc 0 (by decide)) (hK _ _ ⟨rfl, ?_⟩)
        have e4 : IntKind.wrap .i64 (Int.tdiv ((blocks c)[i] : Int) 4) = (((blocks c)[i] / 4 : Nat) : Int) := by
          have e3 : Int.tdiv ((blocks c)[i] : Int) 4 = (((blocks c)[i] / 4 : Nat) : Int) := tdiv_nat (i := (blocks c)[i]) (k := 4)
          rw [e3]; exact wr64 (by omega) (by omega)
        rw [e4]
        unfold dirt
        rw [hd, Bool.true_and]; rfl
      · unfold dirt
        rw [hd, Bool.false_and]
    rintro s h' ⟨hh, hs⟩ _; subst h'
    have hs : s = dirt tb (blocks c)[i] e := hs
    subst hs
    refine br_of (fun hd => ?_) fun hd => ?_
    · rw [if_pos hd] at hstep
      refine ld_of (c := .slice) (a0, (blocks c).length, c0) a2.k0 (a2.er.ld hiA (show i < (blocks c).length by omega) ?_)
      rw [hag]
      refine grow_ent (n := (blocks c)[i]) (e := e) g2 (by omega) fun a' c' h4 g4 => ?_
      have hee : ev c (blocks c)[i] = ((blocks c)[i], e) := by rw [← hev]; rfl
      rw [hee] at hstep
      rw [← hstep] at g4 ⊢
      simp only [ez]
      exact ⟨⟨i + 1, rfl, hiL, rfl, g4⟩, (by first | omega | (dsimp only; omega) | (simp only []; omega))⟩
    · rw [if_neg (by rw [hd]; simp), List.append_nil] at hstep
      simp only [ez]
      exact ⟨⟨i + 1, rfl, hiL, by rw [← hstep], by rw [hstep]; exact g2⟩, (by first | omega | (dsimp only; omega) | (simp only []; omega))⟩
  · have : i = (blocks c).length := by
      have hlt : ¬ (i : Int) < ((blocks c).length : Int) := of_decide_eq_false hlt
      omega
    subst this
    rw [List.take_length, dl_all] at g2 ⊢
    exact ⟨oa, oc, rfl, g2.row, n2⟩
def tabN (c : Cm) (i : Nat) : List Nat := (List.range i).filter fun t => !(dirtyC c t).isEmpty
theorem rtables_ok (a : RRep k t h q S c) :
    CallsH Tryz.prog 18 [ptr q] h fun v h' => ∃ a' c', v = .slice a' (tablesC c).length c' ∧ Ar .i64 h' a' (nI (tablesC c)) ∧ New h h' := by
  refine fun_ok hm' Tryz.func18 (by kernel_rfl) (F18_eq _ _ h) ?_
  unfold F18
  refine new_of fun h1 b1 n1 s1 => ?_
  have hr0 : ∀ b : Nat, blkOf (some (⟨h.size, 0, none⟩ : Addr)) = some b → h.size ≤ b := fun b e => by injection e with e; change h.size = b at e; omega
  refine ⟨fun (s : (Option Addr × Nat × Nat) × Int) h' => ∃ i : Nat, s.2 = i ∧ i ≤ 16 ∧ s.1.2.1 = (tabN c i).length ∧ Grow h1 (blkOf (some (⟨h.size, 0, none⟩ : Addr))) h' TI 1 s.1.1 (tabN c i).length s.1.2.2 (nV (tabN c i)), fun (s : (Option Addr × Nat × Nat) × Int) _ => ((16 : Int) - s.2).toNat, ⟨0, rfl, Nat.zero_le _, rfl, Grow.start (RowS.nil' h1 TI 1 (some ⟨h.size, 0, none⟩))⟩, ?_⟩
  rintro ⟨⟨oa, on, oc⟩, s⟩ j h2 ⟨i, hs, hi, hon, g2⟩
  have hs : s = (i : Int) := hs
  have hon : on = (tabN c i).length := hon
  have g2 : Grow h1 (blkOf (some (⟨h.size, 0, none⟩ : Addr))) h2 TI 1 oa (tabN c i).length oc (nV (tabN c i)) := g2
  subst hs; subst hon
  have n2 : New h h2 := g2.upd.grow n1 hr0
  refine br_of (fun hlt => ?_) fun hlt => ?_
  · have hlt : (i : Int) < 16 := of_decide_eq_true hlt
    have ez : IntKind.wrap .i64 ((i : Int) + 1) = ((i + 1 : Nat) : Int) := (by first | (rw [wr64 (by omega) (by omega)]; omega) | (simp only [IntKind.wrap_i64]; omega))
    refine call_of (rdirty_ok (i : Int) (a.new n2)) ?_
    rintro v h3 ⟨da, dc, rfl, _, n3⟩
    have hts : tabN c (i + 1) = tabN c i ++ if (dirtyC c (i : Int)).length > 0 then [i] else [] := by
      unfold tabN
      rw [List.range_succ, List.filter_append]
      congr 1
      by_cases hd : (dirtyC c (i : Int)).length > 0
      · rw [if_pos hd, List.filter_cons_of_pos, List.filter_nil]
        cases h0 : dirtyC c (i : Int) with
        | nil => rw [h0] at hd; simp at hd
        | cons a l => rfl
      · rw [if_neg hd, List.filter_cons_of_neg, List.filter_nil]
        cases h0 : dirtyC c (i : Int) with
        | nil => simp
        | cons a l => rw [h0] at hd; simp at hd
    have htl : (tabN c i).length ≤ 16 := by unfold tabN; refine Nat.le_trans (List.length_filter_le _ _) ?_; simp; omega
    refine ⟨(da, (dirtyC c (i : Int)).length, dc), rfl, br_of (fun hd => ?_) fun hd => ?_⟩
    · have hd : (dirtyC c (i : Int)).length > 0 := by
        have : ((dirtyC c (i : Int)).length : Int) > 0 := of_decide_eq_true hd
        omega
      rw [if_pos hd] at hts
      refine Grow.push apF (v := .int .i64 i) (g2.new n3) rfl (show (tabN c i).length ≤ 1000000 by omega) (by decide) fun a' c' h4 g4 => ?_
      have e1 : nV (tabN c (i + 1)) = nV (tabN c i) ++ [.int .i64 i] := by rw [hts]; simp
      have e2 : (tabN c (i + 1)).length = (tabN c i).length + 1 := by rw [hts]; simp
      rw [← e1, ← e2] at g4
      simp only [ez]
      exact ⟨⟨i + 1, rfl, by omega, e2.symm, g4⟩, (by first | omega | (dsimp only; omega) | (simp only []; omega))⟩
    · have hd : ¬ (dirtyC c (i : Int)).length > 0 := by
        have : ¬ ((dirtyC c (i : Int)).length : Int) > 0 := of_decide_eq_false hd
        omega
      rw [if_neg hd, List.append_nil] at hts
      simp only [ez]
      exact ⟨⟨i + 1, rfl, by omega, by rw [hts], by rw [hts]; exact g2.new n3⟩, (by first | omega | (dsimp only; omega) | (simp only []; omega))⟩
  · have : i = 16 := by
      have hlt : ¬ (i : Int) < 16 := of_decide_eq_false hlt
      omega
    subst this
    have et : tabN c 16 = tablesC c := rfl
    rw [et] at g2 ⊢
    exact ⟨oa, oc, rfl, RowS.ar (n := (tablesC c).length) (c := oc) (by have := g2.row; rw [nV_eq] at this; exact this), n2⟩
theorem cleanP_B (c : Cm) (tb : Int) (l : List Nat) : (cleanP c tb l).B = c.B := rfl
theorem cleanP_blocks (c : Cm) (tb : Int) (l : List Nat) : blocks (cleanP c tb l) = blocks c := by
  unfold blocks cleanP
  refine List.filter_congr fun n _ => ?_
  show (if n ∈ l then (c.E n).map _ else c.E n).isSome = _
  split
  · cases c.E n <;> rfl
  · rfl
theorem rclean_ok (tb : Int) (a : RRep k t h q S c) :
    CallsH Tryz.prog 35 [ptr q, .int .i64 tb] h fun v h' => v = .int .i64 ((dirtyC c tb).length : Nat) ∧ RActed k t h q S (cleanC c tb) h' := by
  obtain ⟨kq, a0, c0, a1, c1, ρ, T, a⟩ := a
  refine fun_ok hm' Tryz.func35 (by kernel_rfl) (F35_eq _ _ _ h) ?_
  unfold F35
  have hbl := a.bl
  refine ⟨fun (s : Int × Int) h' => ∃ i : Nat, s = (((dl c tb ((blocks c).take i)).length : Int), (i : Int)) ∧ i ≤ (blocks c).length ∧ RH k t h' q kq a0 c0 a1 c1 S (cleanP c tb ((blocks c).take i)) ρ T ∧ Fr (fun p => p.1 ≠ k) t h t h', fun (s : Int × Int) _ => (((blocks c).length : Int) - s.2).toNat, ⟨0, rfl, Nat.zero_le _, by rw [List.take_zero, cleanP_nil]; exact a, Fr.refl _ _ _⟩, ?_⟩
  rintro s j h2 ⟨i, hs, hi, a2, f2⟩
  have hs : s = ((((dl c tb ((blocks c).take i)).length : Int), (i : Int)) : Int × Int) := hs
  subst hs
  have hbk := cleanP_blocks c tb ((blocks c).take i)
  have hk0 := a2.k0
  rw [hbk] at hk0
  refine ld_of (c := .slice) (a0, (blocks c).length, c0) hk0 (br_of (fun hlt => ?_) fun hlt => ?_)
  · have hlt : (i : Int) < ((blocks c).length : Int) := of_decide_eq_true hlt
    have hiL : i < (blocks c).length := by omega
    have hget : (blocks c)[i]? = some (blocks c)[i] := List.getElem?_eq_getElem hiL
    have hq := (mem_blocks a.inv _).1 (List.getElem_mem hiL)
    have h64 := a.inv.lt _ hq
    have hxp : (blocks c)[i] ∉ (blocks c).take i := fun hm => by
      obtain ⟨j, hj, e⟩ := List.mem_iff_getElem.1 hm
      rw [List.length_take] at hj
      rw [List.getElem_take] at e
      have := up_inj (blocks_up c) (List.getElem?_eq_getElem (show j < (blocks c).length by omega)) (hget.trans (by rw [e]))
      omega
    obtain ⟨e, he⟩ := Option.isSome_iff_exists.1 ((a.inv.mem _).1 hq)
    have he2 : (cleanP c tb ((blocks c).take i)).E (blocks c)[i] = some e := by
      show (if (blocks c)[i] ∈ (blocks c).take i then _ else _) = _
      rw [if_neg hxp]; exact he
    have hget2 : (blocks (cleanP c tb ((blocks c).take i)))[i]? = some (blocks c)[i] := by rw [hbk]; exact hget
    obtain ⟨g, e1, w2⟩ := a2.own' hget2
    obtain ⟨g', o, e1', hc⟩ := a2.cell hget2 he2
    rw [e1] at e1'; injection e1' with e1'; injection e1' with e3 e4
    subst e3; subst e4
    have hae := blocks_ev hget2 he2
    obtain ⟨hiA, hag⟩ := List.getElem?_eq_some_iff.1 hae
    have hev : (ev c (blocks c)[i]).2 = e := by unfold ev; rw [he]; rfl
    have ez : IntKind.wrap .i64 ((i : Int) + 1) = ((i + 1 : Nat) : Int) := (by first | (rw [wr64 (by omega) (by omega)]; omega) | (simp only [IntKind.wrap_i64]; omega))
    have hstep : dl c tb ((blocks c).take (i + 1)) = dl c tb ((blocks c).take i) ++ if dirt tb (blocks c)[i] e = true then [ev c (blocks c)[i]] else [] := by
      have := ev_dirt (c := c) (x := (blocks c)[i]) (tb := tb) ((blocks c).take i)
      rw [List.take_append_getElem hiL, hev] at this
      exact this
    have hfl : (dl c tb ((blocks c).take i)).length ≤ i := by
      have := fl_le (c := c) ((blocks c).take i) tb
      rw [List.length_take] at this
      exact Nat.le_trans this (Nat.min_le_left _ _)
    rw [e1] at hk0
    refine cut_q (ts := [.sc .bool]) (fun (s : Bool) h' => h' = h2 ∧ s = dirt tb (blocks c)[i] e) ?_ ?_
    rotate_left
    · intro K hK
      refine ld_of (c := .slice) (some ⟨g, 0, none⟩, (blocks c).length, c0) hk0 (ptr_of ⟨⟨(by first | omega | (dsimp only; omega) | (simp only []; omega)), rfl⟩, ?_⟩)
      rw [Int.toNat_natCast, add_mk, add_mk, Nat.add_assoc]
      refine ld_of (c := .bool) e.2 (hc 2 (by decide)) (br_of (fun hd => ?_) fun hd => hK _ _ ⟨rfl, ?_⟩)
      · refine ld_of (c := .slice) (some ⟨g, 0, none⟩, (blocks c).length, c0) hk0 (ptr_of ⟨⟨(by first | omega | (dsimp only; omega) | (simp only []; omega)), rfl⟩, ?_⟩)
        rw [add_mk, add_mk, Nat.add_assoc]
        refine ld_of (c := .int .i64) ((blocks c)[i] : Int) (hc 0 (by decide)) (hK _ _ ⟨rfl, ?_⟩)
        have e4 : IntKind.wrap .i64 (Int.tdiv ((blocks c)[i] : Int) 4) = (((blocks c)[i] / 4 : Nat) : Int) := by
          have e3 : Int.tdiv ((blocks c)[i] : Int) 4 = (((blocks c)[i] / 4 : Nat) : Int) := tdiv_nat (i := (blocks c)[i]) (k := 4)
          rw [e3]; exact wr64 (by omega) (by omega)
        rw [e4]
        unfold dirt
        rw [hd, Bool.true_and]; rfl
      · unfold dirt
        rw [hd, Bool.false_and]
    rintro s h' ⟨hh, hs⟩ _; subst h'
    have hs : s = dirt tb (blocks c)[i] e := hs
    subst hs
    refine br_of (fun hd => ?_) fun hd => ?_
    · rw [if_pos hd] at hstep
      have hlen : ((dl c tb ((blocks c).take (i + 1))).length : Int) = (dl c tb ((blocks c).take i)).length + 1 := by rw [hstep, List.length_append]; rfl
      have ew : IntKind.wrap .i64 (((dl c tb ((blocks c).take i)).length : Int) + 1) = ((dl c tb ((blocks c).take (i + 1))).length : Int) := by rw [hlen]; exact wr64 (by omega) (by omega)
      refine ld_of (c := .slice) (some ⟨g, 0, none⟩, (blocks c).length, c0) hk0 (ptr_of ⟨⟨(by first | omega | (dsimp only; omega) | (simp only []; omega)), rfl⟩, ?_⟩)
      rw [Int.toNat_natCast, add_mk, add_mk, Nat.zero_add]
      refine own_set w2 (by rw [encs_len]; omega) fun h3 w3 o3 => ?_
      rw [encs_set _ i ((blocks c)[i], (e.1, false)) hiA 2 _ (by rw [hag]; rfl) (by decide)] at w3
      obtain ⟨a3, f3⟩ := a2.set hget2 he2 (e' := (e.1, false)) (fun g' hg' => by rw [e1] at hg'; injection hg' with hg'; injection hg' with hg'; subst hg'; exact o3) (by rw [e1]; exact w3)
      simp only [ez, ew]
      refine ⟨⟨i + 1, rfl, hiL, ?_, f2.trans f3⟩, (by first | omega | (dsimp only; omega) | (simp only []; omega))⟩
      rw [← List.take_append_getElem hiL, cleanP_hit hxp he hd]
      exact a3
    · rw [if_neg (by rw [hd]; simp), List.append_nil] at hstep
      simp only [ez]
      refine ⟨⟨i + 1, by rw [hstep], hiL, ?_, f2⟩, (by first | omega | (dsimp only; omega) | (simp only []; omega))⟩
      rw [← List.take_append_getElem hiL, cleanP_miss hxp he hd]
      exact a2
  · have : i = (blocks c).length := by
      have hlt : ¬ (i : Int) < ((blocks c).length : Int) := of_decide_eq_false hlt
      omega
    subst this
    rw [List.take_length] at a2 ⊢
    rw [cleanP_all c tb fun n hn => (mem_blocks a.inv n).2 ((a.inv.mem n).2 hn)] at a2
    exact ⟨rfl, t, ⟨kq, a0, c0, a1, c1, ρ, T, a2⟩, f2⟩
end
theorem rnew_ok (x : Int) (k : Nat) (hk : k ≠ 0) (t : Tags) (h : Heap) :
    CallsH Tryz.prog 6 [.int .i64 x] h fun v h' => ((x < 1 ∨ 64 < x) ∧ v = .tuple #[.pointer none, .int .i64 1] ∧ h' = h) ∨ (∃ S q t', x = (S : Nat) ∧ 1 ≤ S ∧ S ≤ 64 ∧ v = .tuple #[ptr q, .int .i64 0] ∧ h.size ≤ q ∧ RRep k t' h' q S bare ∧ Fr (fun _ => True) t h t' h') := by
  refine fun_ok hm' Tryz.func6 (by kernel_rfl) (F6_eq _ _ h) ?_
  unfold F6
  refine call_of (new8_ok x h) ?_
  rintro v h1 (⟨hx, rfl, hh⟩ | ⟨S, rfl, hS1, hS2, rfl, rk, n1⟩)
  · subst hh
    exact ⟨(none, (1 : Int)), rfl, br_t rfl (.inl ⟨hx, rfl, rfl⟩)⟩
  · have hl := rk.lt
    refine ⟨(some ⟨h.size, 0, none⟩, (0 : Int)), rfl, br_f rfl (new_of fun h2 b2 n2 s2 => .inr ⟨S, h1.size, (fun b => if b < h.size then t b else if b = h.size then (k, 1) else (k, 0)), rfl, hS1, hS2, rfl, n1.size, ⟨h.size, none, 0, none, 0, fun _ => 0, _, hk, b2, RowS.nil h2 TR 3, fun e => (e rfl).elim, RowS.nil h2 TI 1, ?_, ?_, ?_, (fun g hg => by cases hg), (fun g hg => by cases hg), ⟨List.nodup_nil, fun n => by simp [que], fun n hn => by simp [que] at hn, by simp [que], hS2, hS1⟩, fun m hm => by simp [que] at hm, fun m hm => by simp [que] at hm⟩, ⟨by have := n1.size; omega, fun b hb => if_pos hb, fun b hb _ => (n2.same b (by have := n1.size; omega)).trans (n1.same b hb)⟩⟩)⟩
    · exact (rk.mono (fun _ h => h.elim)).new n2
    · show (if h1.size < h.size then t h1.size else if h1.size = h.size then (k, 1) else (k, 0)) = (k, 0)
      rw [if_neg (by omega), if_neg (by omega)]
    · show (if h.size < h.size then t h.size else if h.size = h.size then (k, 1) else (k, 0)) = (k, 1)
      rw [if_neg (by omega), if_pos rfl]
end Go.Proofs.YtfanjfbenhocnaaGreatDoor.Ca
