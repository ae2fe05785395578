/-
  The reference of valid: what turns its set; and how it tells what the program's set tells.
-/
import Derived.Test.YticppjmldlhbiaaDoorR11
namespace Go.Proofs.YticppjmldlhbiaaDoor.R11
open Go.Pl Go.Proofs.YticppjmldlhbiaaDoor.W Go.Proofs.YticppjmldlhbiaaDoor.Geo Go.Proofs.YticppjmldlhbiaaDoor.Valid
/- PLAIN. -/
theorem same_zone {p zn zm pg ph : Nat} (h1 : pg < p) (h2 : ph < p) (e : (zn : Int) * p + pg + 1 = zm * p + ph + 1) : zn = zm := by
  have e : zn * p + pg = zm * p + ph := by
    have e' : ((zn * p + pg : Nat) : Int) = ((zm * p + ph : Nat) : Int) := by simp; omega
    exact Int.ofNat.inj e'
  have a1 : (zn * p + pg) / p = zn := by rw [Nat.mul_comm, Nat.mul_add_div (by omega), Nat.div_eq_of_lt h1, Nat.add_zero]
  have a2 : (zm * p + ph) / p = zm := by rw [Nat.mul_comm, Nat.mul_add_div (by omega), Nat.div_eq_of_lt h2, Nat.add_zero]
  rw [← a1, e, a2]
theorem live_mark {z p : Nat} {W : Nat → Nat} {a x : Int} (hp : 4 ≤ p ∧ p ≤ 16) (ha : 0 ≤ a) (hx : 0 ≤ x) : liveB z p (markW z p W a) x = (liveB z p W x || (decide (x = a) && (atF z p a).2.2)) := by
  unfold markW
  cases hc : (atF z p a).2.2 with
  | false => simp
  | true =>
    rw [if_pos rfl]
    unfold liveB
    cases hd : (atF z p x).2.2 with
    | false => rw [decide_eq_false (fun e => by rw [e, hc] at hd; cases hd)]; rfl
    | true =>
      have f := at_facts (z := z) (p := p) (a := a) (by omega) ha hc
      have g := at_facts (z := z) (p := p) (a := x) (by omega) hx hd
      generalize (atF z p a).1 = zn at f ⊢
      generalize (atF z p a).2.1 = pg at f ⊢
      generalize (atF z p x).1 = zm at g ⊢
      generalize (atF z p x).2.1 = ph at g ⊢
      obtain ⟨zn, rfl⟩ := Int.eq_ofNat_of_zero_le f.1
      obtain ⟨pg, rfl⟩ := Int.eq_ofNat_of_zero_le f.2.2.1
      obtain ⟨zm, rfl⟩ := Int.eq_ofNat_of_zero_le g.1
      obtain ⟨ph, rfl⟩ := Int.eq_ofNat_of_zero_le g.2.2.1
      simp only [Int.toNat_natCast, Bool.true_and, Bool.and_true, updW]
      by_cases e : zm = zn
      · subst e
        rw [if_pos rfl, Nat.testBit_or, Nat.testBit_two_pow]
        congr 1
        rw [decide_eq_decide]
        constructor
        · rintro rfl; rw [f.2.2.2.2, g.2.2.2.2]
        · intro e; omega
      · rw [if_neg e]
        have : x ≠ a := by
          intro e2
          subst e2
          exact e (by
            have h3 := f.2.2.2.2; have h4 := g.2.2.2.2
            rw [h3] at h4
            exact (same_zone (by omega) (by omega) h4).symm)
        rw [decide_eq_false this, Bool.or_false]
theorem live_un {z p : Nat} {W : Nat → Nat} {a x : Int} (hp : 4 ≤ p ∧ p ≤ 16) (ha : 0 ≤ a) (hx : 0 ≤ x) : liveB z p (unW z p W a) x = (liveB z p W x && !decide (x = a)) := by
  unfold Valid.unW
  cases hc : (atF z p a).2.2 with
  | false =>
    rw [if_neg (by simp)]
    by_cases e : x = a
    · subst e; unfold liveB; rw [hc]; rfl
    · rw [decide_eq_false e]; simp
  | true =>
    rw [if_pos rfl]
    unfold liveB
    cases hd : (atF z p x).2.2 with
    | false => rfl
    | true =>
      have f := at_facts (z := z) (p := p) (a := a) (by omega) ha hc
      have g := at_facts (z := z) (p := p) (a := x) (by omega) hx hd
      generalize (atF z p a).1 = zn at f ⊢
      generalize (atF z p a).2.1 = pg at f ⊢
      generalize (atF z p x).1 = zm at g ⊢
      generalize (atF z p x).2.1 = ph at g ⊢
      obtain ⟨zn, rfl⟩ := Int.eq_ofNat_of_zero_le f.1
      obtain ⟨pg, rfl⟩ := Int.eq_ofNat_of_zero_le f.2.2.1
      obtain ⟨zm, rfl⟩ := Int.eq_ofNat_of_zero_le g.1
      obtain ⟨ph, rfl⟩ := Int.eq_ofNat_of_zero_le g.2.2.1
      simp only [Int.toNat_natCast, Bool.true_and, updW]
      by_cases e : zm = zn
      · subst e
        rw [if_pos rfl, Ones.bit_clear (by omega) (by omega)]
        congr 1
        congr 1
        rw [decide_eq_decide]
        constructor
        · rintro rfl; rw [f.2.2.2.2, g.2.2.2.2]
        · intro e; omega
      · rw [if_neg e]
        have : x ≠ a := by
          intro e2
          subst e2
          exact e (by
            have h3 := f.2.2.2.2; have h4 := g.2.2.2.2
            rw [h3] at h4
            exact (same_zone (by omega) (by omega) h4).symm)
        rw [decide_eq_false this, Bool.not_false, Bool.and_true]
theorem live_lt {z p : Nat} {W : Nat → Nat} : liveB z p W 0 = false := by unfold liveB atF; simp
/-- Both sets tell the same. -/
structure Rel (z p : Nat) (W : Nat → Nat) (L : List Int) : Prop where
  live : ∀ a, 0 ≤ a → liveB z p W a = decide (a ∈ L)
  nodup : L.Nodup
  tot : L.length = totW z W (z - 2)
theorem filter_len (a : Int) : ∀ {L : List Int}, L.Nodup → (L.filter fun x => !decide (x = a)).length + (if a ∈ L then 1 else 0) = L.length
  | [], _ => by simp
  | x :: L, h => by
    have h := List.nodup_cons.1 h
    have ih := filter_len a h.2
    by_cases e : x = a
    · subst e
      rw [if_neg h.1] at ih
      simp only [List.filter_cons, decide_true, Bool.not_true, Bool.false_eq_true, if_false, List.mem_cons, true_or, if_true, List.length_cons]
      omega
    · have e2 : ¬ a = x := fun h => e h.symm
      simp only [List.filter_cons, e, decide_false, Bool.not_false, if_true, List.mem_cons, e2, false_or, List.length_cons]
      omega
theorem Rel.mark {z p : Nat} {W : Nat → Nat} {L : List Int} {a : Int} (r : Rel z p W L) (hz : 11 ≤ z ∧ z ≤ 24) (hp : 4 ≤ p ∧ p ≤ 16) (ha : 0 ≤ a) : Rel z p (markW z p W a) (if ((atF z p a).2.2 && !decide (a ∈ L)) = true then L ++ [a] else L) := by
  have ht := mark_tot (W := W) (a := a) hz hp ha
  rw [r.live a ha] at ht
  by_cases hc : ((atF z p a).2.2 && !decide (a ∈ L)) = true
  · rw [if_pos hc] at ht ⊢
    simp only [Bool.and_eq_true, Bool.not_eq_true', decide_eq_false_iff_not] at hc
    refine ⟨fun x hx => ?_, ?_, by rw [List.length_append, List.length_singleton, ht, r.tot]⟩
    · rw [live_mark hp ha hx, r.live x hx, hc.1, Bool.and_true, Bool.eq_iff_iff]
      simp
    · rw [List.nodup_append]
      exact ⟨r.nodup, by simp, fun x hx y hy e => by
        rw [List.mem_singleton] at hy
        subst hy; subst e; exact hc.2 hx⟩
  · rw [if_neg hc] at ht ⊢
    refine ⟨fun x hx => ?_, r.nodup, by rw [ht, r.tot]; rfl⟩
    rw [live_mark hp ha hx, r.live x hx]
    by_cases e : x = a
    · subst e
      cases hd : (atF z p x).2.2 with
      | false => simp
      | true =>
        rw [hd] at hc
        have : x ∈ L := by simpa using hc
        simp [this]
    · simp [e]
theorem Rel.unmark {z p : Nat} {W : Nat → Nat} {L : List Int} {a : Int} (r : Rel z p W L) (hz : 11 ≤ z ∧ z ≤ 24) (hp : 4 ≤ p ∧ p ≤ 16) (ha : 0 ≤ a) (hw : ∀ i, i < z - 2 → W i < 4294967296) : Rel z p (unW z p W a) (L.filter fun x => !decide (x = a)) := by
  have ht := unmark_tot (W := W) (a := a) hz hp ha hw
  have hl := filter_len a r.nodup
  rw [r.live a ha] at ht
  have hr := r.tot
  refine ⟨fun x hx => ?_, r.nodup.filter _, ?_⟩
  · rw [live_un hp ha hx, r.live x hx, Bool.eq_iff_iff]; simp
  · by_cases e : a ∈ L
    · rw [if_pos e] at hl; rw [if_pos (by simpa using e)] at ht; omega
    · rw [if_neg e] at hl; rw [if_neg (by simpa using e)] at ht; omega
/- WHAT TURNS IT. -/
theorem rmark_ok {c q z p B : Nat} {L : List Int} (a : Int) (h : Heap) (r : RAt h c q z p B L) (hz : 11 ≤ z ∧ z ≤ 24) (hp : 4 ≤ p ∧ p ≤ 16) (ha : 0 ≤ a ∧ a < 4294967296) (hq : q < h.size) (hL : L.length ≤ 900) :
    CallsH Tryd.prog 10 [.pointer (some ⟨c, 0, none⟩), .int .u32 a] h fun v h' => v = .bool ((atF z p a).2.2 && !decide (a ∈ L)) ∧ RAt h' c q z p B (if ((atF z p a).2.2 && !decide (a ∈ L)) = true then L ++ [a] else L) ∧ Upd c h h' := by
  refine fun_ok hm' Tryd.func10 (by kernel_rfl) (F10_eq _ _ _ h) ?_
  unfold F10
  obtain ⟨⟨b, d, T, hb, ar, hg⟩, hne, hm⟩ := id r
  refine ⟨((z : Int), (p : Int), (B : Int)), ⟨by rw [add_mk, add_mk, cellH_blk hb]; rfl, by rw [add_mk, add_mk, cellH_blk hb]; rfl, by rw [add_mk, add_mk, cellH_blk hb]; rfl, trivial⟩, call_of (rat_ok z p B a h hz hp ha) ?_⟩
  rintro v h1 ⟨⟨i, j, rfl⟩, n1⟩
  refine ⟨(i, j, (atF z p a).2.2), rfl, cut_q (ts := []) (fun _ h' => h' = h1 ∧ (atF z p a).2.2 = true ∧ a ∉ L) ?_ ?_⟩
  rotate_left
  · intro K hK
    refine br_of (fun h2 => ?_) fun h2 => ?_
    · have h2 : (atF z p a).2.2 = false := by simpa using h2
      rw [h2]; exact ⟨rfl, r.new n1, n1.upd⟩
    · have h2 : (atF z p a).2.2 = true := by simpa using h2
      refine call_of (rlive_ok a h1 (r.new n1)) ?_
      rintro v h' ⟨rfl, hh⟩; subst h'
      refine ⟨decide (a ∈ L), rfl, br_of (fun h3 => ?_) fun h3 => hK () _ ⟨rfl, h2, of_decide_eq_false h3⟩⟩
      rw [h3, h2]; exact ⟨rfl, r.new n1, n1.upd⟩
  rintro _ h' ⟨hh, h2, h3⟩ _; subst h'
  have hok : ((atF z p a).2.2 && !decide (a ∈ L)) = true := by rw [h2, decide_eq_false h3]; rfl
  rw [if_pos hok, hok]
  refine new_of fun h4 b4 n4 s4 => ?_
  have n04 := n1.trans n4
  refine ld_of (c := .slice) (b, L.length, d) (by rw [add_mk, cellH_blk (hb.new n04)]; rfl) ?_
  refine Grow.ints ap38 (xs := []) (Grow.start (RowS.nil' h4 _ 1 (some ⟨h1.size, 0, none⟩))) (ar.new n04) rfl (by omega) (by omega) fun a5 c5 h5 g5 => ?_
  refine Grow.push ap38 (v := .int .u32 a) g5 rfl (by show L.length ≤ _; omega) (by omega) fun a6 c6 h6 g6 => ?_
  have e6 : (([] ++ L).map (Value.int .u32) ++ [Value.int .u32 a]) = (L ++ [a]).map (Value.int .u32) := by simp
  have l6 : ([] ++ L).length + 1 = (L ++ [a]).length := by simp
  rw [e6, l6] at g6
  rw [l6]
  have got := g6.got n4 (fun b e => by injection e with e; change h1.size = b at e; omega)
  have hsz := n1.size
  have hcl := hb.lt
  refine st_blk (o := 3) (hb.new (n1.trans got.new)) (by simp) fun h7 b7 o7 => ⟨rfl, ⟨⟨a6, c6, T, b7, got.ar.upd o7.upd ?_, fun hx g hg => ?_⟩, hne, by simp; omega⟩, (n1.trans got.new).upd.trans o7.upd⟩
  · intro e
    have := got.at_ (by simp) c e; omega
  · have := got.at_ hx g hg
    exact ⟨by omega, by omega⟩
theorem runmark_ok {c q z p B : Nat} {L : List Int} (a : Int) (h : Heap) (r : RAt h c q z p B L) (hq : q < h.size) :
    CallsH Tryd.prog 12 [.pointer (some ⟨c, 0, none⟩), .int .u32 a] h fun v h' => v = .bool (decide (a ∈ L)) ∧ RAt h' c q z p B (L.filter fun x => !decide (x = a)) ∧ Upd c h h' := by
  refine fun_ok hm' Tryd.func12 (by kernel_rfl) (F12_eq _ _ _ h) ?_
  unfold F12
  obtain ⟨⟨b, d, T, hb, ar, hg⟩, hne, hm⟩ := id r
  refine new_of fun h1 b1 n1 s1 => ?_
  have hr0 : ∀ b : Nat, blkOf (some (⟨h.size, 0, none⟩ : Addr)) = some b → h.size ≤ b := fun b e => by injection e with e; change h.size = b at e; omega
  refine ⟨fun (s : (Option Addr × Nat × Nat) × Int) h' => ∃ i : Nat, s.2 = i ∧ i ≤ L.length ∧ s.1.2.1 = ((L.take i).filter fun x => !decide (x = a)).length ∧ Grow h1 (blkOf (some (⟨h.size, 0, none⟩ : Addr))) h' 25 1 s.1.1 s.1.2.1 s.1.2.2 (((L.take i).filter fun x => !decide (x = a)).map (Value.int .u32)),
    fun (s : (Option Addr × Nat × Nat) × Int) _ => ((L.length : Int) - s.2).toNat, ⟨0, rfl, by omega, by simp, by simpa using Grow.start (RowS.nil' h1 _ 1 (some ⟨h.size, 0, none⟩))⟩, ?_⟩
  rintro ⟨⟨oa, on, oc⟩, s⟩ j h2 ⟨i, hs, hi, hon, g2⟩
  simp only [] at hs hon g2
  subst hs; subst hon
  have got2 := g2.got n1 hr0
  have c3 : cellH h2 (Addr.add ⟨c, 0, none⟩ 3) = some (.slice b L.length d) := by rw [add_mk, cellH_blk (hb.new got2.new)]; rfl
  have hfl : ((L.take i).filter fun x => !decide (x = a)).length ≤ L.length := Nat.le_trans (List.length_filter_le _ _) (by rw [List.length_take]; omega)
  refine ld_of (c := .slice) (b, L.length, d) c3 (br_of (fun hlt => ?_) (fun hlt => ?_))
  · have hlt : (i : Int) < (L.length : Int) := of_decide_eq_true hlt
    have hiL : i < L.length := by omega
    obtain ⟨g, o, rfl, hc⟩ := (ar.new got2.new).cell hiL
    have htk : L.take (i + 1) = L.take i ++ [L[i]] := (List.take_append_getElem hiL).symm
    refine ld_of (c := .slice) (some ⟨g, o, none⟩, L.length, d) c3 (Valid.ptr_of (ix_of' hiL (ld_of (c := .int .u32) L[i] (by rw [add_mk, Int.toNat_natCast, Nat.mul_one]; exact hc) (br_of (fun he => ?_) fun he => ?_))))
    · have he : L[i] ≠ a := by simpa using he
      refine ld_of (c := .slice) (some ⟨g, o, none⟩, L.length, d) c3 (Valid.ptr_of (ix_of' hiL (ld_of (c := .int .u32) L[i] (by rw [add_mk, Int.toNat_natCast, Nat.mul_one]; exact hc) ?_)))
      refine Grow.push ap38 (v := .int .u32 L[i]) g2 rfl (by omega) (by omega) fun a3 c3 h3 g3 => ?_
      rw [wr64 (by omega) (by omega)]
      have e3 : (L.take (i + 1)).filter (fun x => !decide (x = a)) = (L.take i).filter (fun x => !decide (x = a)) ++ [L[i]] := by rw [htk, List.filter_append]; simp [he]
      refine ⟨⟨i + 1, rfl, hiL, by rw [e3, List.length_append]; rfl, ?_⟩, (by first | omega | (dsimp only; omega) | (simp only []; omega))⟩
      rw [e3, List.map_append]; exact g3
    · have he : L[i] = a := by simpa using he
      rw [wr64 (by omega) (by omega)]
      have e3 : (L.take (i + 1)).filter (fun x => !decide (x = a)) = (L.take i).filter (fun x => !decide (x = a)) := by rw [htk, List.filter_append]; simp [he]
      refine ⟨⟨i + 1, rfl, hiL, by rw [e3], ?_⟩, (by first | omega | (dsimp only; omega) | (simp only []; omega))⟩
      rw [e3]; exact g2
  · have hlt : ¬ (i : Int) < (L.length : Int) := of_decide_eq_false hlt
    have : i = L.length := by omega
    subst this
    rw [List.take_length] at got2 hfl ⊢
    refine ld_of (c := .slice) (b, L.length, d) c3 ?_
    have hcl := hb.lt
    refine st_blk (o := 3) (hb.new got2.new) (by simp) fun h7 b7 o7 => ⟨?_, ⟨⟨oa, oc, T, b7, Ar.upd' got2.ar o7.upd ?_, fun hx g hg => ?_⟩, hne, by omega⟩, got2.new.upd.trans o7.upd⟩
    · congr 1
      rw [decide_eq_decide]
      constructor
      · intro hh
        have hh : ((L.filter fun x => !decide (x = a)).length : Int) < (L.length : Int) := hh
        have hh : (L.filter fun x => !decide (x = a)).length < L.length := by omega
        obtain ⟨x, hx, he⟩ := List.length_filter_lt_length_iff_exists.1 hh
        have : x = a := by simpa using he
        rw [← this]; exact hx
      · intro hh
        have : (L.filter fun x => !decide (x = a)).length < L.length := List.length_filter_lt_length_iff_exists.2 ⟨a, hh, by simp⟩
        show ((L.filter fun x => !decide (x = a)).length : Int) < (L.length : Int)
        omega
    · intro hx e
      have := got2.at_ hx c e; omega
    · have := got2.at_ hx g hg
      exact ⟨by omega, by omega⟩
end Go.Proofs.YticppjmldlhbiaaDoor.R11
