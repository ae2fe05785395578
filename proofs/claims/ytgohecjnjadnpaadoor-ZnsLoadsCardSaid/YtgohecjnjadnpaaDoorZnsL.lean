/-
  A device with pages: what the program and the reference make of them.
-/
import Derived.Test.YtgohecjnjadnpaaDoorL7A
namespace Go.Proofs.YtgohecjnjadnpaaDoor.ZnsL
open Go.Pl Go.Proofs.YtgohecjnjadnpaaDoor.W Go.Proofs.YtgohecjnjadnpaaDoor.Byts Go.Proofs.YtgohecjnjadnpaaDoor.As Go.Proofs.YtgohecjnjadnpaaDoor.Zns Go.Proofs.YtgohecjnjadnpaaDoor.L7A
/- WHAT IS MADE OF THEM. -/
/-- i zones are there, of the next one m pages. -/
def half (l : List (List (List Int))) (i m : Nat) : List Zn := l.mapIdx fun j x => if j < i then ⟨x, x.length, false⟩ else if j = i then ⟨x.take m, 0, false⟩ else Zn.bare
def devL (l : List (List (List Int))) (P i m : Nat) : Dev := ⟨half l i m, P, -1, 0, false⟩
def loaded (l : List (List (List Int))) (P : Nat) : Dev := ⟨l.map fun x => ⟨x, x.length, false⟩, P, -1, 0, false⟩
def okZ (P : Int) (z : List (List Int)) : Prop := (z.length : Int) ≤ P ∧ ∀ p ∈ z, p.length = 0 ∨ p.length = 33
def Good (l : List (List (List Int))) (P : Int) : Prop := ((1 ≤ (l.length : Int) ∧ (l.length : Int) ≤ 24) ∧ 1 ≤ P ∧ P ≤ 16) ∧ ∀ z ∈ l, okZ P z
theorem half_len (l : List (List (List Int))) (i m : Nat) : (half l i m).length = l.length := by simp [half]
theorem half_zero (l : List (List (List Int))) : half l 0 0 = List.replicate l.length Zn.bare := by
  apply List.ext_getElem?
  intro j
  simp only [half, List.getElem?_mapIdx, List.getElem?_replicate]
  cases hj : l[j]? with
  | none => rw [if_neg (by have := List.getElem?_eq_none_iff.1 hj; omega)]; rfl
  | some x =>
    rw [if_pos (List.getElem?_eq_some_iff.1 hj).1]
    simp only [Option.map_some]
    split
    · omega
    · split
      · rw [List.take_zero]; rfl
      · rfl
theorem half_at {l : List (List (List Int))} {i m : Nat} (hi : i < l.length) : (half l i m)[i]? = some ⟨l[i].take m, 0, false⟩ := by
  simp only [half, List.getElem?_mapIdx, List.getElem?_eq_getElem hi, Option.map_some]
  rw [if_neg (by omega)]; simp
theorem half_page {l : List (List (List Int))} {i m : Nat} (hi : i < l.length) (hm : m < l[i].length) : (half l i m).set i ⟨l[i].take m ++ [l[i][m]], 0, false⟩ = half l i (m + 1) := by
  apply List.ext_getElem?
  intro j
  by_cases hj : i = j
  · subst hj
    rw [List.getElem?_set_self (by rw [half_len]; exact hi), half_at hi, List.take_append_getElem hm]
  · rw [List.getElem?_set_ne hj]
    simp only [half, List.getElem?_mapIdx]
    cases l[j]? with
    | none => rfl
    | some x => simp only [Option.map_some]; rw [if_neg (c := j = i) (by omega), if_neg (c := j = i) (by omega)]
theorem half_zone {l : List (List (List Int))} {i : Nat} (hi : i < l.length) : (half l i l[i].length).set i ⟨l[i].take l[i].length, l[i].length, false⟩ = half l (i + 1) 0 := by
  apply List.ext_getElem?
  intro j
  by_cases hj : i = j
  · subst hj
    rw [List.getElem?_set_self (by rw [half_len]; exact hi)]
    simp only [half, List.getElem?_mapIdx, List.getElem?_eq_getElem hi, Option.map_some]
    rw [if_pos (by omega), List.take_length]
  · rw [List.getElem?_set_ne hj]
    simp only [half, List.getElem?_mapIdx]
    cases l[j]? with
    | none => rfl
    | some x =>
      simp only [Option.map_some]
      congr 1
      by_cases h1 : j < i
      · rw [if_pos h1, if_pos (by omega)]
      · rw [if_neg h1, if_neg (by omega), if_neg (by omega)]
        split
        · rfl
        · rfl
theorem half_all (l : List (List (List Int))) : half l l.length 0 = l.map fun x => ⟨x, x.length, false⟩ := by
  apply List.ext_getElem?
  intro j
  simp only [half, List.getElem?_mapIdx, List.getElem?_map]
  cases hj : l[j]? with
  | none => rfl
  | some x => simp only [Option.map_some]; rw [if_pos (List.getElem?_eq_some_iff.1 hj).1]
theorem Zn_bare : Zn.bare = ⟨[], 0, false⟩ := rfl
theorem loaded_ok {l : List (List (List Int))} {P : Nat} (g : Good l P) (hb : ∀ z ∈ l, ∀ p ∈ z, Byt p) : DevOk (loaded l P) := by
  obtain ⟨⟨h1, h2⟩, h3⟩ := g
  refine ⟨by simp only [loaded, List.length_map]; omega, by simp only [loaded]; omega, ⟨by simp [loaded], by simp [loaded]⟩, fun Z hZ => ?_⟩
  simp only [loaded, List.mem_map] at hZ
  obtain ⟨z, hz, rfl⟩ := hZ
  obtain ⟨h4, h5⟩ := h3 z hz
  refine ⟨Nat.le_refl _, by simp only [loaded]; omega, fun p hp => ⟨hb z hz p hp, ?_⟩⟩
  rcases h5 p hp with h6 | h6
  · exact .inr (List.eq_nil_of_length_eq_zero h6)
  · exact .inl h6
/- WHAT CAME IN. -/
theorem zone_ld {h0 : Heap} {a : Option Addr} {l : List (List (List Int))} (r : SlAt h0 (.slice (.slice (.int .u8))) a l) {i : Nat} (hi : i < l.length) : ∃ a1 c1, SlAt h0 (.slice (.int .u8)) a1 l[i] ∧
    ∀ {h : Heap}, New h0 h → ∀ {m : Nat} {F : Option Addr × Nat × Nat → Prop}, i < m → F (a1, l[i].length, c1) → ptrW a (fun p => idxW (i : Int) m true (ldW .slice (Addr.add p (Int.toNat (i : Int) * 1)) F h)) := by
  obtain ⟨b, o, es, rfl, hb, hl, hc, re⟩ := r i _ (List.getElem?_eq_getElem hi)
  obtain ⟨a1, c1, rfl, _, _, _, sl⟩ := re
  refine ⟨a1, c1, sl, fun n _ _ hm hF => ⟨⟨by omega, rfl⟩, ld_of (c := .slice) (a1, l[i].length, c1) ?_ hF⟩⟩
  have := hc 0 Nat.one_pos
  rw [Int.toNat_natCast, add_mk, cellH_same (n.same b hb), Nat.mul_one]
  simp [Sh.n] at this
  exact this
theorem page_ld {h0 : Heap} {a : Option Addr} {l : List (List Int)} (r : SlAt h0 (.slice (.int .u8)) a l) {i : Nat} (hi : i < l.length) : ∃ a1 c1, Ar .u8 h0 a1 l[i] ∧ Byt l[i] ∧
    ∀ {h : Heap}, New h0 h → ∀ {m : Nat} {F : Option Addr × Nat × Nat → Prop}, i < m → F (a1, l[i].length, c1) → ptrW a (fun p => idxW (i : Int) m true (ldW .slice (Addr.add p (Int.toNat (i : Int) * 1)) F h)) := by
  obtain ⟨b, o, es, rfl, hb, hl, hc, re⟩ := r i _ (List.getElem?_eq_getElem hi)
  obtain ⟨a1, c1, rfl, ar, wf⟩ := ints_in (l := l[i]) re
  refine ⟨a1, c1, ar, Byt.wf wf, fun n _ _ hm hF => ⟨⟨by omega, rfl⟩, ld_of (c := .slice) (a1, l[i].length, c1) ?_ hF⟩⟩
  have := hc 0 Nat.one_pos
  rw [Int.toNat_natCast, add_mk, cellH_same (n.same b hb), Nat.mul_one]
  simp [Sh.n] at this
  exact this
theorem byts_in {h0 : Heap} {a : Option Addr} {l : List (List (List Int))} (r : SlAt h0 (.slice (.slice (.int .u8))) a l) : ∀ z ∈ l, ∀ p ∈ z, Byt p := fun z hz p hp => by
  obtain ⟨i, hi, rfl⟩ := List.getElem_of_mem hz
  obtain ⟨a1, c1, sl, _⟩ := zone_ld r hi
  obtain ⟨j, hj, rfl⟩ := List.getElem_of_mem hp
  obtain ⟨_, _, _, hb, _⟩ := page_ld sl hj
  exact hb
/- TAGS TOLD ANEW. -/
theorem PRow.retag {k z : Nat} {t t' : Tags} {h : Heap} {a : Option Addr} {c : Nat} {pages : List (List Int)} (r : PRow k z t h a c pages) (hr : ∀ g, (t g).1 = 0 ∨ (t g).1 = k → t' g = t g) : PRow k z t' h a c pages := by
  obtain ⟨⟨vs, h1, hv⟩, ht⟩ := r
  refine ⟨⟨vs, h1, fun i p hp => ?_⟩, fun g hg => ⟨(ht g hg).1, by rw [hr g (.inr (by rw [(ht g hg).2]))]; exact (ht g hg).2⟩⟩
  obtain ⟨a', c', e, im⟩ := hv i p hp
  exact ⟨a', c', e, im.ar, fun hx g hg => by rw [hr g (.inl (im.im hx g hg))]; exact im.im hx g hg⟩
theorem DRep.retag {L : Lo} {k b : Nat} {t t' : Tags} {h : Heap} {D : Dev} (r : DRep L k t h b D) (hr : ∀ g, (t g).1 = 0 ∨ (t g).1 = k → t' g = t g) : DRep L k t' h b D := by
  obtain ⟨za, c, arr, r⟩ := r
  refine ⟨za, c, arr, r.own, r.blk, by rw [hr b (.inr (by rw [r.tagB]))]; exact r.tagB, r.zblk, by rw [hr za (.inr (by rw [r.tagZ]))]; exact r.tagZ, r.size, r.le, r.max, fun z Z hz => ?_⟩
  obtain ⟨a, d, h1, h2⟩ := r.zone z Z hz
  exact ⟨a, d, h1, PRow.retag h2 hr⟩
/- THE PROGRAM'S. -/
theorem PD.pages {k b za c z : Nat} {t t2 : Tags} {h h2 h3 : Heap} {arr : Array Value} {D : Dev} (r : DR LoP k t h b za c arr D) (hz : z < D.zs.length) (f : Fr (fun q => q ≠ (k, 2 + z)) t h t2 h2) {a2 : Option Addr} {c2 : Nat} {pages : List (List Int)} (hp : PRow k z t2 h2 a2 c2 pages)
    (hb : Blk h3 za (arr.setIfInBounds (z * 3 + 2) (.slice a2 pages.length c2)) 140) (o : Only za h2 h3) :
    DR LoP k t2 h3 b za c (arr.setIfInBounds (z * 3 + 2) (.slice a2 pages.length c2)) { D with zs := D.zs.set z { D.zs[z] with pages := pages } } ∧ Fr (fun p => p.1 ≠ k) t h t2 h3 := by
  obtain ⟨a, d, _, c0, c1, c2'⟩ := r.zP hz
  have hk := r.own
  have hsz := r.size; have hle := r.le
  have hS : ∀ q : Nat × Nat, q.1 = 0 → q ≠ (k, 1) := fun q hq e => by subst e; exact hk hq
  have hS2 : ∀ q : Nat × Nat, q.1 = 0 → q ≠ (k, 2 + z) := fun q hq e => by subst e; exact hk hq
  have f2 : Fr (fun q => q ≠ (k, 1)) t2 h2 t2 h3 := Fr.upd o.upd fun hn => hn (by rw [f.tags za r.zblk.lt]; exact r.tagZ)
  have f3 : Fr (fun q => q ≠ (k, 1) ∧ q ≠ (k, 2 + z)) t h t2 h3 := (f.mono fun _ hq => hq.2).trans (f2.mono fun _ hq => hq.1)
  obtain ⟨q1, q2, q3, q4⟩ := set3 (arr := arr) (z := z) (o := 2) (n := z * 3 + 2) (v := .slice a2 pages.length c2) (by omega) (by omega) rfl
  refine ⟨r.put (Z := { D.zs[z] with pages := pages }) f3 (fun q hq => ⟨hS q hq, hS2 q hq⟩) ⟨tagne (by omega), tagne (by omega)⟩ (fun j hj => ⟨tagne (by omega), tagne (by omega)⟩) hb q1 q2 ⟨a2, c2, fun j hj => ?_, hp.fr f2 hS (tagne (by omega))⟩, f3.mono fun q hq => ⟨fun e => hq (by rw [e]), fun e => hq (by rw [e])⟩⟩
  match j, hj with
  | 0, _ => rw [q4 0 (by omega) (by omega)]; exact c0
  | 1, _ => rw [q4 1 (by omega) (by omega)]; exact c1
  | 2, _ => exact q3
/-- A new device: what was there stays. -/
def NewDev' (L : Lo) (k : Nat) (t : Tags) (h : Heap) (b : Nat) (D : Dev) (h' : Heap) : Prop := New h h' ∧ ∃ t', (∀ g, g < h.size → t' g = t g) ∧ DRep L k t' h' b D
def LoadP (L : Lo) (e0 : Value) (e1 : Value) (k : Nat) (t : Tags) (h : Heap) (l : List (List (List Int))) (P : Int) (v : Value) (h' : Heap) : Prop :=
  (v = .tuple #[.pointer none, e1] ∧ ¬ Good l P ∧ New h h') ∨ ∃ b, v = .tuple #[ptr b, e0] ∧ Good l P ∧ NewDev' L k t h b (loaded l P.toNat) h'
theorem takes_succ {α : Type} {q : α → Prop} {l : List α} {i : Nat} (hi : i < l.length) (h : ∀ x ∈ l.take i, q x) (hx : q l[i]) : ∀ x ∈ l.take (i + 1), q x := fun x hm => by
  rw [← List.take_append_getElem hi] at hm
  rcases List.mem_append.1 hm with hm | hm
  · exact h x hm
  · obtain rfl := List.mem_singleton.1 hm; exact hx
theorem load_ok {k : Nat} (hk : k ≠ 0) {t : Tags} {h0 h : Heap} (bs : Bs h0 t h) (hf : ∀ g, g < h.size → (t g).1 ≠ k) (P : Int) (a : Option Addr) (c : Nat) (l : List (List (List Int))) (sl : SlAt h0 (.slice (.slice (.int .u8))) a l) (hl : l.length ≤ 30) (hs : ∀ z ∈ l, z.length ≤ 30 ∧ ∀ p ∈ z, p.length ≤ 100) :
    CallsH Tryd.prog 40 [.int .i64 P, .slice a l.length c] h (LoadP LoP (errV 0) (errV 1) k t h l P) := by
  refine fun_ok hm' Tryd.func40 (by kernel_rfl) (F40_eq _ _ _ _ _ h) ?_
  unfold F40
  by_cases hn : ¬ ((1 ≤ (l.length : Int) ∧ (l.length : Int) ≤ 24) ∧ 1 ≤ P ∧ P ≤ 16)
  · refine call_of (ZnsP.new_no (l.length : Int) P h hn) ?_
    rintro v h' ⟨rfl, hh⟩; subst h'
    exact ⟨(none, errV 1), rfl, errV_if 1, br_t rfl (.inl ⟨rfl, fun g => hn g.1, New.refl h⟩)⟩
  have hn := Classical.not_not.1 hn
  obtain ⟨pp, rfl⟩ := Int.eq_ofNat_of_zero_le (show 0 ≤ P by omega)
  refine call_of (ZnsP.new_ok k hk t l.length pp h (by omega) (by omega)) ?_
  rintro v h1 ⟨b, rfl, n1, hb, t1, ht1, r1⟩
  have hD0 : Dev.empty l.length pp = devL l pp 0 0 := by unfold Dev.empty devL; rw [half_zero]
  rw [hD0] at r1
  obtain ⟨za, d, arr, r1⟩ := r1
  have nw : ∀ {t' : Tags} {h' : Heap}, Fr (fun q => q.1 ≠ k) t1 h1 t' h' → New h h' := fun f => f.new n1 fun g hg => by rw [ht1 g hg]; exact hf g hg
  have bs1 := bs.tags n1 ht1
  refine ⟨(some ⟨b, 0, none⟩, errV 0), rfl, errV_if 0, br_f rfl ?_⟩
  refine ⟨fun (s : Int) h' => ∃ (i : Nat) (t' : Tags) (arr' : Array Value), s = i ∧ i ≤ l.length ∧ (∀ z ∈ l.take i, okZ pp z) ∧ DR LoP k t' h' b za d arr' (devL l pp i 0) ∧ Fr (fun q => q.1 ≠ k) t1 h1 t' h', fun (s : Int) _ => ((l.length : Int) - s).toNat, ⟨0, t1, arr, rfl, Nat.zero_le _, by simp, r1, Fr.refl _ _ _⟩, ?_⟩
  rintro s j h2 ⟨i, t2, arr2, rfl, hi, hall, r2, f2⟩
  refine br_of (fun hlt => ?_) (fun hlt => ?_)
  rotate_left
  · have hie : i = l.length := by have := of_decide_eq_false hlt; omega
    subst hie
    rw [List.take_length] at hall
    refine .inr ⟨b, rfl, ⟨hn, hall⟩, nw f2, ?_⟩
    have : devL l pp l.length 0 = loaded l pp := by unfold devL loaded; rw [half_all]
    rw [this] at r2
    exact ⟨t2, fun g hg => by rw [f2.tags g (Nat.lt_of_lt_of_le hg n1.size), ht1 g hg], za, d, arr2, r2⟩
  have hlt : i < l.length := by have := of_decide_eq_true hlt; omega
  have bs2 := bs1.own hk f2
  obtain ⟨a1, c1, sl1, ld1⟩ := zone_ld sl hlt
  refine ld1 bs2.new hlt (br_of (fun hg => .inl ⟨rfl, fun g => ?_, nw f2⟩) fun hg => ?_)
  · have := (g.2 _ (List.getElem_mem hlt)).1; have hg : (l[i].length : Int) > pp := of_decide_eq_true hg; omega
  have hg : ¬ (l[i].length : Int) > pp := of_decide_eq_false hg
  have hg : (l[i].length : Int) ≤ pp := by omega
  have hsz := hs _ (List.getElem_mem hlt)
  refine ⟨fun (s : Int) h' => ∃ (m : Nat) (t' : Tags) (arr' : Array Value), s = m ∧ m ≤ l[i].length ∧ (∀ p ∈ l[i].take m, p.length = 0 ∨ p.length = 33) ∧ DR LoP k t' h' b za d arr' (devL l pp i m) ∧ Fr (fun q => q.1 ≠ k) t1 h1 t' h', fun (s : Int) _ => ((l[i].length : Int) - s).toNat, ⟨0, t2, arr2, rfl, Nat.zero_le _, by simp, r2, f2⟩, ?_⟩
  rintro s j2 h3 ⟨m, t3, arr3, rfl, hm, hall3, r3, f3⟩
  have bs3 := bs1.own hk f3
  have hz3 : i < (devL l pp i m).zs.length := by show i < (half l i m).length; rw [half_len]; exact hlt
  have eZ : (devL l pp i m).zs[i] = ⟨l[i].take m, 0, false⟩ := by
    have := half_at (m := m) hlt
    rw [List.getElem?_eq_getElem (by rw [half_len]; exact hlt)] at this
    exact Option.some.inj this
  have hsz3 := r3.size; have hle3 := r3.le
  refine br_of (fun hlt2 => ?_) (fun hlt2 => ?_)
  rotate_left
  · have hlt2 : ¬ (m : Int) < (l[i].length : Int) := of_decide_eq_false hlt2
    have hme : m = l[i].length := by omega
    subst hme
    refine ptr_of (ld_of (c := .slice) (some ⟨za, 0, none⟩, (devL l pp i l[i].length).zs.length, d) r3.cz (ptr_of (ix_of hz3 ?_)))
    rw [add_mk, add_mk, add_mk, Int.toNat_natCast, Nat.zero_add, Nat.add_zero]
    refine st_blk r3.zblk (by omega) fun h4 b4 o4 => ?_
    have r4 := ZnsP.PD.setSure r3 hz3 l[i].length b4 o4
    rw [wr64 (by omega) (by omega)]
    have e : { devL l pp i l[i].length with zs := (devL l pp i l[i].length).zs.set i { (devL l pp i l[i].length).zs[i] with sure := l[i].length } } = devL l pp (i + 1) 0 := by
      rw [eZ]; unfold devL; simp only [half_zone hlt]
    rw [e] at r4
    exact ⟨⟨i + 1, t3, _, rfl, hlt, takes_succ hlt hall ⟨hg, by rw [List.take_length] at hall3; exact hall3⟩, r4, f3.trans (Fr.upd o4.upd fun hn => hn (by rw [r3.tagZ]))⟩, (by first | omega | (dsimp only; omega) | (simp only []; omega))⟩
  have hlt2 : (m : Int) < (l[i].length : Int) := of_decide_eq_true hlt2
  have hlt2 : m < l[i].length := by omega
  obtain ⟨a2, c2, ar2, _, ld2⟩ := page_ld sl1 hlt2
  refine ld2 bs3.new hlt2 (cut_q (ts := []) (fun _ h' => h' = h3 ∧ (l[i][m].length = 0 ∨ l[i][m].length = 33)) ?_ ?_)
  rotate_left
  · intro K hK
    refine br_of (fun h0 => br_of (fun h33 => .inl ⟨rfl, fun g => ?_, nw f3⟩) fun h33 => hK () _ ⟨rfl, .inr ?_⟩) fun h0 => hK () _ ⟨rfl, .inl ?_⟩
    · have := (g.2 _ (List.getElem_mem hlt)).2 _ (List.getElem_mem hlt2)
      simp only [bne_iff_ne, ne_eq] at h0 h33
      omega
    · have : ((l[i][m].length : Nat) : Int) = 33 := by simpa using h33
      omega
    · have : ((l[i][m].length : Nat) : Int) = 0 := by simpa using h0
      omega
  rintro _ h' ⟨hh, hp33⟩ _; subst h'
  obtain ⟨a3, d3, hp, _, _, e2⟩ := r3.zP hz3
  rw [eZ] at hp e2
  have hpl : (l[i].take m).length = m := by rw [List.length_take]; omega
  refine ptr_of (ld_of (c := .slice) (some ⟨za, 0, none⟩, (devL l pp i m).zs.length, d) r3.cz (ptr_of (ld_of (c := .slice) (some ⟨za, 0, none⟩, (devL l pp i m).zs.length, d) r3.cz (ptr_of (ix_of hz3 ?_)))))
  refine ld_of (c := .slice) (a3, (l[i].take m).length, d3) (by rw [add_mk, add_mk, Int.toNat_natCast]; exact r3.cell e2 _ (by omega)) (call_of (Head.clone_ok a2 c2 l[i][m] _ rfl h3 (ar2.new bs3.new) (by omega)) ?_)
  rintro v h4 ⟨a4, k4, rfl, g4⟩
  refine ⟨(a4, l[i][m].length, k4), rfl, ?_, g4.new.ext⟩
  have r4 : DR LoP k (lay t3 h3.size (0, 0)) h4 b za d arr3 (devL l pp i m) := r3.fr (S := fun _ => True) (Fr.lay g4.new _) (fun _ _ => trivial) fun _ => trivial
  have hp4 : PRow k i (lay t3 h3.size (0, 0)) h4 a3 d3 (l[i].take m) := hp.fr (S := fun _ => True) (Fr.lay g4.new _) (fun _ _ => trivial) trivial
  have im4 : Im .u8 (lay t3 h3.size (0, 0)) h4 a4 l[i][m] := Im.got g4 (0, 0) rfl
  have f4 : Fr (fun q => q.1 ≠ k) t1 h1 (lay t3 h3.size (0, 0)) h4 := f3.trans (Fr.lay g4.new _)
  generalize lay t3 h3.size (0, 0) = t4 at r4 hp4 im4 f4
  refine PRow.push hp4 hk im4 (by omega) fun a5 c5 h5 t5 f5 hp5 => ?_
  have bD := f5.blk r4.blk (by rw [r4.tagB]; exact tagne (by omega))
  have bZ := f5.blk r4.zblk (by rw [r4.tagZ]; exact tagne (by omega))
  refine ⟨by rw [add_mk, cellH_blk bD]; rfl, ptr_of (ix_of hz3 ?_)⟩
  rw [add_mk, add_mk, Int.toNat_natCast, Nat.zero_add]
  have hlen : (l[i].take m ++ [l[i][m]]).length = (l[i].take m).length + 1 := by rw [List.length_append]; rfl
  refine st_blk bZ (by omega) fun h6 b6 o6 => ?_
  rw [← hlen] at b6
  obtain ⟨r6, f6⟩ := PD.pages r4 hz3 f5 hp5 b6 o6
  rw [wr64 (by omega) (by omega)]
  have e : { devL l pp i m with zs := (devL l pp i m).zs.set i { (devL l pp i m).zs[i] with pages := l[i].take m ++ [l[i][m]] } } = devL l pp i (m + 1) := by
    rw [eZ]; unfold devL; simp only [half_page hlt hlt2]
  rw [e] at r6
  exact ⟨⟨m + 1, t5, _, rfl, hlt2, takes_succ hlt2 hall3 hp33, r6, f4.trans f6⟩, (by first | omega | (dsimp only; omega) | (simp only []; omega))⟩
/- THE REFERENCE'S. -/
theorem loadR_ok {k : Nat} (hk : k ≠ 0) {t : Tags} {h0 h : Heap} (bs : Bs h0 t h) (hf : ∀ g, g < h.size → (t g).1 ≠ k) (P : Int) (a : Option Addr) (c : Nat) (l : List (List (List Int))) (sl : SlAt h0 (.slice (.slice (.int .u8))) a l) (hl : l.length ≤ 30) (hs : ∀ z ∈ l, z.length ≤ 30 ∧ ∀ p ∈ z, p.length ≤ 100) :
    CallsH Tryd.prog 41 [.int .i64 P, .slice a l.length c] h (LoadP LoR (.int .i64 0) (.int .i64 1) k t h l P) := by
  refine fun_ok hm' Tryd.func41 (by kernel_rfl) (F41_eq _ _ _ _ _ h) ?_
  unfold F41
  by_cases hn : ¬ ((1 ≤ (l.length : Int) ∧ (l.length : Int) ≤ 24) ∧ 1 ≤ P ∧ P ≤ 16)
  · refine call_of (ZnsR.new_no (l.length : Int) P h hn) ?_
    rintro v h' ⟨rfl, hh⟩; subst h'
    exact ⟨(none, (1 : Int)), rfl, br_t rfl (.inl ⟨rfl, fun g => hn g.1, New.refl h⟩)⟩
  have hn := Classical.not_not.1 hn
  obtain ⟨pp, rfl⟩ := Int.eq_ofNat_of_zero_le (show 0 ≤ P by omega)
  refine call_of (ZnsR.new_ok k hk t l.length pp h (by omega) (by omega)) ?_
  rintro v h1 ⟨b, rfl, n1, hb, t1, ht1, r1⟩
  have hD0 : Dev.empty l.length pp = devL l pp 0 0 := by unfold Dev.empty devL; rw [half_zero]
  rw [hD0] at r1
  obtain ⟨za, d, arr, r1⟩ := r1
  have nw : ∀ {t' : Tags} {h' : Heap}, Fr (fun q => q.1 ≠ k) t1 h1 t' h' → New h h' := fun f => f.new n1 fun g hg => by rw [ht1 g hg]; exact hf g hg
  have bs1 := bs.tags n1 ht1
  refine ⟨(some ⟨b, 0, none⟩, (0 : Int)), rfl, br_f rfl ?_⟩
  refine ⟨fun (s : Int) h' => ∃ (i : Nat) (t' : Tags) (arr' : Array Value), s = i ∧ i ≤ l.length ∧ (∀ z ∈ l.take i, okZ pp z) ∧ DR LoR k t' h' b za d arr' (devL l pp i 0) ∧ Fr (fun q => q.1 ≠ k) t1 h1 t' h', fun (s : Int) _ => ((l.length : Int) - s).toNat, ⟨0, t1, arr, rfl, Nat.zero_le _, by simp, r1, Fr.refl _ _ _⟩, ?_⟩
  rintro s j h2 ⟨i, t2, arr2, rfl, hi, hall, r2, f2⟩
  refine br_of (fun hlt => ?_) (fun hlt => ?_)
  rotate_left
  · have hie : i = l.length := by have := of_decide_eq_false hlt; omega
    subst hie
    rw [List.take_length] at hall
    refine .inr ⟨b, rfl, ⟨hn, hall⟩, nw f2, ?_⟩
    have : devL l pp l.length 0 = loaded l pp := by unfold devL loaded; rw [half_all]
    rw [this] at r2
    exact ⟨t2, fun g hg => by rw [f2.tags g (Nat.lt_of_lt_of_le hg n1.size), ht1 g hg], za, d, arr2, r2⟩
  have hlt : i < l.length := by have := of_decide_eq_true hlt; omega
  have bs2 := bs1.own hk f2
  obtain ⟨a1, c1, sl1, ld1⟩ := zone_ld sl hlt
  refine ld1 bs2.new hlt (br_of (fun hg => .inl ⟨rfl, fun g => ?_, nw f2⟩) fun hg => ?_)
  · have := (g.2 _ (List.getElem_mem hlt)).1; have hg : (l[i].length : Int) > pp := of_decide_eq_true hg; omega
  have hg : ¬ (l[i].length : Int) > pp := of_decide_eq_false hg
  have hg : (l[i].length : Int) ≤ pp := by omega
  have hsz := hs _ (List.getElem_mem hlt)
  refine ⟨fun (s : Int) h' => ∃ (m : Nat) (t' : Tags) (arr' : Array Value), s = m ∧ m ≤ l[i].length ∧ (∀ p ∈ l[i].take m, p.length = 0 ∨ p.length = 33) ∧ DR LoR k t' h' b za d arr' (devL l pp i m) ∧ Fr (fun q => q.1 ≠ k) t1 h1 t' h', fun (s : Int) _ => ((l[i].length : Int) - s).toNat, ⟨0, t2, arr2, rfl, Nat.zero_le _, by simp, r2, f2⟩, ?_⟩
  rintro s j2 h3 ⟨m, t3, arr3, rfl, hm, hall3, r3, f3⟩
  have bs3 := bs1.own hk f3
  have hz3 : i < (devL l pp i m).zs.length := by show i < (half l i m).length; rw [half_len]; exact hlt
  have eZ : (devL l pp i m).zs[i] = ⟨l[i].take m, 0, false⟩ := by
    have := half_at (m := m) hlt
    rw [List.getElem?_eq_getElem (by rw [half_len]; exact hlt)] at this
    exact Option.some.inj this
  have hsz3 := r3.size; have hle3 := r3.le
  refine ld1 bs3.new hlt (br_of (fun hlt2 => ?_) (fun hlt2 => ?_))
  rotate_left
  · have hlt2 : ¬ (m : Int) < (l[i].length : Int) := of_decide_eq_false hlt2
    have hme : m = l[i].length := by omega
    subst hme
    refine ptr_of (ld_of (c := .slice) (some ⟨za, 0, none⟩, (devL l pp i l[i].length).zs.length, d) r3.cz (ld1 bs3.new hlt (ptr_of (ix_of hz3 ?_))))
    rw [add_mk, add_mk, Int.toNat_natCast, Nat.zero_add]
    refine st_blk r3.zblk (by omega) fun h4 b4 o4 => ?_
    have r4 := ZnsR.RD.setSure r3 hz3 l[i].length b4 o4
    rw [wr64 (by omega) (by omega)]
    have e : { devL l pp i l[i].length with zs := (devL l pp i l[i].length).zs.set i { (devL l pp i l[i].length).zs[i] with sure := l[i].length } } = devL l pp (i + 1) 0 := by
      rw [eZ]; unfold devL; simp only [half_zone hlt]
    rw [e] at r4
    exact ⟨⟨i + 1, t3, _, rfl, hlt, takes_succ hlt hall ⟨hg, by rw [List.take_length] at hall3; exact hall3⟩, r4, f3.trans (Fr.upd o4.upd fun hn => hn (by rw [r3.tagZ]))⟩, (by first | omega | (dsimp only; omega) | (simp only []; omega))⟩
  have hlt2 : (m : Int) < (l[i].length : Int) := of_decide_eq_true hlt2
  have hlt2 : m < l[i].length := by omega
  obtain ⟨a2, c2, ar2, _, ld2⟩ := page_ld sl1 hlt2
  refine (cut_q (ts := []) (fun _ h' => h' = h3 ∧ (l[i][m].length = 0 ∨ l[i][m].length = 33)) ?_ ?_)
  rotate_left
  · intro K hK
    refine ld1 bs3.new hlt (ld2 bs3.new hlt2 (br_of (fun h0 => ld1 bs3.new hlt (ld2 bs3.new hlt2 (br_of (fun h33 => .inl ⟨rfl, fun g => ?_, nw f3⟩) fun h33 => hK () _ ⟨rfl, .inr ?_⟩))) fun h0 => hK () _ ⟨rfl, .inl ?_⟩))
    · have := (g.2 _ (List.getElem_mem hlt)).2 _ (List.getElem_mem hlt2)
      simp only [bne_iff_ne, ne_eq] at h0 h33
      omega
    · have : ((l[i][m].length : Nat) : Int) = 33 := by simpa using h33
      omega
    · have : ((l[i][m].length : Nat) : Int) = 0 := by simpa using h0
      omega
  rintro _ h' ⟨hh, hp33⟩ _; subst h'
  obtain ⟨a3, d3, hp, e0, _, _, _, _, _⟩ := ZnsR.RD.at0 r3 hz3
  rw [eZ] at hp e0
  have hpl : (l[i].take m).length = m := by rw [List.length_take]; omega
  have im3 : Im .u8 t3 h3 a2 l[i][m] := bs3.im ar2
  have hl100 := hsz.2 _ (List.getElem_mem hlt2)
  refine ptr_of (ld_of (c := .slice) (some ⟨za, 0, none⟩, (devL l pp i m).zs.length, d) r3.cz (ptr_of (ld_of (c := .slice) (some ⟨za, 0, none⟩, (devL l pp i m).zs.length, d) r3.cz (ptr_of (ix_of hz3 ?_)))))
  refine ld_of (c := .slice) (a3, (l[i].take m).length, d3) e0 (ld1 bs3.new hlt (ld2 bs3.new hlt2 (new_of fun h4 b4 n4 s4 => ?_)))
  refine bytes_copy rfl (im3.new n4) (by omega) fun a5 c5 h5 im5 n5 => ?_
  have n35 := n4.trans n5
  have r5 : DR LoR k (lay t3 h4.size (0, 0)) h5 b za d arr3 (devL l pp i m) := (r3.new n4).fr (S := fun _ => True) (Fr.lay n5 _) (fun _ _ => trivial) fun _ => trivial
  have hp5 : PRow k i (lay t3 h4.size (0, 0)) h5 a3 d3 (l[i].take m) := (hp.fr (S := fun _ => True) (Fr.new0 n4) (fun _ _ => trivial) trivial).fr (S := fun _ => True) (Fr.lay n5 _) (fun _ _ => trivial) trivial
  have f5 : Fr (fun q => q.1 ≠ k) t1 h1 (lay t3 h4.size (0, 0)) h5 := (f3.trans (Fr.new0 n4)).trans (Fr.lay n5 _)
  have ez5 : cellH h5 (((⟨za, 0, none⟩ : Addr).add (Int.toNat (i : Int) * 3)).add 0) = some (.slice a3 (l[i].take m).length d3) := by
    rw [add_mk, add_mk] at e0 ⊢
    rw [cellH_same (n35.same za r3.zblk.lt)]; exact e0
  generalize lay t3 h4.size (0, 0) = t5 at r5 hp5 im5 f5
  refine ⟨ez5, r5.cz, r5.cz, PRow.push hp5 hk im5 (by omega) fun a6 c6 h6 t6 f6 hp6 => ?_⟩
  have bD := f6.blk r5.blk (by rw [r5.tagB]; exact tagne (by omega))
  have bZ := f6.blk r5.zblk (by rw [r5.tagZ]; exact tagne (by omega))
  have cz6 : cellH h6 ((⟨b, 0, none⟩ : Addr).add 0) = some (.slice (some ⟨za, 0, none⟩) (devL l pp i m).zs.length d) := by rw [add_mk, cellH_blk bD]; rfl
  refine ⟨cz6, cz6, ptr_of (ix_of hz3 ?_)⟩
  rw [add_mk, add_mk, Int.toNat_natCast, Nat.zero_add, Nat.add_zero]
  have hlen : (l[i].take m ++ [l[i][m]]).length = (l[i].take m).length + 1 := by rw [List.length_append]; rfl
  refine st_blk bZ (by omega) fun h7 b7 o7 => ?_
  rw [← hlen] at b7
  obtain ⟨r7, f7⟩ := ZnsR.RD.pages r5 hz3 f6 hp6 b7 o7
  rw [wr64 (by omega) (by omega)]
  have e : { devL l pp i m with zs := (devL l pp i m).zs.set i { (devL l pp i m).zs[i] with pages := l[i].take m ++ [l[i][m]] } } = devL l pp i (m + 1) := by
    rw [eZ]; unfold devL; simp only [half_page hlt hlt2]
  rw [e] at r7
  exact ⟨⟨m + 1, t6, _, rfl, hlt2, takes_succ hlt2 hall3 hp33, r7, f5.trans f7⟩, (by first | omega | (dsimp only; omega) | (simp only []; omega))⟩
end Go.Proofs.YtgohecjnjadnpaaDoor.ZnsL
