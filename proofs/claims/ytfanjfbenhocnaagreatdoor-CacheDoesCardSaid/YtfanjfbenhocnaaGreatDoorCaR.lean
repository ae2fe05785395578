/-
  Reference 10: how it lies; its contracts, but those that go through all entries.
-/
import Derived.Test.YtfanjfbenhocnaaGreatDoorCaQ
import Derived.Test.YtfanjfbenhocnaaGreatDoorR8M
import Derived.Test.YtfanjfbenhocnaaGreatDoorWR10
import Derived.Test.YtfanjfbenhocnaaGreatDoorCat
namespace Go.Proofs.YtfanjfbenhocnaaGreatDoor.Ca
open Go.Pl Go.Pl.Lru Go.Pl.Ix Go.Proofs.YtfanjfbenhocnaaGreatDoor.W Go.Proofs.YtfanjfbenhocnaaGreatDoor.Lru Go.Proofs.YtfanjfbenhocnaaGreatDoor.IxS
open Go.Proofs.YtfanjfbenhocnaaGreatDoor.R8M (RKL ins8L tou8L rem8L vic8L in8L)
/- PLAIN: BLOCKS BEHIND AN ACT. -/
theorem blocks_ev {c : Cm} {n i : Nat} {e : Int × Bool} (hi : (blocks c)[i]? = some n) (he : c.E n = some e) : (allC c)[i]? = some (n, e) := by
  unfold allC
  rw [List.getElem?_map, hi, Option.map_some]
  unfold ev; rw [he]; rfl
theorem blocks_set {c : Cm} {B' : Nat → List Nat} {n : Nat} {e e' : Int × Bool} (he : c.E n = some e) : blocks ⟨B', setE c.E n (some e')⟩ = blocks c := by
  unfold blocks
  refine List.filter_congr fun m _ => ?_
  exact setE_some (by rw [he]; rfl) m
theorem up_inj {l : List Nat} (h : l.Pairwise (· < ·)) {i j n : Nat} (hi : l[i]? = some n) (hj : l[j]? = some n) : i = j := by
  obtain ⟨h1, h2⟩ := List.getElem?_eq_some_iff.1 hi
  obtain ⟨h3, h4⟩ := List.getElem?_eq_some_iff.1 hj
  rw [List.pairwise_iff_getElem] at h
  rcases Nat.lt_trichotomy i j with hh | hh | hh
  · have := h i j h1 h3 hh; omega
  · exact hh
  · have := h j i h3 h1 hh; omega
theorem all_set {c : Cm} {B' : Nat → List Nat} {n i : Nat} {e e' : Int × Bool} (hi : (blocks c)[i]? = some n) (he : c.E n = some e) : allC ⟨B', setE c.E n (some e')⟩ = (allC c).set i (n, e') := by
  apply List.ext_getElem?
  intro j
  have hil := (List.getElem?_eq_some_iff.1 hi).1
  unfold allC
  rw [blocks_set he, List.getElem?_set, List.getElem?_map, List.getElem?_map, List.length_map]
  by_cases hj : i = j
  · subst hj
    rw [if_pos rfl, if_pos hil, hi, Option.map_some]
    unfold ev
    show some (n, (setE c.E n (some e') n).getD (0, false)) = _
    rw [setE_same]; rfl
  · rw [if_neg hj]
    cases hb : (blocks c)[j]? with
    | none => rfl
    | some m =>
      rw [Option.map_some, Option.map_some]
      have hmn : m ≠ n := fun e => hj (by
        subst e
        exact up_inj (blocks_up c) hi hb)
      unfold ev
      show some (m, (setE c.E n (some e') m).getD (0, false)) = _
      rw [setE_ne _ _ hmn]
theorem encs_set : ∀ (L : List En) (i : Nat) (z : En) (hi : i < L.length) (j : Nat) (v : Value), (entV L[i].1 L[i].2).set j v = entV z.1 z.2 → j < 3 → (encs L).set (i * 3 + j) v = encs (L.set i z)
  | [], _, _, hi, _, _, _, _ => by simp at hi
  | y :: L, 0, z, _, j, v, h, hj => by
    have e1 : encs (y :: L) = entV y.1 y.2 ++ encs L := rfl
    have e2 : encs ((y :: L).set 0 z) = entV z.1 z.2 ++ encs L := rfl
    have h : (entV y.1 y.2).set j v = entV z.1 z.2 := h
    rw [e1, e2, ← h, Nat.zero_mul, Nat.zero_add, List.set_append_left (h := by exact hj)]
  | y :: L, i + 1, z, hi, j, v, h, hj => by
    have e1 : encs (y :: L) = entV y.1 y.2 ++ encs L := rfl
    have e2 : encs ((y :: L).set (i + 1) z) = entV y.1 y.2 ++ encs (L.set i z) := rfl
    rw [e1, e2, List.set_append_right (h := by show 3 ≤ _; omega)]
    congr 1
    rw [← encs_set L i z (by simpa using hi) j v h hj]
    congr 1
    show (i + 1) * 3 + j - 3 = _
    omega
theorem up_split {l : List Nat} (h : l.Pairwise (· < ·)) {n i : Nat} (hi : l[i]? = some n) : (l.filter fun m => m != n) = l.take i ++ l.drop (i + 1) := by
  obtain ⟨hl, rfl⟩ := List.getElem?_eq_some_iff.1 hi
  have e : l = l.take i ++ l[i] :: l.drop (i + 1) := by rw [← List.drop_eq_getElem_cons hl, List.take_append_drop]
  have hnd : l.Nodup := h.imp Nat.ne_of_lt
  have := filter_mid (l1 := l.take i) (l2 := l.drop (i + 1)) (s := l[i]) (by rw [← e]; exact hnd)
  rw [← e] at this
  exact this
theorem blocks_drop {c : Cm} {B' : Nat → List Nat} {n i : Nat} (hi : (blocks c)[i]? = some n) : blocks ⟨B', setE c.E n none⟩ = (blocks c).take i ++ (blocks c).drop (i + 1) := by
  rw [← up_split (blocks_up c) hi]
  unfold blocks
  rw [List.filter_filter]
  refine List.filter_congr fun m _ => ?_
  show (setE c.E n none m).isSome = (m != n && (c.E m).isSome)
  by_cases h : m = n
  · subst h; rw [setE_same]; simp
  · rw [setE_ne _ _ h]; simp [h]
theorem map_ev {c : Cm} {B' : Nat → List Nat} {n : Nat} {v : Option (Int × Bool)} {l : List Nat} (h : n ∉ l) : l.map (ev ⟨B', setE c.E n v⟩) = l.map (ev c) := List.map_congr_left fun m hm => by
  unfold ev
  show (m, (setE c.E n v m).getD (0, false)) = _
  rw [setE_ne _ _ (fun e : m = n => h (e ▸ hm))]
theorem all_drop {c : Cm} {B' : Nat → List Nat} {n i : Nat} (hi : (blocks c)[i]? = some n) : allC ⟨B', setE c.E n none⟩ = (allC c).take i ++ (allC c).drop (i + 1) := by
  have hn : n ∉ (blocks c).take i ++ (blocks c).drop (i + 1) := by
    rw [← up_split (blocks_up c) hi, List.mem_filter]; simp
  unfold allC
  rw [blocks_drop hi, map_ev hn, List.map_append, List.map_take, List.map_drop]
/-- Where a new block stands. -/
theorem blocks_put {c : Cm} {B' : Nat → List Nat} {n i : Nat} {e : Int × Bool} (h64 : n < 64) (hE : c.E n = none) (hi : i ≤ (blocks c).length) (h1 : ∀ m ∈ (blocks c).take i, m < n) (h2 : ∀ h : i < (blocks c).length, ¬ (blocks c)[i] < n) :
    blocks ⟨B', setE c.E n (some e)⟩ = (blocks c).take i ++ [n] ++ (blocks c).drop i ∧ n ∉ (blocks c).take i ++ (blocks c).drop i := by
  have hup := blocks_up c
  have hno : n ∉ blocks c := fun hm => by
    unfold blocks at hm
    rw [List.mem_filter, hE] at hm
    simp at hm
  have hd : ∀ m ∈ (blocks c).drop i, n < m := fun m hm => by
    by_cases hh : i < (blocks c).length
    · have h3 := h2 hh
      have hp := List.Pairwise.sublist (List.drop_sublist i (blocks c)) hup
      rw [List.drop_eq_getElem_cons hh] at hm hp
      have hne : (blocks c)[i] ≠ n := fun e => hno (e ▸ List.getElem_mem hh)
      rcases List.mem_cons.1 hm with rfl | hm
      · omega
      · have := (List.pairwise_cons.1 hp).1 m hm; omega
    · rw [List.drop_eq_nil_of_le (by omega)] at hm; cases hm
  refine ⟨up_ext (blocks_up _) ?_ fun m => ?_, fun hm => ?_⟩
  · rw [List.append_assoc]
    refine List.pairwise_append.2 ⟨List.Pairwise.sublist (List.take_sublist i _) hup, List.pairwise_append.2 ⟨List.pairwise_singleton _ _, List.Pairwise.sublist (List.drop_sublist i _) hup, fun a ha b hb => ?_⟩, fun a ha b hb => ?_⟩
    · rw [List.mem_singleton.1 ha]; exact hd b hb
    · rcases List.mem_append.1 hb with hb | hb
      · rw [List.mem_singleton.1 hb]; exact h1 a ha
      · have := h1 a ha; have := hd b hb; omega
  · have h3 : m ∈ blocks c ↔ m ∈ (blocks c).take i ∨ m ∈ (blocks c).drop i := by rw [← List.mem_append, List.take_append_drop]
    have h4 : m ∈ blocks ⟨B', setE c.E n (some e)⟩ ↔ m = n ∨ m ∈ blocks c := by
      unfold blocks
      rw [List.mem_filter, List.mem_filter, List.mem_range]
      show m < 64 ∧ (setE c.E n (some e) m).isSome = true ↔ _
      by_cases h : m = n
      · subst h; rw [setE_same]; simp [h64]
      · rw [setE_ne _ _ h]; simp [h]
    rw [h4, h3, List.mem_append, List.mem_append, List.mem_singleton]
    constructor
    · rintro (a | a | a)
      · exact .inl (.inr a)
      · exact .inl (.inl a)
      · exact .inr a
    · rintro ((a | a) | a)
      · exact .inr (.inl a)
      · exact .inl a
      · exact .inr (.inr a)
  · rw [List.take_append_drop] at hm; exact hno hm
theorem all_put {c : Cm} {B' : Nat → List Nat} {n i : Nat} {e : Int × Bool} (h64 : n < 64) (hE : c.E n = none) (hi : i ≤ (blocks c).length) (h1 : ∀ m ∈ (blocks c).take i, m < n) (h2 : ∀ h : i < (blocks c).length, ¬ (blocks c)[i] < n) :
    allC ⟨B', setE c.E n (some e)⟩ = (allC c).take i ++ [(n, e)] ++ (allC c).drop i := by
  obtain ⟨e1, e2⟩ := blocks_put (B' := B') (e := e) h64 hE hi h1 h2
  rw [List.mem_append] at e2
  unfold allC
  rw [e1, List.map_append, List.map_append, map_ev fun h => e2 (.inl h), map_ev fun h => e2 (.inr h), List.map_take, List.map_drop]
  congr 2
  show [(n, (setE c.E n (some e) n).getD (0, false))] = _
  rw [setE_same]; rfl
/- THE HEAP. -/
theorem encs_one (L : List En) : ∀ u ∈ encs L, u.oneCell' = true := fun _ hu => encs_cell hu
theorem nV_one (l : List Nat) : ∀ u ∈ nV l, u.oneCell' = true := fun u hu => by obtain ⟨x, _, rfl⟩ := List.mem_map.1 hu; rfl
structure RH (k : Nat) (t : Tags) (h : Heap) (q kq : Nat) (a0 : Option Addr) (c0 : Nat) (a1 : Option Addr) (c1 S : Nat) (c : Cm) (ρ : Nat → Nat) (T : TypeId) : Prop where
  own : k ≠ 0
  blk : Blk h q #[.slice a0 (blocks c).length c0, .slice a1 (blocks c).length c1, ptr kq, .int .i64 S] T
  row0 : RowS h TR 3 a0 (blocks c).length c0 (encs (allC c))
  own0 : blocks c ≠ [] → OwnH h 0 TR 3 a0 (blocks c).length c0 (encs (allC c))
  row1 : RowS h TI 1 a1 (blocks c).length c1 (nV ((blocks c).map ρ))
  rk : RKL (fun g => g < h.size ∧ t g = (k, 4)) h kq (mapL ρ c.B) S
  tq : t q = (k, 0)
  tk : t kq = (k, 1)
  t0 : ∀ g, blkOf a0 = some g → g < h.size ∧ t g = (k, 2)
  t1 : ∀ g, blkOf a1 = some g → g < h.size ∧ t g = (k, 3)
  inv : Inv S c
  inj : InjOn ρ c.B
  lt : ∀ n, n ∈ que c.B → ρ n < S
def RRep (k : Nat) (t : Tags) (h : Heap) (q S : Nat) (c : Cm) : Prop := ∃ kq a0 c0 a1 c1 ρ T, RH k t h q kq a0 c0 a1 c1 S c ρ T
def RActed (k : Nat) (t : Tags) (h : Heap) (q S : Nat) (c' : Cm) (h' : Heap) : Prop := ∃ t', RRep k t' h' q S c' ∧ Fr (fun p => p.1 ≠ k) t h t' h'
section
variable {k q kq c0 c1 S : Nat} {t t' : Tags} {h h' : Heap} {a0 a1 : Option Addr} {c : Cm} {ρ : Nat → Nat} {T : TypeId}
theorem RH.fr' {Q : Nat × Nat → Prop} (a : RH k t h q kq a0 c0 a1 c1 S c ρ T) (s : Fr Q t h t' h') (hk : ∀ j, Q (k, j)) : RH k t' h' q kq a0 c0 a1 c1 S c ρ T := by
  have hkl := a.rk.lt
  refine ⟨a.own, s.blk a.blk (by rw [a.tq]; exact hk _), a.row0.keep s.size fun g hg hl => s.same g hl (by rw [(a.t0 g hg).2]; exact hk _), fun hne => (a.own0 hne).keep fun g _ _ hb hg => s.same g hb.lt (by rw [(a.t0 g hg).2]; exact hk _), a.row1.keep s.size fun g hg hl => s.same g hl (by rw [(a.t1 g hg).2]; exact hk _), ?_, ?_, ?_, fun g hg => ?_, fun g hg => ?_, a.inv, a.inj, a.lt⟩
  · exact (a.rk.same s.size (s.same kq hkl (by rw [a.tk]; exact hk _)) fun g hg hl => s.same g hl (by rw [hg.2]; exact hk _)).mono fun g hg => ⟨Nat.lt_of_lt_of_le hg.1 s.size, by rw [s.tags g hg.1]; exact hg.2⟩
  · rw [s.tags q a.blk.lt]; exact a.tq
  · rw [s.tags kq hkl]; exact a.tk
  · have := a.t0 g hg; exact ⟨Nat.lt_of_lt_of_le this.1 s.size, by rw [s.tags g this.1]; exact this.2⟩
  · have := a.t1 g hg; exact ⟨Nat.lt_of_lt_of_le this.1 s.size, by rw [s.tags g this.1]; exact this.2⟩
theorem RRep.fr' {Q : Nat × Nat → Prop} (a : RRep k t h q S c) (s : Fr Q t h t' h') (hk : ∀ j, Q (k, j)) : RRep k t' h' q S c := by
  obtain ⟨kq, a0, c0, a1, c1, ρ, T, a⟩ := a; exact ⟨kq, a0, c0, a1, c1, ρ, T, a.fr' s hk⟩
theorem RRep.new (a : RRep k t h q S c) (n : New h h') : RRep k t h' q S c := a.fr' (Q := fun _ => True) (Fr.new0 n) fun _ => trivial
theorem RRep.inv (a : RRep k t h q S c) : Inv S c := by obtain ⟨kq, a0, c0, a1, c1, ρ, T, a⟩ := a; exact a.inv
theorem RRep.own (a : RRep k t h q S c) : k ≠ 0 := by obtain ⟨kq, a0, c0, a1, c1, ρ, T, a⟩ := a; exact a.own
theorem RH.k0 (a : RH k t h q kq a0 c0 a1 c1 S c ρ T) : cellH h ((⟨q, 0, none⟩ : Addr).add 0) = some (.slice a0 (blocks c).length c0) := by rw [add_mk, cellH_blk a.blk]; rfl
theorem RH.k1 (a : RH k t h q kq a0 c0 a1 c1 S c ρ T) : cellH h ((⟨q, 0, none⟩ : Addr).add 1) = some (.slice a1 (blocks c).length c1) := by rw [add_mk, cellH_blk a.blk]; rfl
theorem RH.k2 (a : RH k t h q kq a0 c0 a1 c1 S c ρ T) : cellH h ((⟨q, 0, none⟩ : Addr).add 2) = some (ptr kq) := by rw [add_mk, cellH_blk a.blk]; rfl
theorem RH.k3 (a : RH k t h q kq a0 c0 a1 c1 S c ρ T) : cellH h ((⟨q, 0, none⟩ : Addr).add 3) = some (.int .i64 S) := by rw [add_mk, cellH_blk a.blk]; rfl
theorem RH.er (a : RH k t h q kq a0 c0 a1 c1 S c ρ T) : ER h a0 (allC c) := ER.row a.row0
theorem RH.bl (a : RH k t h q kq a0 c0 a1 c1 S c ρ T) : (blocks c).length ≤ 64 := by rw [blocks_len a.inv]; have := a.inv.len; have := a.inv.le; omega
theorem RH.ql (a : RH k t h q kq a0 c0 a1 c1 S c ρ T) : (que (mapL ρ c.B)).length ≤ 64 := by rw [que_map, List.length_map]; have := a.inv.len; have := a.inv.le; omega
theorem RH.qn (a : RH k t h q kq a0 c0 a1 c1 S c ρ T) : (que (mapL ρ c.B)).Nodup := by
  rw [que_map, List.nodup_iff_pairwise_ne, List.pairwise_map]
  have := a.inv.nd
  rw [List.nodup_iff_pairwise_ne] at this
  exact List.Pairwise.imp_of_mem (fun {x y} hx hy hne e => hne (a.inj x hx y hy e)) this
/-- A cell of an entry. -/
theorem RH.cell (a : RH k t h q kq a0 c0 a1 c1 S c ρ T) {i n : Nat} {e : Int × Bool} (hi : (blocks c)[i]? = some n) (he : c.E n = some e) : ∃ g o, a0 = some ⟨g, o, none⟩ ∧ ∀ j, j < 3 → cellH h ⟨g, o + (i * 3 + j), none⟩ = (entV n e)[j]? := by
  obtain ⟨g, o, e1, _, hc⟩ := a.er i (n, e) (blocks_ev hi he)
  exact ⟨g, o, e1, hc⟩
theorem RH.slot (a : RH k t h q kq a0 c0 a1 c1 S c ρ T) : Ar .i64 h a1 (nI ((blocks c).map ρ)) := RowS.ar (n := (blocks c).length) (by have := a.row1; rw [nV_eq] at this; exact this)
theorem slots_get {bs : List Nat} {i n : Nat} (hi : bs[i]? = some n) : ∃ h : i < (nI (bs.map ρ)).length, (nI (bs.map ρ))[i] = ((ρ n : Nat) : Int) := by
  obtain ⟨hl, rfl⟩ := List.getElem?_eq_some_iff.1 hi
  exact ⟨by simpa [nI] using hl, by simp [nI]⟩
theorem find_ok (x : Int) (a : RH k t h q kq a0 c0 a1 c1 S c ρ T) :
    CallsH Tryz.prog 52 [ptr q, .int .i64 x] h fun v h' => h' = h ∧ (at_ c x = none ∧ v = .int .i64 (-1) ∨ ∃ (i n : Nat) (e : Int × Bool), x = n ∧ n < 64 ∧ n ∈ que c.B ∧ (blocks c)[i]? = some n ∧ c.E n = some e ∧ at_ c x = some e ∧ v = .int .i64 (i : Int)) := by
  refine fun_ok hm' Tryz.func52 (by kernel_rfl) (F52_eq _ _ _ h) ?_
  unfold F52
  have hbl := a.bl
  refine ⟨fun (s : Int) h' => h' = h ∧ ∃ i : Nat, s = i ∧ i ≤ (blocks c).length ∧ ∀ m ∈ (blocks c).take i, (m : Int) ≠ x, fun (s : Int) _ => (((blocks c).length : Int) - s).toNat, ⟨rfl, 0, rfl, Nat.zero_le _, fun m hm => by simp at hm⟩, ?_⟩
  rintro s j h' ⟨hh, i, rfl, hi, hno⟩; subst h'
  refine ld_of (c := .slice) (a0, (blocks c).length, c0) a.k0 (br_of (fun hlt => ?_) fun hlt => ?_)
  · have hlt : (i : Int) < ((blocks c).length : Int) := of_decide_eq_true hlt
    have hiL : i < (blocks c).length := by omega
    have hget : (blocks c)[i]? = some (blocks c)[i] := List.getElem?_eq_getElem hiL
    have hmem := List.getElem_mem hiL
    have hq := (mem_blocks a.inv _).1 hmem
    obtain ⟨e, he⟩ := Option.isSome_iff_exists.1 ((a.inv.mem _).1 hq)
    obtain ⟨g, o, e1, hc⟩ := a.cell hget he
    refine ld_of (c := .slice) (a0, (blocks c).length, c0) a.k0 ?_
    subst e1
    refine ptr_of ⟨⟨(by first | omega | (dsimp only; omega) | (simp only []; omega)), rfl⟩, ?_⟩
    rw [Int.toNat_natCast, add_mk, add_mk, Nat.add_assoc]
    refine ld_of (c := .int .i64) ((blocks c)[i] : Int) (hc 0 (by decide)) (br_of (fun hx => ⟨rfl, .inr ⟨i, (blocks c)[i], e, ?_, a.inv.lt _ hq, hq, hget, he, ?_, rfl⟩⟩) fun hx => ?_)
    · have hx : ((blocks c)[i] : Int) = x := by simpa using hx
      exact hx.symm
    · have hx : ((blocks c)[i] : Int) = x := by simpa using hx
      rw [← hx, at_nat]; exact he
    · have hx : ¬ ((blocks c)[i] : Int) = x := by simpa using hx
      refine ⟨⟨rfl, i + 1, (by first | (rw [wr64 (by omega) (by omega)]; omega) | (simp only [IntKind.wrap_i64]; omega)), hiL, fun m hm => ?_⟩, (by dsimp only; first | (rw [wr64 (by omega) (by omega)]; omega) | (rw [wr64 (by omega) (by omega), wr64 (by omega) (by omega)]; omega) | (simp only [IntKind.wrap_i64]; omega))⟩
      rw [← List.take_append_getElem hiL, List.mem_append, List.mem_singleton] at hm
      rcases hm with hm | rfl
      · exact hno m hm
      · exact hx
  · have : i = (blocks c).length := by
      have hlt : ¬ (i : Int) < ((blocks c).length : Int) := of_decide_eq_false hlt
      omega
    subst this
    rw [List.take_length] at hno
    refine ⟨rfl, .inl ⟨?_, rfl⟩⟩
    cases hh : at_ c x with
    | none => rfl
    | some e =>
      obtain ⟨n, rfl, _, hq, _⟩ := at_mem a.inv hh
      exact (hno n ((mem_blocks a.inv n).2 hq) rfl).elim
theorem rpeek_ok (x : Int) (a : RRep k t h q S c) :
    CallsH Tryz.prog 36 [ptr q, .int .i64 x] h fun v h' => v = .tuple #[.int .u32 (peekC c x).1, .bool (peekC c x).2] ∧ h' = h := by
  obtain ⟨kq, a0, c0, a1, c1, ρ, T, a⟩ := a
  refine fun_ok hm' Tryz.func36 (by kernel_rfl) (F36_eq _ _ _ h) ?_
  unfold F36
  refine call_of (find_ok x a) ?_
  rintro v h' ⟨hh, ⟨h0, rfl⟩ | ⟨i, n, e, rfl, h64, hq, hi, he, ha, rfl⟩⟩ <;> subst h'
  · exact ⟨(-1 : Int), rfl, br_t rfl ⟨by unfold peekC; rw [h0], rfl⟩⟩
  · obtain ⟨g, o, e1, hc⟩ := a.cell hi he
    have hiL := (List.getElem?_eq_some_iff.1 hi).1
    refine ⟨(i : Int), rfl, br_f (decide_eq_false (by omega)) (ld_of (c := .slice) (a0, (blocks c).length, c0) a.k0 ?_)⟩
    subst e1
    refine ptr_of ⟨⟨(by first | omega | (dsimp only; omega) | (simp only []; omega)), rfl⟩, ?_⟩
    rw [Int.toNat_natCast, add_mk, add_mk, Nat.add_assoc]
    exact ld_of (c := .int .u32) e.1 (hc 1 (by decide)) ⟨by unfold peekC; rw [ha], rfl⟩
/-- Behind a Touch. -/
theorem RH.tou (a : RH k t h q kq a0 c0 a1 c1 S c ρ T) {n : Nat} (hn : n ∈ que c.B) (u : Upd kq h h') (x : RKL (fun g => (g < h.size ∧ t g = (k, 4)) ∨ (h.size ≤ g ∧ g < h'.size)) h' kq (touL S (mapL ρ c.B) (ρ n)) S) :
    RH k (lay t h.size (k, 4)) h' q kq a0 c0 a1 c1 S ⟨touL S c.B n, c.E⟩ ρ T ∧ Fr (fun p => p.1 ≠ k) t h (lay t h.size (k, 4)) h' := by
  have p := tou_perm (S := S) a.inv.nd hn
  have nk : ∀ {b i}, t b = (k, i) → i ≠ 1 → b ≠ kq := fun hb hi => tag_ne hb a.tk hi
  refine ⟨⟨a.own, a.blk.upd u (nk a.tq (by decide)), a.row0.keep u.size fun g hg hl => u.same g hl (nk (a.t0 g hg).2 (by decide)), fun hne => (a.own0 hne).keep fun g _ _ hb hg => u.same g hb.lt (nk (a.t0 g hg).2 (by decide)), a.row1.keep u.size fun g hg hl => u.same g hl (nk (a.t1 g hg).2 (by decide)), ?_, ?_, ?_, fun g hg => ?_, fun g hg => ?_, a.inv.tou hn fun _ => rfl, fun x hx y hy => a.inj x (p.mem_iff.1 hx) y (p.mem_iff.1 hy), fun m hm => a.lt m (p.mem_iff.1 hm)⟩, ⟨u.size, fun b hb => lay_lt hb, fun b hb hk => u.same b hb fun e => hk (by rw [e, a.tk])⟩⟩
  · have s2 := tou_map (S := S) a.inv.nd a.inj hn
    have x2 : RKL (fun g => (g < h.size ∧ t g = (k, 4)) ∨ (h.size ≤ g ∧ g < h'.size)) h' kq (mapL ρ (touL S c.B n)) S := by
      show R8P.RK _ _ _ (nI (mapL ρ (touL S c.B n) 0)) (nI (mapL ρ (touL S c.B n) 1)) _
      rw [← s2 0 (by decide), ← s2 1 (by decide)]; exact x
    refine x2.mono fun g hg => ?_
    rcases hg with ⟨h1, h2⟩ | ⟨h1, h2⟩
    · exact ⟨Nat.lt_of_lt_of_le h1 u.size, by rw [lay_lt h1]; exact h2⟩
    · exact ⟨h2, lay_ge h1⟩
  · rw [lay_lt a.blk.lt]; exact a.tq
  · rw [lay_lt a.rk.lt]; exact a.tk
  · have := a.t0 g hg; exact ⟨Nat.lt_of_lt_of_le this.1 u.size, by rw [lay_lt this.1]; exact this.2⟩
  · have := a.t1 g hg; exact ⟨Nat.lt_of_lt_of_le this.1 u.size, by rw [lay_lt this.1]; exact this.2⟩
theorem rget_ok (x : Int) (a : RRep k t h q S c) :
    CallsH Tryz.prog 31 [ptr q, .int .i64 x] h fun v h' => v = .tuple #[.int .u32 (peekC c x).1, .bool (peekC c x).2] ∧ RActed k t h q S (getC S c x) h' := by
  have a' := a
  obtain ⟨kq, a0, c0, a1, c1, ρ, T, a⟩ := a
  refine fun_ok hm' Tryz.func31 (by kernel_rfl) (F31_eq _ _ _ h) ?_
  unfold F31
  refine call_of (find_ok x a) ?_
  rintro v h' ⟨hh, ⟨h0, rfl⟩ | ⟨i, n, e, rfl, h64, hq, hi, he, ha, rfl⟩⟩ <;> subst h'
  · have e1 : peekC c x = (0, false) := by unfold peekC; rw [h0]
    have e2 : getC S c x = c := by unfold getC; rw [h0]
    rw [e1, e2]
    exact ⟨(-1 : Int), rfl, br_t rfl ⟨rfl, t, a', Fr.refl _ _ _⟩⟩
  · have hiL := (List.getElem?_eq_some_iff.1 hi).1
    have e1 : peekC c (n : Int) = (e.1, true) := by unfold peekC; rw [ha]
    have e2 : getC S c (n : Int) = ⟨touL S c.B n, c.E⟩ := by unfold getC; rw [ha]; simp
    rw [e1, e2]
    obtain ⟨hs1, hs2⟩ := slots_get (ρ := ρ) hi
    refine ⟨(i : Int), rfl, br_f (decide_eq_false (by omega)) (ld_of (c := .ptr) (some ⟨kq, 0, none⟩) a.k2 (ld_of (c := .slice) (a1, (blocks c).length, c1) a.k1 (ix_ld a.slot hs1 hiL ?_)))⟩
    rw [hs2]
    refine call_of (tou8L (ρ n : Int) a.inv.le a.qn a.ql a.rk) ?_
    rintro v h2 ⟨rfl, x2, u2⟩
    rw [if_pos (map_in hq), Int.toNat_natCast] at x2
    obtain ⟨a2, f2⟩ := a.tou hq u2 x2
    refine ⟨_, rfl, ld_of (c := .slice) (a0, (blocks c).length, c0) a2.k0 ?_⟩
    obtain ⟨g, o, e3, hc⟩ := a2.cell hi he
    subst e3
    refine ptr_of ⟨⟨(by first | omega | (dsimp only; omega) | (simp only []; omega)), rfl⟩, ?_⟩
    rw [Int.toNat_natCast, add_mk, add_mk, Nat.add_assoc]
    exact ld_of (c := .int .u32) e.1 (hc 1 (by decide)) ⟨rfl, _, ⟨kq, _, c0, a1, c1, ρ, T, a2⟩, f2⟩
/-- An entry is set in its place. -/
theorem RH.set (a : RH k t h q kq a0 c0 a1 c1 S c ρ T) {i n : Nat} {e e' : Int × Bool} (hi : (blocks c)[i]? = some n) (he : c.E n = some e) (o : ∀ g, a0 = some ⟨g, 0, none⟩ → Only g h h') (w : OwnH h' 0 TR 3 a0 (blocks c).length c0 (encs ((allC c).set i (n, e')))) :
    RH k t h' q kq a0 c0 a1 c1 S ⟨c.B, setE c.E n (some e')⟩ ρ T ∧ Fr (fun p => p.1 ≠ k) t h t h' := by
  have hb := blocks_set (B' := c.B) (e' := e') he
  have hal := all_set (B' := c.B) (e' := e') hi he
  obtain ⟨g, e1⟩ : ∃ g, a0 = some ⟨g, 0, none⟩ := by
    rcases w.row.2 with ⟨_, e0, _⟩ | ⟨g, cur, e1, _⟩
    · have := (List.getElem?_eq_some_iff.1 hi).1; omega
    · exact ⟨g, e1⟩
  have o := o g e1
  have tg : g < h.size ∧ t g = (k, 2) := a.t0 g (by rw [e1]; rfl)
  have nk : ∀ {b i}, t b = (k, i) → i ≠ 2 → b ≠ g := fun hb hi => tag_ne hb tg.2 hi
  have hm := (a.inv.mem n).1 ((a.inv.mem n).2 (by rw [he]; rfl))
  refine ⟨⟨a.own, by rw [hb]; exact a.blk.only o (nk a.tq (by decide)), by rw [hb, hal]; exact .inl w, fun _ => by rw [hb, hal]; exact w, by rw [hb]; exact a.row1.keep (Nat.le_of_eq o.size.symm) fun g' hg _ => o.same g' (nk (a.t1 g' hg).2 (by decide)), ?_, a.tq, a.tk, fun g' hg => ⟨by rw [o.size]; exact (a.t0 g' hg).1, (a.t0 g' hg).2⟩, fun g' hg => ⟨by rw [o.size]; exact (a.t1 g' hg).1, (a.t1 g' hg).2⟩, ⟨a.inv.nd, fun m => by rw [a.inv.mem]; show _ ↔ (setE c.E n (some e') m).isSome = true; rw [setE_some hm], a.inv.lt, a.inv.len, a.inv.le, a.inv.pos⟩, a.inj, a.lt⟩, Fr.upd o.upd (by rw [tg.2]; exact fun hh => hh rfl)⟩
  exact (a.rk.same (Nat.le_of_eq o.size.symm) (o.same kq (nk a.tk (by decide))) fun g' hg _ => o.same g' (nk hg.2 (by decide))).mono fun g' hg => ⟨by rw [o.size]; exact hg.1, hg.2⟩
theorem RH.own' (a : RH k t h q kq a0 c0 a1 c1 S c ρ T) {i n : Nat} (hi : (blocks c)[i]? = some n) : ∃ g, a0 = some ⟨g, 0, none⟩ ∧ OwnH h 0 TR 3 (some ⟨g, 0, none⟩) (blocks c).length c0 (encs (allC c)) := by
  have w := a.own0 (fun e => by rw [e] at hi; simp at hi)
  rcases w.row.2 with ⟨_, e0, _⟩ | ⟨g, cur, e1, _⟩
  · have := (List.getElem?_eq_some_iff.1 hi).1; omega
  · subst e1; exact ⟨g, rfl, w⟩
theorem rmove_ok (x ad : Int) (a : RRep k t h q S c) :
    CallsH Tryz.prog 33 [ptr q, .int .i64 x, .int .u32 ad] h fun v h' => v = .bool (moveC c x ad).1 ∧ RActed k t h q S (moveC c x ad).2 h' := by
  have a' := a
  obtain ⟨kq, a0, c0, a1, c1, ρ, T, a⟩ := a
  refine fun_ok hm' Tryz.func33 (by kernel_rfl) (F33_eq _ _ _ _ h) ?_
  unfold F33
  refine call_of (find_ok x a) ?_
  rintro v h' ⟨hh, ⟨h0, rfl⟩ | ⟨i, n, e, rfl, h64, hq, hi, he, ha, rfl⟩⟩ <;> subst h'
  · have e1 : moveC c x ad = (false, c) := by unfold moveC; rw [h0]
    rw [e1]
    exact ⟨(-1 : Int), rfl, br_t rfl ⟨rfl, t, a', Fr.refl _ _ _⟩⟩
  · have hiL := (List.getElem?_eq_some_iff.1 hi).1
    have eg : moveC c (n : Int) ad = (true, ⟨c.B, setE c.E n (some (ad, e.2))⟩) := by unfold moveC; rw [ha]; simp
    rw [eg]
    obtain ⟨g, e1, w⟩ := a.own' hi
    refine ⟨(i : Int), rfl, br_f (decide_eq_false (by omega)) (ld_of (c := .slice) (a0, (blocks c).length, c0) a.k0 ?_)⟩
    subst e1
    refine ptr_of ⟨⟨(by first | omega | (dsimp only; omega) | (simp only []; omega)), rfl⟩, ?_⟩
    rw [Int.toNat_natCast, add_mk, add_mk, Nat.zero_add]
    have hel := encs_len (allC c)
    have hal := all_len c
    have hae := blocks_ev hi he
    obtain ⟨hiA, hag⟩ := List.getElem?_eq_some_iff.1 hae
    refine own_set w (by omega) fun h2 w2 o2 => ?_
    rw [encs_set (allC c) i (n, (ad, e.2)) hiA 1 _ (by rw [hag]; rfl) (by decide)] at w2
    obtain ⟨a2, f2⟩ := a.set hi he (fun g' hg' => by injection hg' with hg'; injection hg' with hg'; subst hg'; exact o2) w2
    exact ⟨rfl, t, ⟨kq, _, c0, a1, c1, ρ, T, a2⟩, f2⟩
theorem rvic_ok (a : RRep k t h q S c) :
    CallsH Tryz.prog 20 [ptr q] h fun v h' => v = .tuple #[.agg #[.int .i64 (((vicC c).map Prod.fst).getD 0 : Nat), .int .u32 (((vicC c).map fun z => z.2.1).getD 0), .bool (((vicC c).map fun z => z.2.2).getD false)], .bool (vicC c).isSome] ∧ New h h' := by
  obtain ⟨kq, a0, c0, a1, c1, ρ, T, a⟩ := a
  refine fun_ok hm' Tryz.func20 (by kernel_rfl) (F20_eq _ _ h) ?_
  unfold F20
  have z3 : zeroC Tryz.prog TR = #[.int .i64 0, .int .u32 0, .bool false] := by kernel_rfl
  rw [z3]
  refine new_of fun h1 b1 n1 s1 => ?_
  have aa := a.fr' (Q := fun _ => True) (Fr.new0 n1) fun _ => trivial
  refine ld_of (c := .ptr) (some ⟨kq, 0, none⟩) aa.k2 (call_of (vic8L aa.ql aa.rk) ?_)
  rintro v h' ⟨rfl, hh⟩; subst h'
  rw [vic_map]
  unfold vicC
  cases hv : vicL c.B with
  | none =>
    refine ⟨((0 : Int), false), rfl, br_t rfl (stL_blk b1 (by simp) fun h2 b2 o2 => ?_)⟩
    refine ldAgg_blk (cs := [.int .i64, .int .u32, .bool]) ((0, 0, false) : Int × Int × Bool) b2 ⟨rfl, rfl, rfl, trivial⟩ ⟨rfl, o2.upd.new n1 (Nat.le_refl _)⟩
  | some n =>
    obtain ⟨hq, e, he⟩ := a.inv.vic hv
    obtain ⟨i0, hi0⟩ := List.mem_iff_getElem?.1 ((mem_blocks a.inv n).2 hq)
    have hi0L := (List.getElem?_eq_some_iff.1 hi0).1
    have hbl := a.bl
    refine ⟨((ρ n : Int), true), rfl, br_f rfl ?_⟩
    refine ⟨fun (s : Int) h' => h' = h1 ∧ ∃ i : Nat, s = i ∧ i ≤ i0, fun (s : Int) _ => ((i0 : Int) - s).toNat, ⟨rfl, 0, rfl, Nat.zero_le _⟩, ?_⟩
    rintro s j h' ⟨hh, i, rfl, hi⟩; subst h'
    have hget : (blocks c)[i]? = some ((blocks c)[i]'(by omega)) := List.getElem?_eq_getElem _
    obtain ⟨hs1, hs2⟩ := slots_get (ρ := ρ) hget
    refine ld_of (c := .slice) (a1, (blocks c).length, c1) aa.k1 (ix_ld aa.slot hs1 (show i < (blocks c).length by omega) ?_)
    rw [hs2]
    refine br_of (fun hne => ?_) fun heq => ?_
    · have hne : ρ ((blocks c)[i]'(by omega)) ≠ ρ n := by
        have : ((ρ ((blocks c)[i]'(by omega)) : Nat) : Int) ≠ ((ρ n : Nat) : Int) := by simpa using hne
        exact fun e => this (by rw [e])
      have hii : i ≠ i0 := fun e => by
        subst e
        rw [hget] at hi0
        exact hne (by rw [Option.some.inj hi0])
      exact ⟨⟨rfl, i + 1, (by first | (rw [wr64 (by omega) (by omega)]; omega) | (simp only [IntKind.wrap_i64]; omega)), by omega⟩, (by dsimp only; first | (rw [wr64 (by omega) (by omega)]; omega) | (rw [wr64 (by omega) (by omega), wr64 (by omega) (by omega)]; omega) | (simp only [IntKind.wrap_i64]; omega))⟩
    · have heq : ρ ((blocks c)[i]'(by omega)) = ρ n := by
        have : ((ρ ((blocks c)[i]'(by omega)) : Nat) : Int) = ((ρ n : Nat) : Int) := by simpa using heq
        omega
      have hbn : (blocks c)[i]'(by omega) = n := a.inj _ ((mem_blocks a.inv _).1 (List.getElem_mem _)) _ hq heq
      rw [hbn] at hget
      have hae := blocks_ev hget he
      obtain ⟨hiA, hag⟩ := List.getElem?_eq_some_iff.1 hae
      refine ld_of (c := .slice) (a0, (blocks c).length, c0) aa.k0 (aa.er.ld hiA (show i < (blocks c).length by omega) ?_)
      rw [hag]
      refine stL_blk b1 (by simp) fun h2 b2 o2 => ?_
      refine ldAgg_blk (cs := [.int .i64, .int .u32, .bool]) ((n, e.1, e.2) : Int × Int × Bool) b2 ⟨rfl, rfl, rfl, trivial⟩ ⟨?_, o2.upd.new n1 (Nat.le_refl _)⟩
      simp only [enE, he]
      rfl
end
end Go.Proofs.YtfanjfbenhocnaaGreatDoor.Ca
