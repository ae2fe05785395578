/-
  A cache as plain data: rows of blocks, and what each block's place is. Plain laws.
-/
import Derived.Test.YtfanjfbenhocnaaGreatDoorLruH
namespace Go.Proofs.YtfanjfbenhocnaaGreatDoor.Ca
open Go.Pl Go.Pl.Lru Go.Proofs.YtfanjfbenhocnaaGreatDoor.Lru
structure Cm where
  B : Nat → List Nat
  E : Nat → Option (Int × Bool)
structure Inv (S : Nat) (c : Cm) : Prop where
  nd : (que c.B).Nodup
  mem : ∀ n, n ∈ que c.B ↔ (c.E n).isSome = true
  lt : ∀ n, n ∈ que c.B → n < 64
  len : (que c.B).length ≤ S
  le : S ≤ 64
  pos : 1 ≤ S
def setE (E : Nat → Option (Int × Bool)) (n : Nat) (v : Option (Int × Bool)) : Nat → Option (Int × Bool) := fun m => if m = n then v else E m
theorem setE_same (E : Nat → Option (Int × Bool)) (n : Nat) (v : Option (Int × Bool)) : setE E n v n = v := if_pos rfl
theorem setE_ne (E : Nat → Option (Int × Bool)) {n m : Nat} (v : Option (Int × Bool)) (h : m ≠ n) : setE E n v m = E m := if_neg h
def at_ (c : Cm) (x : Int) : Option (Int × Bool) := if 0 ≤ x then c.E x.toNat else none
def peekC (c : Cm) (x : Int) : Int × Bool := match at_ c x with | some e => (e.1, true) | none => (0, false)
def getC (S : Nat) (c : Cm) (x : Int) : Cm := match at_ c x with | some _ => ⟨touL S c.B x.toNat, c.E⟩ | none => c
def putC (S : Nat) (c : Cm) (x a : Int) (d : Bool) : Bool × Cm := match at_ c x with
  | some e => (true, ⟨touL S c.B x.toNat, setE c.E x.toNat (some (a, d || e.2))⟩)
  | none => if 0 ≤ x ∧ x < 64 ∧ (que c.B).length < S then (true, ⟨upL c.B 0 (x.toNat :: c.B 0), setE c.E x.toNat (some (a, d))⟩) else (false, c)
def moveC (c : Cm) (x a : Int) : Bool × Cm := match at_ c x with
  | some e => (true, ⟨c.B, setE c.E x.toNat (some (a, e.2))⟩)
  | none => (false, c)
def dropC (c : Cm) (x : Int) : Bool × Cm := match at_ c x with
  | some _ => (true, ⟨del c.B x.toNat, setE c.E x.toNat none⟩)
  | none => (false, c)
def dirt (t : Int) (n : Nat) (e : Int × Bool) : Bool := e.2 && decide (((n / 4 : Nat) : Int) = t)
def cleanC (c : Cm) (t : Int) : Cm := ⟨c.B, fun n => (c.E n).map fun e => (e.1, e.2 && !decide (((n / 4 : Nat) : Int) = t))⟩
abbrev En := Nat × Int × Bool
def enE (E : Nat → Option (Int × Bool)) (n : Nat) : Option En := (E n).map fun e => (n, e.1, e.2)
def blocks (c : Cm) : List Nat := (List.range 64).filter fun n => (c.E n).isSome
def ev (c : Cm) (n : Nat) : En := (n, (c.E n).getD (0, false))
def allC (c : Cm) : List En := (blocks c).map (ev c)
def dirtyC (c : Cm) (t : Int) : List En := (allC c).filter fun z => dirt t z.1 z.2
def tablesC (c : Cm) : List Nat := (List.range 16).filter fun t => !(dirtyC c t).isEmpty
def vicC (c : Cm) : Option En := match vicL c.B with | some n => enE c.E n | none => none
/- QUEUES. -/
theorem del_perm {B : Nat → List Nat} {n : Nat} (h : (que B).Nodup) (hn : n ∈ que B) : List.Perm (n :: que (del B n)) (que B) := by
  rw [que_del, ← h.erase_eq_filter]
  exact (List.perm_cons_erase hn).symm
theorem up1_perm (B : Nat → List Nat) (n : Nat) : List.Perm (que (upL B 1 (n :: B 1))) (n :: que B) := by
  rw [que_up1]
  exact List.perm_append_comm
theorem up0_perm (B : Nat → List Nat) (n : Nat) : List.Perm (que (upL B 0 (n :: B 0))) (n :: que B) := by
  rw [que_up0]
  exact List.perm_middle
theorem tou_perm {S n : Nat} {B : Nat → List Nat} (h : (que B).Nodup) (hn : n ∈ que B) : List.Perm (que (touL S B n)) (que B) := by
  have p1 : List.Perm (que (upL (del B n) 1 (n :: del B n 1))) (que B) := (up1_perm _ _).trans (del_perm h hn)
  have h11 : upL (del B n) 1 (n :: del B n 1) 1 = n :: del B n 1 := if_pos rfl
  unfold touL
  simp only []
  generalize upL (del B n) 1 (n :: del B n 1) = L1 at *
  split
  · have hne : L1 1 ≠ [] := by rw [h11]; simp
    have hm := getLastD_mem (d := 65) hne
    have hq : (L1 1).getLastD 65 ∈ que L1 := by unfold que; exact List.mem_append_right _ (List.mem_reverse.2 hm)
    exact ((up0_perm _ _).trans (del_perm (p1.nodup_iff.2 h) hq)).trans p1
  · exact p1
/-- Rows of blocks, told by their slots. -/
def mapL (r : Nat → Nat) (B : Nat → List Nat) : Nat → List Nat := fun q => (B q).map r
theorem que_map (r : Nat → Nat) (B : Nat → List Nat) : que (mapL r B) = (que B).map r := by simp [que, mapL]
def InjOn (r : Nat → Nat) (B : Nat → List Nat) : Prop := ∀ m ∈ que B, ∀ n ∈ que B, r m = r n → m = n
def Same2 (L L' : Nat → List Nat) : Prop := ∀ q, q < 2 → L q = L' q
theorem row_que {B : Nat → List Nat} {q n : Nat} (hq : q < 2) (h : n ∈ B q) : n ∈ que B := by
  unfold que
  have : q = 0 ∨ q = 1 := by omega
  rcases this with rfl | rfl
  · exact List.mem_append_left _ (List.mem_reverse.2 h)
  · exact List.mem_append_right _ (List.mem_reverse.2 h)
theorem del_map {r : Nat → Nat} {B : Nat → List Nat} {n : Nat} (h : InjOn r B) (hn : n ∈ que B) : Same2 (del (mapL r B) (r n)) (mapL r (del B n)) := fun q hq => by
  show ((B q).map r).filter (fun x => x != r n) = ((B q).filter fun x => x != n).map r
  rw [List.filter_map]
  congr 1
  refine List.filter_congr fun y hy => ?_
  show (r y != r n) = (y != n)
  rw [Bool.eq_iff_iff, bne_iff_ne, bne_iff_ne]
  exact ⟨fun e k => e (by rw [k]), fun e k => e (h y (row_que hq hy) n hn k)⟩
theorem Same2.up {L L' : Nat → List Nat} {q : Nat} {l l' : List Nat} (h : Same2 L L') (e : l = l') : Same2 (upL L q l) (upL L' q l') := fun p hp => by
  unfold upL
  by_cases hh : p = q
  · rw [if_pos hh, if_pos hh, e]
  · rw [if_neg hh, if_neg hh, h p hp]
theorem Same2.del {L L' : Nat → List Nat} {n : Nat} (h : Same2 L L') : Same2 (del L n) (del L' n) := fun p hp => by
  unfold Lru.del
  rw [h p hp]
theorem Same2.trans {L L' M : Nat → List Nat} (h : Same2 L L') (k : Same2 L' M) : Same2 L M := fun p hp => (h p hp).trans (k p hp)
theorem Same2.symm {L L' : Nat → List Nat} (h : Same2 L L') : Same2 L' L := fun p hp => (h p hp).symm
theorem Same2.refl (L : Nat → List Nat) : Same2 L L := fun _ _ => rfl
theorem map_up (r : Nat → Nat) (B : Nat → List Nat) (q : Nat) (l : List Nat) : mapL r (upL B q l) = upL (mapL r B) q (l.map r) := by
  funext p
  unfold mapL upL
  by_cases h : p = q
  · rw [if_pos h, if_pos h]
  · rw [if_neg h, if_neg h]
theorem last_map (r : Nat → Nat) {l : List Nat} (h : l ≠ []) (d e : Nat) : (l.map r).getLastD d = r (l.getLastD e) := by
  obtain ⟨l', y, rfl⟩ : ∃ l' y, l = l' ++ [y] := ⟨l.dropLast, l.getLast h, (List.dropLast_concat_getLast h).symm⟩
  simp
theorem tou_map {r : Nat → Nat} {B : Nat → List Nat} {S n : Nat} (hnd : (que B).Nodup) (h : InjOn r B) (hn : n ∈ que B) : Same2 (touL S (mapL r B) (r n)) (mapL r (touL S B n)) := by
  have hd := del_map h hn
  have p1 : List.Perm (que (upL (del B n) 1 (n :: del B n 1))) (que B) := (up1_perm _ _).trans (del_perm hnd hn)
  have s1 : Same2 (upL (del (mapL r B) (r n)) 1 (r n :: del (mapL r B) (r n) 1)) (mapL r (upL (del B n) 1 (n :: del B n 1))) := by
    rw [map_up]
    refine hd.up ?_
    rw [hd 1 (by decide)]; rfl
  have h11 : upL (del B n) 1 (n :: del B n 1) 1 = n :: del B n 1 := if_pos rfl
  unfold touL
  simp only []
  generalize upL (del B n) 1 (n :: del B n 1) = L1 at *
  generalize upL (del (mapL r B) (r n)) 1 (r n :: del (mapL r B) (r n) 1) = L2 at *
  have e1 : L2 1 = (L1 1).map r := s1 1 (by decide)
  have hne : L1 1 ≠ [] := by rw [h11]; simp
  have hm := getLastD_mem (d := 65) hne
  have hq : (L1 1).getLastD 65 ∈ que L1 := row_que (by decide) hm
  have i1 : InjOn r L1 := fun a ha b hb e => h a (p1.mem_iff.1 ha) b (p1.mem_iff.1 hb) e
  rw [e1, List.length_map, last_map r hne 65 65]
  generalize (L1 1).getLastD 65 = z at *
  have s2 : Same2 (del L2 (r z)) (mapL r (del L1 z)) := (Same2.del s1).trans (del_map i1 hq)
  by_cases hg : S / 2 < (L1 1).length
  · rw [if_pos hg, if_pos hg, map_up]
    refine s2.up ?_
    rw [s2 0 (by decide)]; rfl
  · rw [if_neg hg, if_neg hg]
    exact s1
theorem vic_map (r : Nat → Nat) (B : Nat → List Nat) : vicL (mapL r B) = (vicL B).map r := by
  rw [vic_head, vic_head, que_map, List.head?_map]
theorem que_same {L L' : Nat → List Nat} (h : Same2 L L') : que L = que L' := by unfold que; rw [h 0 (by decide), h 1 (by decide)]
theorem vic_same {L L' : Nat → List Nat} (h : Same2 L L') : vicL L = vicL L' := by rw [vic_head, vic_head, que_same h]
/- WHAT STAYS. -/
theorem Inv.tou {S : Nat} {c : Cm} {n : Nat} (i : Inv S c) (hn : n ∈ que c.B) {E : Nat → Option (Int × Bool)} (he : ∀ m, (E m).isSome = (c.E m).isSome) : Inv S ⟨touL S c.B n, E⟩ := by
  have p := tou_perm (S := S) i.nd hn
  exact ⟨p.nodup_iff.2 i.nd, fun m => by rw [p.mem_iff, i.mem, he], fun m hm => i.lt m (p.mem_iff.1 hm), by rw [p.length_eq]; exact i.len, i.le, i.pos⟩
theorem at_mem {S : Nat} {c : Cm} {x : Int} {e : Int × Bool} (i : Inv S c) (h : at_ c x = some e) : ∃ n : Nat, x = n ∧ n < 64 ∧ n ∈ que c.B ∧ c.E n = some e := by
  unfold at_ at h
  by_cases h0 : 0 ≤ x
  · rw [if_pos h0] at h
    obtain ⟨n, rfl⟩ := Int.eq_ofNat_of_zero_le h0
    rw [Int.toNat_natCast] at h
    have hm := (i.mem n).2 (by rw [h]; rfl)
    exact ⟨n, rfl, i.lt n hm, hm, h⟩
  · rw [if_neg h0] at h; cases h
theorem at_nat (c : Cm) (n : Nat) : at_ c (n : Int) = c.E n := by unfold at_; rw [if_pos (by omega), Int.toNat_natCast]
theorem setE_some {E : Nat → Option (Int × Bool)} {n : Nat} {v : Int × Bool} (h : (E n).isSome = true) (m : Nat) : (setE E n (some v) m).isSome = (E m).isSome := by
  unfold setE
  by_cases e : m = n
  · subst e; rw [if_pos rfl, h]; rfl
  · rw [if_neg e]
theorem Inv.get {S : Nat} {c : Cm} (i : Inv S c) (x : Int) : Inv S (getC S c x) := by
  unfold getC
  cases h : at_ c x with
  | none => exact i
  | some e =>
    obtain ⟨n, rfl, _, hn, _⟩ := at_mem i h
    exact i.tou hn fun _ => rfl
theorem Inv.put {S : Nat} {c : Cm} (i : Inv S c) (x a : Int) (d : Bool) : Inv S (putC S c x a d).2 := by
  unfold putC
  cases h : at_ c x with
  | some e =>
    obtain ⟨n, rfl, _, hn, he⟩ := at_mem i h
    exact i.tou hn fun m => setE_some (by rw [Int.toNat_natCast, he]; rfl) m
  | none =>
    simp only []
    by_cases hc : 0 ≤ x ∧ x < 64 ∧ (que c.B).length < S
    · rw [if_pos hc]
      obtain ⟨n, rfl⟩ := Int.eq_ofNat_of_zero_le hc.1
      rw [at_nat] at h
      simp only [Int.toNat_natCast]
      have hn : n ∉ que c.B := fun hm => by have := (i.mem n).1 hm; rw [h] at this; cases this
      have p := up0_perm c.B n
      refine ⟨p.nodup_iff.2 (List.nodup_cons.2 ⟨hn, i.nd⟩), fun m => ?_, fun m hm => ?_, by rw [p.length_eq, List.length_cons]; omega, i.le, i.pos⟩
      · rw [p.mem_iff, List.mem_cons, i.mem]
        show _ ↔ (setE c.E n (some (a, d)) m).isSome = true
        unfold setE
        by_cases e : m = n
        · simp [e]
        · rw [if_neg e]; simp [e]
      · rcases List.mem_cons.1 (p.mem_iff.1 hm) with rfl | hm
        · omega
        · exact i.lt m hm
    · rw [if_neg hc]; exact i
theorem Inv.move {S : Nat} {c : Cm} (i : Inv S c) (x a : Int) : Inv S (moveC c x a).2 := by
  unfold moveC
  cases h : at_ c x with
  | none => exact i
  | some e =>
    obtain ⟨n, rfl, _, hn, he⟩ := at_mem i h
    exact ⟨i.nd, fun m => by rw [i.mem]; show _ ↔ (setE c.E _ _ m).isSome = true; rw [setE_some (by rw [Int.toNat_natCast, he]; rfl)], i.lt, i.len, i.le, i.pos⟩
theorem Inv.drop {S : Nat} {c : Cm} (i : Inv S c) (x : Int) : Inv S (dropC c x).2 := by
  unfold dropC
  cases h : at_ c x with
  | none => exact i
  | some e =>
    obtain ⟨n, rfl, _, hn, he⟩ := at_mem i h
    simp only [Int.toNat_natCast]
    have hm : ∀ m, m ∈ que (del c.B n) ↔ m ∈ que c.B ∧ m ≠ n := fun m => by rw [que_del, List.mem_filter]; simp
    refine ⟨del_nd i.nd n, fun m => ?_, fun m h => i.lt m ((hm m).1 h).1, ?_, i.le, i.pos⟩
    · rw [hm, i.mem]
      show _ ↔ (setE c.E n none m).isSome = true
      unfold setE
      by_cases e : m = n
      · simp [e]
      · rw [if_neg e]; simp [e]
    · have := del_len i.nd hn
      have := i.len
      show (que (del c.B n)).length ≤ S
      omega
theorem Inv.clean {S : Nat} {c : Cm} (i : Inv S c) (t : Int) : Inv S (cleanC c t) :=
  ⟨i.nd, fun n => by rw [cleanC, i.mem]; simp, i.lt, i.len, i.le, i.pos⟩
theorem Inv.vic {S : Nat} {c : Cm} (i : Inv S c) {n : Nat} (h : vicL c.B = some n) : n ∈ que c.B ∧ ∃ e, c.E n = some e := by
  have hn : n ∈ que c.B := by
    rw [vic_head] at h
    cases hq : que c.B with
    | nil => rw [hq] at h; cases h
    | cons y r => rw [hq] at h; injection h with h; simp [h]
  exact ⟨hn, Option.isSome_iff_exists.1 ((i.mem n).1 hn)⟩
/- ALL ENTRIES. -/
theorem mem_blocks {S : Nat} {c : Cm} (i : Inv S c) (n : Nat) : n ∈ blocks c ↔ n ∈ que c.B := by
  unfold blocks
  rw [List.mem_filter, List.mem_range, i.mem]
  exact ⟨fun h => h.2, fun h => ⟨i.lt n ((i.mem n).2 h), h⟩⟩
theorem blocks_up (c : Cm) : (blocks c).Pairwise (· < ·) := List.Pairwise.sublist List.filter_sublist List.pairwise_lt_range
theorem blocks_nd (c : Cm) : (blocks c).Nodup := (blocks_up c).imp Nat.ne_of_lt
theorem blocks_len {S : Nat} {c : Cm} (i : Inv S c) : (blocks c).length = (que c.B).length := ((List.perm_ext_iff_of_nodup (blocks_nd c) i.nd).2 fun n => mem_blocks i n).length_eq
theorem all_len (c : Cm) : (allC c).length = (blocks c).length := List.length_map ..
theorem up_ext : ∀ {l k : List Nat}, l.Pairwise (· < ·) → k.Pairwise (· < ·) → (∀ n, n ∈ l ↔ n ∈ k) → l = k := fun {l k} h1 h2 h =>
  List.Perm.eq_of_pairwise (le := fun a b => a ≤ b) (fun a b _ _ g1 g2 => by omega) (h1.imp Nat.le_of_lt) (h2.imp Nat.le_of_lt) ((List.perm_ext_iff_of_nodup (h1.imp Nat.ne_of_lt) (h2.imp Nat.ne_of_lt)).2 h)
def dirtyB (c : Cm) (n : Nat) : Bool := (ev c n).2.2
def addT (c : Cm) (l : List Nat) (n : Nat) : List Nat := if dirtyB c n = true ∧ n / 4 ∉ l then l ++ [n / 4] else l
theorem foldT (c : Cm) : ∀ (bs l : List Nat), bs.Pairwise (· < ·) → l.Pairwise (· < ·) → (∀ t ∈ l, ∀ n ∈ bs, t ≤ n / 4) →
    (bs.foldl (addT c) l).Pairwise (· < ·) ∧ ∀ t, t ∈ bs.foldl (addT c) l ↔ t ∈ l ∨ ∃ n ∈ bs, dirtyB c n = true ∧ n / 4 = t
  | [], l, _, h2, _ => ⟨h2, fun t => by simp⟩
  | n :: bs, l, h1, h2, h3 => by
    have h1' := List.pairwise_cons.1 h1
    rw [List.foldl_cons]
    have key : (addT c l n).Pairwise (· < ·) ∧ (∀ t, t ∈ addT c l n ↔ t ∈ l ∨ dirtyB c n = true ∧ n / 4 = t) := by
      unfold addT
      by_cases hd : dirtyB c n = true ∧ n / 4 ∉ l
      · rw [if_pos hd]
        refine ⟨List.pairwise_append.2 ⟨h2, List.pairwise_singleton _ _, fun a ha b hb => ?_⟩, fun t => ?_⟩
        · rw [List.mem_singleton.1 hb]
          have := h3 a ha n (by simp)
          have : a ≠ n / 4 := fun e => hd.2 (e ▸ ha)
          omega
        · rw [List.mem_append, List.mem_singleton]
          exact ⟨fun h => h.imp id fun e => ⟨hd.1, e.symm⟩, fun h => h.imp id fun e => e.2.symm⟩
      · rw [if_neg hd]
        refine ⟨h2, fun t => ⟨.inl, fun h => h.elim id fun ⟨e1, e2⟩ => ?_⟩⟩
        subst e2
        exact Classical.not_not.1 fun hn => hd ⟨e1, hn⟩
    obtain ⟨k1, k2⟩ := key
    have ih := foldT c bs (addT c l n) h1'.2 k1 fun t ht m hm => by
      rcases (k2 t).1 ht with h | ⟨_, e⟩
      · exact h3 t h m (List.mem_cons_of_mem _ hm)
      · have : n < m := h1'.1 m hm
        omega
    refine ⟨ih.1, fun t => ?_⟩
    rw [ih.2, k2]
    constructor
    · rintro ((h | h) | ⟨m, hm, h⟩)
      · exact .inl h
      · exact .inr ⟨n, by simp, h⟩
      · exact .inr ⟨m, List.mem_cons_of_mem _ hm, h⟩
    · rintro (h | ⟨m, hm, h⟩)
      · exact .inl (.inl h)
      · rcases List.mem_cons.1 hm with rfl | hm
        · exact .inl (.inr h)
        · exact .inr ⟨m, hm, h⟩
theorem mem_dirty {c : Cm} {t : Int} {z : En} : z ∈ dirtyC c t ↔ ∃ n ∈ blocks c, z = ev c n ∧ dirtyB c n = true ∧ ((n / 4 : Nat) : Int) = t := by
  unfold dirtyC allC
  rw [List.mem_filter, List.mem_map]
  constructor
  · rintro ⟨⟨n, hn, rfl⟩, h⟩
    unfold dirt at h
    rw [Bool.and_eq_true, decide_eq_true_iff] at h
    exact ⟨n, hn, rfl, h.1, h.2⟩
  · rintro ⟨n, hn, rfl, h1, h2⟩
    refine ⟨⟨n, hn, rfl⟩, ?_⟩
    unfold dirt
    rw [Bool.and_eq_true, decide_eq_true_iff]
    exact ⟨h1, h2⟩
theorem tables_fold (c : Cm) : (blocks c).foldl (addT c) [] = tablesC c := by
  obtain ⟨h1, h2⟩ := foldT c (blocks c) [] (blocks_up c) List.Pairwise.nil fun t ht => by simp at ht
  refine up_ext h1 (List.Pairwise.sublist List.filter_sublist List.pairwise_lt_range) fun t => ?_
  rw [h2]
  unfold tablesC
  rw [List.mem_filter, List.mem_range]
  constructor
  · rintro (h | ⟨n, hn, hd, rfl⟩)
    · simp at h
    · have h64 : n < 64 := by unfold blocks at hn; rw [List.mem_filter, List.mem_range] at hn; exact hn.1
      refine ⟨by omega, ?_⟩
      have : ev c n ∈ dirtyC c ((n / 4 : Nat) : Int) := mem_dirty.2 ⟨n, hn, rfl, hd, rfl⟩
      cases hh : dirtyC c ((n / 4 : Nat) : Int) with
      | nil => rw [hh] at this; simp at this
      | cons a l => rfl
  · rintro ⟨h16, h⟩
    cases hh : dirtyC c (t : Int) with
    | nil => rw [hh] at h; simp at h
    | cons a l =>
      have : a ∈ dirtyC c (t : Int) := by rw [hh]; simp
      obtain ⟨n, hn, _, hd, e⟩ := mem_dirty.1 this
      exact .inr ⟨n, hn, hd, by omega⟩
theorem dirty_len16 (c : Cm) : (tablesC c).length ≤ 16 := by
  unfold tablesC
  refine Nat.le_trans (List.length_filter_le _ _) ?_
  simp
end Go.Proofs.YtfanjfbenhocnaaGreatDoor.Ca
