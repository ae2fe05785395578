/-
  The reference of fault: Wrap, Trail, Place, Same.
-/
import Derived.Test.YtogeildomhahjaaDoorWR1
import Derived.Test.YtogeildomhahjaaDoorErr5
namespace Go.Proofs.YtogeildomhahjaaDoor.Err
open Go.RowKit Go.Extern.Stop Go.Stop Go.Extern Go.Pl Go.Proofs.YtogeildomhahjaaDoor.W Go.Proofs.YtogeildomhahjaaDoor.As
/-- The cells of a row of steps. -/
def cellsP (ps : List (ByteArray × Int)) : List Value := ps.flatMap fun p => [.string p.1, .int .i64 p.2]
theorem cellsP_len (ps : List (ByteArray × Int)) : (cellsP ps).length = ps.length * 2 := by
  induction ps with
  | nil => rfl
  | cons p ps ih => simp only [cellsP, List.flatMap_cons, List.length_append, List.length_cons, List.length_nil] at ih ⊢; omega
theorem cellsP_at {ps : List (ByteArray × Int)} {i : Nat} {p : ByteArray × Int} (h : ps[i]? = some p) : (cellsP ps)[i * 2]? = some (.string p.1) ∧ (cellsP ps)[i * 2 + 1]? = some (.int .i64 p.2) := by
  induction ps generalizing i with
  | nil => simp at h
  | cons q ps ih =>
    cases i with
    | zero => simp only [List.getElem?_cons_zero, Option.some.injEq] at h; subst h; exact ⟨rfl, rfl⟩
    | succ i =>
      rw [List.getElem?_cons_succ] at h
      have k := ih h
      have e1 : cellsP (q :: ps) = .string q.1 :: .int .i64 q.2 :: cellsP ps := rfl
      rw [e1, show (i + 1) * 2 = (i * 2) + 1 + 1 by omega, show (i * 2) + 1 + 1 + 1 = (i * 2 + 1) + 1 + 1 by omega]
      simp only [List.getElem?_cons_succ]
      exact k
theorem cellsP_one (ps : List (ByteArray × Int)) : ∀ u ∈ cellsP ps, u.oneCell' = true := by
  intro u hu
  simp only [cellsP, List.mem_flatMap] at hu
  obtain ⟨p, _, hu⟩ := hu
  simp only [List.mem_cons, List.not_mem_nil, or_false] at hu
  rcases hu with rfl | rfl <;> rfl
theorem wrapI {n : Nat} (h : n ≤ 1000000) : IntKind.wrap .i64 ((n : Int) + 1) = ((n + 1 : Nat) : Int) := by rw [wrap_i64 (by omega) (by omega)]; rfl
theorem zeroF1 : zeroC Tryd.prog 74 = #[.slice none 0 0, .int .i64 0] := by kernel_rfl
/-- The reference's fault. -/
def RefF (h : Heap) (base : Nat) (v : Value) (ps : List (ByteArray × Int)) (e : Int) : Prop := ∃ a c, v = .agg #[.slice a ps.length c, .int .i64 e] ∧ OwnH h base 107 2 a ps.length c (cellsP ps)
theorem rwrap_zero (op : ByteArray) (at_ : Int) (a : Option Addr) (n c : Nat) (h : Heap) :
    CallsH Tryd.prog 49 [.string op, .int .i64 at_, .agg #[.slice a n c, .int .i64 0]] h fun r h' => r = .agg #[.slice none 0 0, .int .i64 0] ∧ New h h' := by
  refine fun_ok hm' Tryd.func49 (by kernel_rfl) (F49_eq _ _ _ _ _ _ _ h) ?_
  unfold F49
  refine new_of fun h1 b1 n1 s1 => ?_
  rw [zeroF1]
  refine new_of fun h2 b2 n2 s2 => ?_
  refine ld_of (c := .int .i64) (0 : Int) (by rw [add_mk, cellH_blk (b1.new n2)]; rfl) (br_t rfl ?_)
  refine stL_blk b2 (by simp) fun h3 b3 o3 => ?_
  refine ldAgg_blk (cs := [.slice, .int .i64]) ((none, 0, 0), (0 : Int)) b3 ⟨rfl, rfl, trivial⟩ ⟨rfl, n1.trans (o3.upd.new n2 (Nat.le_refl _))⟩
theorem rwrap_ok (op : ByteArray) (at_ : Int) (a : Option Addr) (c : Nat) (ps : List (ByteArray × Int)) (e : Int) (base : Nat) (h : Heap) (ow : OwnH h base 107 2 a ps.length c (cellsP ps)) (he : e ≠ 0) (hl : ps.length ≤ 1000) :
    CallsH Tryd.prog 49 [.string op, .int .i64 at_, .agg #[.slice a ps.length c, .int .i64 e]] h fun r h' => RefF h' h.size r ((op, at_) :: ps) e ∧ New h h' := by
  refine fun_ok hm' Tryd.func49 (by kernel_rfl) (F49_eq _ _ _ _ _ _ _ h) ?_
  unfold F49
  refine new_of fun h1 b1 n1 s1 => ?_
  rw [zeroF1]
  refine new_of fun h2 b2 n2 s2 => ?_
  have b12 := b1.new n2
  have hc : cellH h2 ⟨h.size, 1, none⟩ = some (.int .i64 e) := by rw [cellH_blk b12]; rfl
  refine ld_of (c := .int .i64) e hc (br_f (by simpa using he) ?_)
  refine ld_of (c := .slice) (a, ps.length, c) (by rw [add_mk, cellH_blk b12]; rfl) (ld_of (c := .int .i64) e hc ?_)
  refine new_of fun h3 b3 n3 s3 => ?_
  have o1 : OwnH h3 h2.size 107 2 (some ⟨h2.size, 0, none⟩) 1 1 [.string op, .int .i64 at_] := OwnH.of_blk (n := 1) b3 (Nat.le_refl _) rfl (by simp [maxLen])
  have n03 : New h h3 := (n1.trans n2).trans n3
  have ow3 := ow.grow n03
  have fin : ∀ a' c' h4, OwnH h4 h2.size 107 2 a' (ps.length + 1) c' (cellsP ((op, at_) :: ps)) → UpdO (blkOf (some ⟨h2.size, 0, none⟩)) h3 h4 →
      (cellH h4 (Addr.add ⟨h.size, 0, none⟩ 1) = some (.int .i64 e) ∧ stLW ⟨h1.size, 0, none⟩ [.slice a' (ps.length + 1) c', .int .i64 e] (fun h16 =>
        (cellH h16 (Addr.add ⟨h.size, 0, none⟩ 1) = some (.int .i64 e) ∧ ldAggW [.slice, .int .i64] ⟨h1.size, 0, none⟩ (fun (x17 : (Option Addr × Nat × Nat) × Int) =>
          RefF h16 h.size (.agg #[.slice x17.1.1 x17.1.2.1 x17.1.2.2, .int .i64 x17.2]) ((op, at_) :: ps) e ∧ New h h16) h16)) h4) := by
    intro a' c' h4 o4 u4
    have ab : Abo h2.size h3 h4 := u4.abo fun g hg => by injection hg with hg; simp at hg; omega
    have b14 := (b12.new n3).abo ab (by omega)
    have b24 := (b2.new n3).abo ab (by omega)
    refine ⟨by rw [add_mk, cellH_blk b14]; rfl, ?_⟩
    refine stL_blk b24 (by simp) fun h5 b5 o5 => ?_
    have b15 : Blk h5 h.size _ _ := (o5.same h.size (by omega)).trans b14
    refine ⟨by rw [add_mk, cellH_blk b15]; rfl, ?_⟩
    refine ldAgg_blk (cs := [.slice, .int .i64]) ((a', ps.length + 1, c'), e) b5 ⟨rfl, rfl, trivial⟩ ⟨⟨a', c', rfl, (OwnH.upd o4 o5.upd fun hh => by have := (o4.blk_ge _ hh).1; omega).low (by omega)⟩, ?_⟩
    have n4 : New h h4 := Abo.from n03 ab (by omega)
    exact o5.upd.new n4 (by omega)
  rcases ow.row.2 with ⟨rfl, hz, rfl⟩ | ⟨g, cur, rfl, _⟩
  · have hz : ps = [] := List.length_eq_zero_iff.1 hz
    subst hz
    exact ap_none (bytes := 24) (by kernel_rfl) o1 (fin _ _ _ o1 ⟨Nat.le_refl _, fun _ _ _ => rfl⟩)
  · refine ap_own (bytes := 24) (by kernel_rfl) (by omega) o1 (cellsP ps) (cellsP_len ps) (fun j u hu => ?_) (cellsP_one ps) (by simp [maxLen]; omega) (by omega) (by omega) fun a' c' h4 o4 u4 => ?_
    · obtain ⟨g', e', _, hc'⟩ := ow3.cell hu
      injection e' with e'
      injection e' with e'
      subst e'
      rw [add_mk, Nat.zero_add]; exact hc'
    · rw [Nat.add_comm] at o4 ⊢
      exact fin a' c' h4 o4 u4
/-- The reference's Trail. -/
theorem rtrail_ok (a : Option Addr) (c : Nat) (ps : List (ByteArray × Int)) (e : Int) (base : Nat) (h : Heap) (ow : OwnH h base 107 2 a ps.length c (cellsP ps)) (hl : ps.length ≤ 1000) :
    CallsH Tryd.prog 43 [.agg #[.slice a ps.length c, .int .i64 e]] h fun r h' => StrsF h h' r (ps.map (·.1)) := by
  refine fun_ok hm' Tryd.func43 (by kernel_rfl) (F43_eq _ _ _ _ _ h) ?_
  unfold F43
  refine new_of fun h1 b1 n1 s1 => ?_
  refine new_of fun h2 b2 n2 s2 => ?_
  have o2 : OwnH h2 h1.size 9 1 (some ⟨h1.size, 0, none⟩) 0 0 [] := OwnH.of_blk (n := 0) b2 (Nat.le_refl _) rfl (by simp [maxLen])
  refine ⟨fun (s : (Option Addr × Nat × Nat) × Int) h' => ∃ i : Nat, s.2 = i ∧ i ≤ ps.length ∧ s.1.2.1 = i ∧ OwnH h' h1.size 9 1 s.1.1 i s.1.2.2 (((ps.take i).map (·.1)).map Value.string) ∧ Abo h1.size h2 h', fun (s : (Option Addr × Nat × Nat) × Int) _ => ((ps.length : Int) - s.2).toNat, ⟨0, rfl, by omega, rfl, by simpa using o2, Abo.refl _ _⟩, ?_⟩
  rintro ⟨⟨b, n, cc⟩, s⟩ _ h3 ⟨i, hs, hi, hn, ow3, ab⟩
  simp only at hs hn ow3
  subst hs hn
  have b13 := (b1.new n2).abo ab (by omega)
  have n3 : New h h3 := Abo.from (n1.trans n2) ab (by omega)
  have sl : ∀ {F : Option Addr × Nat × Nat → Prop}, F (a, ps.length, c) → ldW .slice (Addr.add ⟨h.size, 0, none⟩ 0) F h3 := fun hF => ld_of (c := .slice) (a, ps.length, c) (by rw [add_mk, cellH_blk b13]; rfl) hF
  refine sl ?_
  by_cases hlt : n < ps.length
  · refine br_t (by simpa using hlt) (sl ?_)
    obtain ⟨p, hp⟩ : ∃ p, ps[n]? = some p := ⟨_, List.getElem?_eq_getElem hlt⟩
    obtain ⟨g, rfl, _, hc⟩ := (ow.grow n3).cell (cellsP_at hp).1
    refine ptr_of ⟨⟨show 0 ≤ ((n : Nat) : Int) ∧ ((n : Nat) : Int) < (ps.length : Int) by omega, rfl⟩, ld_of (c := .str) p.1 (by simp only [add_mk, Int.toNat_natCast, Nat.zero_add, Nat.add_zero]; exact hc) ?_⟩
    have l3 := b13.lt
    have hsz := ab.size
    refine pushV (bytes := 16) (by kernel_rfl) ow3 rfl (by omega) (by decide) (by omega) fun a' c' h4 ow4 ab4 => ?_
    refine ⟨⟨n + 1, wrapI (by omega), by omega, rfl, ?_, ab.trans ab4⟩, ?_⟩
    · have e1 : ps.take (n + 1) = ps.take n ++ [p] := by rw [List.take_add_one, hp]; rfl
      rw [e1]; simpa using ow4
    · have : IntKind.wrap .i64 ((n : Int) + 1) = ((n + 1 : Nat) : Int) := wrapI (by omega)
      simp only [this]
      omega
  · obtain rfl : n = ps.length := by omega
    refine br_f (by simp) ⟨b, cc, by simp, ?_, n3⟩
    rw [List.take_length] at ow3
    simpa using ow3.low (by omega)
/-- The reference's Place. -/
theorem rplace_ok (a : Option Addr) (c : Nat) (ps : List (ByteArray × Int)) (e : Int) (op : ByteArray) (base : Nat) (h : Heap) (ow : OwnH h base 107 2 a ps.length c (cellsP ps)) (hl : ps.length ≤ 1000) :
    CallsH Tryd.prog 40 [.agg #[.slice a ps.length c, .int .i64 e], .string op] h fun r h' => r = .tuple #[.int .i64 (placeL ps op).1, .bool (placeL ps op).2] ∧ New h h' := by
  refine fun_ok hm' Tryd.func40 (by kernel_rfl) (F40_eq _ _ _ _ _ _ h) ?_
  unfold F40
  refine new_of fun h1 b1 n1 s1 => ?_
  refine ⟨fun (s : Int) h' => h' = h1 ∧ ∃ i : Nat, s = i ∧ i ≤ ps.length ∧ placeL ps op = placeL (ps.drop i) op, fun (s : Int) _ => ((ps.length : Int) - s).toNat, ⟨rfl, 0, rfl, by omega, rfl⟩, ?_⟩
  rintro s _ h3 ⟨hh, n, rfl, hi, hp0⟩
  subst h3
  have sl : ∀ {F : Option Addr × Nat × Nat → Prop}, F (a, ps.length, c) → ldW .slice (Addr.add ⟨h.size, 0, none⟩ 0) F h1 := fun hF => ld_of (c := .slice) (a, ps.length, c) (by rw [add_mk, cellH_blk b1]; rfl) hF
  refine sl ?_
  by_cases hlt : n < ps.length
  · refine br_t (by simpa using hlt) (sl ?_)
    obtain ⟨p, hp⟩ : ∃ p, ps[n]? = some p := ⟨_, List.getElem?_eq_getElem hlt⟩
    have hd : ps.drop n = p :: ps.drop (n + 1) := by
      rw [List.drop_eq_getElem_cons hlt]
      rw [List.getElem?_eq_getElem hlt] at hp
      injection hp with hp
      rw [hp]
    have cc := cellsP_at hp
    obtain ⟨g, rfl, _, hc⟩ := (ow.grow n1).cell cc.1
    obtain ⟨g', e', _, hc'⟩ := (ow.grow n1).cell cc.2
    injection e' with e'
    injection e' with e'
    subst e'
    have hx : 0 ≤ ((n : Nat) : Int) ∧ ((n : Nat) : Int) < (ps.length : Int) := by omega
    refine ptr_of ⟨⟨hx, rfl⟩, ld_of (c := .str) p.1 (by simp only [add_mk, Int.toNat_natCast, Nat.zero_add, Nat.add_zero]; exact hc) ?_⟩
    cases ho : (p.1.toList == op.toList) with
    | true =>
      refine br_t rfl (sl (ptr_of ⟨⟨hx, rfl⟩, ld_of (c := .int .i64) p.2 (by simp only [add_mk, Int.toNat_natCast, Nat.zero_add]; exact hc') ?_⟩))
      exact ⟨by rw [hp0, hd]; simp [placeL, ho], n1⟩
    | false =>
      have hw := wrapI (n := n) (by omega)
      refine br_f rfl ⟨⟨rfl, n + 1, hw, by omega, by rw [hp0, hd]; simp [placeL, ho]⟩, ?_⟩
      simp only [hw]
      omega
  · obtain rfl : n = ps.length := by omega
    rw [List.drop_length] at hp0
    exact br_f (by simp) ⟨by rw [hp0]; rfl, n1⟩
/-- Strings stand one behind the other. -/
def StrAt (h : Heap) (a : Option Addr) (xs : List ByteArray) : Prop := ∀ (i : Nat) (x : ByteArray), xs[i]? = some x → ∃ b o, a = some ⟨b, o, none⟩ ∧ b < h.size ∧ cellH h ⟨b, o + i, none⟩ = some (.string x)
theorem StrAt.new {h h' : Heap} {a : Option Addr} {xs : List ByteArray} (r : StrAt h a xs) (n : New h h') : StrAt h' a xs := fun i x hx => by
  obtain ⟨b, o, e, hb, hc⟩ := r i x hx
  exact ⟨b, o, e, Nat.lt_of_lt_of_le hb n.size, by rw [cellH_new n (a := ⟨b, o + i, none⟩) hb]; exact hc⟩
theorem StrAt.own {h : Heap} {base n c : Nat} {T : TypeId} {a : Option Addr} {xs : List ByteArray} (o : OwnH h base T 1 a n c (xs.map Value.string)) : StrAt h a xs := fun i x hx => by
  obtain ⟨g, rfl, _, hc⟩ := o.cell (j := i) (u := .string x) (by rw [List.getElem?_map, hx]; rfl)
  exact ⟨g, 0, rfl, (o.blk_ge g rfl).2, by rw [Nat.zero_add]; exact hc⟩
/-- The reference's Same. -/
theorem rsame_ok (a b : Option Addr) (c d : Nat) (xs ys : List ByteArray) (h : Heap) (hx : StrAt h a xs) (hy : StrAt h b ys) (hl : xs.length ≤ 1000) :
    CallsH Tryd.prog 41 [.slice a xs.length c, .slice b ys.length d] h fun r h' => r = .bool (decide (xs.map ByteArray.toList = ys.map ByteArray.toList)) ∧ h' = h := by
  refine fun_ok hm' Tryd.func41 (by kernel_rfl) (F41_eq _ _ _ _ _ _ _ h) ?_
  unfold F41
  by_cases hlen : xs.length = ys.length
  · refine br_f (by simp [hlen]) ?_
    refine ⟨fun (s : Int) h' => h' = h ∧ ∃ i : Nat, s = i ∧ i ≤ xs.length ∧ (xs.take i).map ByteArray.toList = (ys.take i).map ByteArray.toList, fun (s : Int) _ => ((xs.length : Int) - s).toNat, ⟨rfl, 0, rfl, by omega, rfl⟩, ?_⟩
    rintro s _ h3 ⟨hh, n, rfl, hi, hp0⟩
    subst h3
    by_cases hlt : n < xs.length
    · obtain ⟨p, hp⟩ : ∃ p, xs[n]? = some p := ⟨_, List.getElem?_eq_getElem hlt⟩
      obtain ⟨q, hq⟩ : ∃ q, ys[n]? = some q := ⟨_, List.getElem?_eq_getElem (by omega)⟩
      obtain ⟨b1, o1, rfl, _, c1⟩ := hx n p hp
      obtain ⟨b2, o2, rfl, _, c2⟩ := hy n q hq
      refine br_t (by simpa using hlt) (ptr_of ⟨⟨show 0 ≤ ((n : Nat) : Int) ∧ ((n : Nat) : Int) < (xs.length : Int) by omega, rfl⟩, ld_of (c := .str) p (by simp only [add_mk, Int.toNat_natCast, Nat.mul_one]; exact c1) ?_⟩)
      refine ptr_of ⟨⟨show 0 ≤ ((n : Nat) : Int) ∧ ((n : Nat) : Int) < (ys.length : Int) by omega, rfl⟩, ld_of (c := .str) q (by simp only [add_mk, Int.toNat_natCast, Nat.mul_one]; exact c2) ?_⟩
      by_cases hpq : p.toList = q.toList
      · refine br_f (by simp [hpq]) ?_
        have hw := wrapI (n := n) (by omega)
        refine ⟨⟨rfl, n + 1, hw, by omega, ?_⟩, by simp only [hw]; omega⟩
        rw [List.take_add_one, List.take_add_one, hp, hq, List.map_append, List.map_append, hp0]
        simp [hpq]
      · refine br_t (by simp [hpq]) ⟨?_, rfl⟩
        have : ¬ (xs.map ByteArray.toList = ys.map ByteArray.toList) := fun e => hpq (by
          have := congrArg (·[n]?) e
          simp only [List.getElem?_map, hp, hq, Option.map_some, Option.some.injEq] at this
          exact this)
        rw [decide_eq_false this]
    · obtain rfl : n = xs.length := by omega
      refine br_f (by simp) ⟨?_, rfl⟩
      rw [List.take_length, hlen, List.take_length] at hp0
      rw [decide_eq_true hp0]
  · refine br_t (by simpa using fun e => hlen (by omega)) ⟨?_, rfl⟩
    have : ¬ (xs.map ByteArray.toList = ys.map ByteArray.toList) := fun e => hlen (by simpa using congrArg List.length e)
    rw [decide_eq_false this]
end Go.Proofs.YtogeildomhahjaaDoor.Err
