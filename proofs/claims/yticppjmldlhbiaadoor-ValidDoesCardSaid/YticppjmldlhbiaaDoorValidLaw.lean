/-
  What awake of layer 11 comes to.
-/
import Derived.Test.YticppjmldlhbiaaDoorValid
import Derived.Test.YticppjmldlhbiaaDoorSame
namespace Go.Proofs.YticppjmldlhbiaaDoor.Valid
open Go.Pl Go.Proofs.YticppjmldlhbiaaDoor.W Go.Proofs.YticppjmldlhbiaaDoor.Geo
/-- The state of a law: the set stands at b, its words at q, both new since h. -/
structure At (h h' : Heap) (b q z p B : Nat) (W : Nat → Nat) : Prop where
  ok : VAt h' b q z p B W
  new : New h h'
  gb : h.size ≤ b
  gq : h.size ≤ q
theorem At.to {h h1 h2 : Heap} {b q z p B : Nat} {W : Nat → Nat} (a : At h h1 b q z p B W) (n : New h1 h2) : At h h2 b q z p B W := ⟨a.ok.new n, a.new.trans n, a.gb, a.gq⟩
theorem At.upd {h h1 h2 : Heap} {b q z p B : Nat} {W W' : Nat → Nat} (a : At h h1 b q z p B W) (u : Upd q h1 h2) (v : VAt h2 b q z p B W') : At h h2 b q z p B W' := ⟨v, u.new a.new a.gq, a.gb, a.gq⟩
theorem own_u {h : Heap} {base n c : Nat} {a : Option Addr} {xs : List Int} (o : OwnH h base 25 1 a n c (uI xs)) : ∀ i x, xs[i]? = some x → ∃ p, a = some p ∧ cellH h (p.add i) = some (.int .u32 x) := by
  intro i x hx
  have : (uI xs)[i]? = some (.int .u32 x) := by simp [uI, hx]
  obtain ⟨g, rfl, _, hc⟩ := o.cell this
  exact ⟨_, rfl, by rw [add_mk, Nat.zero_add]; exact hc⟩
theorem own_i {h : Heap} {base n c : Nat} {a : Option Addr} {xs : List Int} (o : OwnH h base 3 1 a n c (vI xs)) : ∀ i x, xs[i]? = some x → ∃ p, a = some p ∧ cellH h (p.add i) = some (.int .i64 x) := by
  intro i x hx
  have : (vI xs)[i]? = some (.int .i64 x) := by simp [vI, hx]
  obtain ⟨g, rfl, _, hc⟩ := o.cell this
  exact ⟨_, rfl, by rw [add_mk, Nat.zero_add]; exact hc⟩
theorem blk_u {h : Heap} {b : Nat} {xs : List Int} {T : TypeId} (hb : Blk h b (uI xs).toArray T) : ∀ i x, xs[i]? = some x → ∃ p, (some (⟨b, 0, none⟩ : Addr)) = some p ∧ cellH h (p.add i) = some (.int .u32 x) := by
  intro i x hx
  exact ⟨_, rfl, by rw [add_mk, Nat.zero_add, cellH_blk hb]; simp [uI, hx]⟩
theorem blk_i {h : Heap} {b : Nat} {xs : List Int} {T : TypeId} (hb : Blk h b (vI xs).toArray T) : ∀ i x, xs[i]? = some x → ∃ p, (some (⟨b, 0, none⟩ : Addr)) = some p ∧ cellH h (p.add i) = some (.int .i64 x) := by
  intro i x hx
  exact ⟨_, rfl, by rw [add_mk, Nat.zero_add, cellH_blk hb]; simp [vI, hx]⟩
/- PLAIN: what a mark and an unmark do to the counts. -/
theorem cnt_at (z : Nat) (W : Nat → Nat) {n : Nat} (h : n < z - 2) : cntW z W (n : Int) = Ones.popN (W n) 32 := if_pos ⟨by omega, by omega⟩
theorem totW_ne (z : Nat) (W : Nat → Nat) (i v : Nat) : ∀ n, n ≤ i → n ≤ z - 2 → totW z (updW W i v) n = totW z W n
  | 0, _, _ => rfl
  | n + 1, h, hz => by
    simp only [totW]
    rw [totW_ne z W i v n (by omega) (by omega), cnt_at z _ (show n < z - 2 by omega), cnt_at z _ (show n < z - 2 by omega)]
    simp [updW, show n ≠ i by omega]
theorem totW_upd (z : Nat) (W : Nat → Nat) (i v : Nat) : ∀ n, i < n → n ≤ z - 2 → totW z (updW W i v) n + Ones.popN (W i) 32 = totW z W n + Ones.popN v 32
  | n + 1, h, hz => by
    simp only [totW]
    rw [cnt_at z _ (show n < z - 2 by omega), cnt_at z _ (show n < z - 2 by omega)]
    by_cases e : i = n
    · subst e
      rw [totW_ne z W i v i (Nat.le_refl _) (by omega)]
      simp [updW]; omega
    · have := totW_upd z W i v n (by omega) (by omega)
      have h2 : updW W i v n = W n := by simp [updW, Ne.symm e]
      rw [h2]; omega
theorem mark_tot {z p : Nat} {W : Nat → Nat} {a : Int} (hz : 11 ≤ z ∧ z ≤ 24) (hp : 4 ≤ p ∧ p ≤ 16) (ha : 0 ≤ a) :
    totW z (markW z p W a) (z - 2) = totW z W (z - 2) + (if ((atF z p a).2.2 && !liveB z p W a) = true then 1 else 0) := by
  unfold markW liveB
  cases hc : (atF z p a).2.2 with
  | false => simp
  | true =>
    have f := at_facts (z := z) (p := p) (a := a) (by omega) ha hc
    generalize (atF z p a).1 = zn at f ⊢
    generalize (atF z p a).2.1 = pg at f ⊢
    have hi : zn.toNat < z - 2 := by omega
    simp only [if_true, Bool.true_and]
    have hu := totW_upd z W zn.toNat (W zn.toNat ||| 2 ^ pg.toNat) (z - 2) hi (Nat.le_refl _)
    cases hb : (W zn.toNat).testBit pg.toNat with
    | true => rw [Ones.same_or hb] at hu ⊢; simp; omega
    | false => rw [Ones.popN_or (by omega) hb] at hu; simp; omega
theorem unmark_tot {z p : Nat} {W : Nat → Nat} {a : Int} (hz : 11 ≤ z ∧ z ≤ 24) (hp : 4 ≤ p ∧ p ≤ 16) (ha : 0 ≤ a) (hw : ∀ i, i < z - 2 → W i < 4294967296) :
    totW z (unW z p W a) (z - 2) + (if liveB z p W a = true then 1 else 0) = totW z W (z - 2) := by
  unfold unW liveB
  cases hc : (atF z p a).2.2 with
  | false => simp
  | true =>
    have f := at_facts (z := z) (p := p) (a := a) (by omega) ha hc
    generalize (atF z p a).1 = zn at f ⊢
    generalize (atF z p a).2.1 = pg at f ⊢
    have hi : zn.toNat < z - 2 := by omega
    simp only [if_true, Bool.true_and]
    have hu := totW_upd z W zn.toNat (W zn.toNat &&& (4294967295 - 2 ^ pg.toNat)) (z - 2) hi (Nat.le_refl _)
    cases hb : (W zn.toNat).testBit pg.toNat with
    | true => have := Ones.popN_clear (k := pg.toNat) (by omega) hb; simp; omega
    | false => rw [Ones.same_clear (hw _ hi) (by omega) hb] at hu ⊢; simp; omega
theorem at_of {z p zone g : Nat} (hz : 11 ≤ z ∧ z ≤ 24) (hp : 4 ≤ p ∧ p ≤ 16) (h1 : zone < z - 2) (h2 : g < p) : atF z p (ofF z p zone g) = ((zone : Int), (g : Int), true) ∧ ofF z p zone g = ((zone * p + g + 1 : Nat) : Int) := by
  have e : ofF z p zone g = ((zone * p + g + 1 : Nat) : Int) := by
    unfold ofF; rw [if_pos (by omega)]; simp
  have hm : (zone + 1) * p ≤ (z - 2) * p := Nat.mul_le_mul_right p (by omega)
  rw [Nat.add_mul, Nat.one_mul] at hm
  have ez : ((z : Int) - 2) * (p : Int) = (((z - 2) * p : Nat) : Int) := by rw [show (z : Int) - 2 = ((z - 2 : Nat) : Int) by omega]; simp
  refine ⟨?_, e⟩
  rw [e]
  unfold atF
  rw [if_neg (by rw [ez]; omega)]
  have e1 : ((zone * p + g + 1 : Nat) : Int) - 1 = ((p * zone + g : Nat) : Int) := by rw [Nat.mul_comm]; omega
  rw [e1, ← Int.natCast_ediv, ← Int.natCast_emod, Nat.mul_add_div (by omega), Nat.div_eq_of_lt h2, Nat.mul_add_mod, Nat.mod_eq_of_lt h2]
  simp
theorem live_of {z p zone g : Nat} {W : Nat → Nat} (hz : 11 ≤ z ∧ z ≤ 24) (hp : 4 ≤ p ∧ p ≤ 16) (h1 : zone < z - 2) (h2 : g < p) : liveB z p W (ofF z p zone g) = (W zone).testBit g := by
  simp [liveB, (at_of hz hp h1 h2).1]
theorem ofL_pop {z p zone : Nat} {W : Nat → Nat} (hz : 11 ≤ z ∧ z ≤ 24) (hp : 4 ≤ p ∧ p ≤ 16) (h1 : zone < z - 2) : ∀ n, n ≤ p → (ofL z p W zone n).length = Ones.popN (W zone) n
  | 0, _ => rfl
  | n + 1, h => by
    rw [ofL_succ, List.length_append, ofL_pop hz hp h1 n (by omega), live_of hz hp h1 (show n < p by omega), Ones.popN]
    cases (W zone).testBit n <;> simp
theorem pop_all {x p : Nat} (hx : x < 2 ^ p) : ∀ n, p ≤ n → Ones.popN x n = Ones.popN x p
  | 0, h => by rw [show p = 0 by omega]
  | n + 1, h => by
    by_cases e : p = n + 1
    · rw [e]
    · have : x.testBit n = false := Nat.testBit_lt_two_pow (Nat.lt_of_lt_of_le hx (Nat.pow_le_pow_right (by omega) (by omega)))
      rw [Ones.popN, pop_all hx n (by omega), this]; rfl
theorem ofL_cnt {z p zone : Nat} {W : Nat → Nat} (hz : 11 ≤ z ∧ z ≤ 24) (hp : 4 ≤ p ∧ p ≤ 16) (h1 : zone < z - 2) (hw : W zone < 2 ^ p) : (ofL z p W zone p).length = cntW z W (zone : Int) := by
  rw [ofL_pop hz hp h1 p (Nat.le_refl _), cnt_at z W h1, pop_all hw 32 (by omega)]
theorem un_dead {z p : Nat} {W : Nat → Nat} {a : Int} (hp : 4 ≤ p ∧ p ≤ 16) (ha : 0 ≤ a) : liveB z p (unW z p W a) a = false := by
  unfold unW liveB
  cases hc : (atF z p a).2.2 with
  | false => rfl
  | true =>
    have f := at_facts (z := z) (p := p) (a := a) (by omega) ha hc
    generalize (atF z p a).1 = zn at f ⊢
    generalize (atF z p a).2.1 = pg at f ⊢
    simp only [if_true, Bool.true_and, updW]
    rw [Ones.bit_clear (by omega) (by omega)]; simp
/-- What stands in the row of a zone: live, of that zone; the row rises. -/
theorem ofL_get {z p zone : Nat} {W : Nat → Nat} (hz : 11 ≤ z ∧ z ≤ 24) (hp : 4 ≤ p ∧ p ≤ 16) (h1 : zone < z - 2) : ∀ n, n ≤ p → ∀ a ∈ ofL z p W zone n, liveB z p W a = true ∧ ∃ g : Nat, g < n ∧ a = ((zone * p + g + 1 : Nat) : Int) ∧ atF z p a = ((zone : Int), (g : Int), true)
  | 0, _, a, ha => by simp [ofL] at ha
  | n + 1, hn, a, ha => by
    rw [ofL_succ] at ha
    rcases List.mem_append.1 ha with ha | ha
    · obtain ⟨l, g, hg, r⟩ := ofL_get hz hp h1 n (by omega) a ha
      exact ⟨l, g, by omega, r⟩
    · by_cases hl : liveB z p W (ofF z p zone (n : Int)) = true
      · rw [if_pos hl, List.mem_singleton] at ha
        subst ha
        have := at_of (zone := zone) (g := n) hz hp h1 (by omega)
        exact ⟨hl, n, by omega, this.2, this.1⟩
      · rw [if_neg hl] at ha; cases ha
theorem ofL_rise {z p zone : Nat} {W : Nat → Nat} (hz : 11 ≤ z ∧ z ≤ 24) (hp : 4 ≤ p ∧ p ≤ 16) (h1 : zone < z - 2) : ∀ n, n ≤ p → (ofL z p W zone n).Pairwise (· < ·)
  | 0, _ => by simp [ofL]
  | n + 1, hn => by
    rw [ofL_succ, List.pairwise_append]
    refine ⟨ofL_rise hz hp h1 n (by omega), by split <;> simp, fun a ha c hc => ?_⟩
    obtain ⟨_, g, hg, e, _⟩ := ofL_get hz hp h1 n (by omega) a ha
    split at hc
    · rw [List.mem_singleton] at hc
      rw [hc, e, (at_of (zone := zone) (g := n) hz hp h1 (by omega)).2]; omega
    · cases hc
theorem awake_ok (h : Heap) : CallsH Tryd.prog 5 [] h fun v h' => v = .bool true ∧ New h h' := by
  refine fun_ok hm' Tryd.func5 (by kernel_rfl) (F5_eq _ h) ?_
  unfold F5
  refine call_of (new_ok 11 4 6 h (by decide)) ?_
  rintro v h1 ⟨b, q, gb, gq, rfl, v1, n1⟩
  have a1 : At h h1 b q 11 4 6 _ := ⟨v1, n1, gb, gq⟩
  refine ⟨(some ⟨b, 0, none⟩, .nilIface), rfl, cut_of (br_f rfl ⟨.inl rfl, br_f rfl fun _ => ?_⟩)⟩
  refine cut_of (call_of (mark_ok b q 11 4 6 _ 5 h1 a1.ok (by decide)) ?_)
  rintro v h2 ⟨rfl, v2, u2⟩
  have a2 := a1.upd u2 v2
  refine ⟨true, rfl, br_t rfl (call_of (mark_ok b q 11 4 6 _ 8 h2 a2.ok (by decide)) ?_)⟩
  rintro v h3 ⟨rfl, v3, u3⟩
  have a3 := a2.upd u3 v3
  refine ⟨true, rfl, br_t rfl (call_of (mark_ok b q 11 4 6 _ 8 h3 a3.ok (by decide)) ?_)⟩
  rintro v h4 ⟨rfl, v4, u4⟩
  have a4 := a3.upd u4 v4
  refine ⟨false, rfl, br_t rfl (call_of (mark_ok b q 11 4 6 _ 0 h4 a4.ok (by decide)) ?_)⟩
  rintro v h5 ⟨rfl, v5, u5⟩
  have a5 := a4.upd u5 v5
  refine ⟨false, rfl, br_t rfl (call_of (mark_ok b q 11 4 6 _ 37 h5 a5.ok (by decide)) ?_)⟩
  rintro v h6 ⟨rfl, v6, u6⟩
  have a6 := a5.upd u6 v6
  refine ⟨false, rfl, fun _ => br_t rfl (call_of (count_ok b q 11 4 6 _ 1 h6 a6.ok) ?_)⟩
  rintro v h' ⟨rfl, hh⟩
  subst h'
  refine ⟨(2 : Int), rfl, br_t rfl (call_of (total_ok b q 11 4 6 _ h6 a6.ok) ?_)⟩
  rintro v h' ⟨rfl, hh⟩
  subst h'
  refine ⟨(2 : Int), rfl, br_t rfl (call_of (live_ok b q 11 4 6 _ 5 h6 a6.ok (by decide)) ?_)⟩
  rintro v h7 ⟨rfl, n7⟩
  have a7 := a6.to n7
  refine ⟨true, rfl, br_t rfl (call_of (live_ok b q 11 4 6 _ 6 h7 a7.ok (by decide)) ?_)⟩
  rintro v h8 ⟨rfl, n8⟩
  have a8 := a7.to n8
  refine ⟨false, rfl, br_t rfl (call_of (vof_ok b q 11 4 6 _ 1 h8 a8.ok) ?_)⟩
  rintro v h9 ⟨a, c, rfl, ow, n9⟩
  have a9 := a8.to n9
  have ow : OwnH h9 h8.size 25 1 a 2 c (uI [5, 8]) := ow
  refine ⟨(a, 2, c), rfl, new_of fun h10 b10 n10 _ => call_of (Same.nums_ok _ _ 2 2 _ _ h10 [5, 8] [5, 8] rfl rfl (by decide) (own_u (ow.grow n10)) (blk_u b10)) ?_⟩
  rintro v h' ⟨rfl, hh⟩
  subst h'
  have a10 := a9.to n10
  refine ⟨true, rfl, br_t rfl (call_of (bare_ok b q 11 4 6 _ h10 a10.ok) ?_)⟩
  rintro v h11 ⟨a', c', rfl, ow', n11⟩
  have a11 := a10.to n11
  have ow' : OwnH h11 h10.size 3 1 a' 8 c' (vI [0, 2, 3, 4, 5, 6, 7, 8]) := ow'
  refine ⟨(a', 8, c'), rfl, new_of fun h12 b12 n12 _ => call_of (Same.same_ok _ _ 8 8 _ _ h12 [0, 2, 3, 4, 5, 6, 7, 8] [0, 2, 3, 4, 5, 6, 7, 8] rfl rfl (by decide) (own_i (ow'.grow n12)) (blk_i b12)) ?_⟩
  rintro v h' ⟨rfl, hh⟩
  subst h'
  have a12 := a11.to n12
  refine ⟨true, rfl, br_t rfl (call_of (unmark_ok b q 11 4 6 _ 5 h12 a12.ok (by decide)) ?_)⟩
  rintro v h13 ⟨rfl, v13, u13⟩
  have a13 := a12.upd u13 v13
  refine ⟨true, rfl, br_t rfl (call_of (unmark_ok b q 11 4 6 _ 5 h13 a13.ok (by decide)) ?_)⟩
  rintro v h14 ⟨rfl, v14, u14⟩
  exact ⟨false, rfl, rfl, (a13.upd u14 v14).new⟩
end Go.Proofs.YticppjmldlhbiaaDoor.Valid
