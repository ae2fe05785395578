/-
  IndexOrder of layer 09.
-/
import Derived.Test.YtfanjfbenhocnaaWIO
import Derived.Test.YtfanjfbenhocnaaIxS
namespace Go.Proofs.Ytfanjfbenhocnaa.IxO
open Go.Pl Go.Pl.Ix Go.Proofs.Ytfanjfbenhocnaa.W Go.Proofs.Ytfanjfbenhocnaa.Ix Go.Proofs.Ytfanjfbenhocnaa.IxS
theorem awake_ok (h : Heap) : CallsH Try.prog 10 [] h fun v h' => v = .bool true ∧ New h h' := by
  refine fun_ok hm' Try.func10 (by kernel_rfl) (F10_eq _ h) ?_
  unfold F10
  refine call_of (new_ok 1 h (by decide) (by decide)) ?_
  rintro v h1 ⟨rfl, hx1, hn1⟩
  refine ⟨(some ⟨h.size, 0, none⟩, .nilIface), rfl, cut_of (br_f rfl ⟨.inl rfl, br_f rfl fun _ => ?_⟩)⟩
  refine call_of (put_ok _ 7 0 h1 _ _ _ hx1) ?_
  rintro v h2 ⟨ho2, ⟨_, rfl, hx2⟩ | ⟨_, hh, _⟩⟩
  rotate_left
  · exact absurd hh (by decide)
  refine ⟨true, rfl, call_of (put_ok _ 8 1 h2 _ _ _ hx2) ?_⟩
  rintro v h3 ⟨_, ⟨hh, _⟩ | ⟨_, _, rfl, hh⟩⟩
  · rcases hh with hh | hh <;> exact absurd hh (by decide)
  subst h3
  refine ⟨false, rfl, call_of (put_ok _ 7 2 h2 _ _ _ hx2) ?_⟩
  rintro v h4 ⟨ho4, ⟨_, rfl, hx4⟩ | ⟨hh, _⟩⟩
  rotate_left
  · exact absurd hh (by decide)
  refine ⟨true, rfl, call_of (get_ok _ 7 h4 _ _ _ hx4) ?_⟩
  rintro v h5 ⟨rfl, hn5⟩
  refine ⟨((2 : Int), true), rfl, call_of (get_ok _ 8 h5 _ _ _ (hx4.new hn5)) ?_⟩
  rintro v h6 ⟨rfl, hn6⟩
  refine ⟨((0 : Int), false), rfl, br_t rfl (br_t rfl (br_t rfl (br_t rfl (br_t rfl (br_t rfl ?_)))))⟩
  have hx6 := (hx4.new hn5).new hn6
  refine call_of (len_ok _ h6 _ _ _ hx6) ?_
  rintro v h7 ⟨rfl, hh⟩
  subst h7
  refine ⟨(1 : Int), rfl, br_t rfl (call_of (drop_ok _ 7 h6 _ _ _ hx6) ?_)⟩
  rintro v h8 ⟨hu8, rfl, hx8, _⟩
  refine ⟨true, rfl, br_t rfl (call_of (drop_ok _ 7 h8 _ _ _ hx8) ?_)⟩
  rintro v h9 ⟨hu9, rfl, hx9, _⟩
  refine ⟨false, rfl, br_t rfl (call_of (len_ok _ h9 _ _ _ hx9) ?_)⟩
  rintro v h10 ⟨rfl, hh⟩
  subst h10
  refine ⟨(0 : Int), rfl, rfl, ?_⟩
  have n4 : New h h4 := ho4.upd.new (ho2.upd.new hn1 (Nat.le_refl _)) (Nat.le_refl _)
  exact hu9.new (hu8.new ((n4.trans hn5).trans hn6) (Nat.le_refl _)) (Nat.le_refl _)
/- PLAIN. -/
def less (L D : List Int) : Int → Option Int := fun k => if k ∈ L ∧ k ∉ D then some (k % 1000) else none
theorem less_nil : (fun _ => none : Int → Option Int) = less [] [] := by funext k; unfold less; rw [if_neg (by simp)]
theorem less_put {L L2 : List Int} {x : Int} (h : ∀ k, k ∈ L2 ↔ k = x ∨ k ∈ L) : setM (less L []) x (some (x % 1000)) = less L2 [] := by
  funext k
  unfold setM less
  by_cases e : k = x
  · rw [if_pos e, if_pos ⟨(h k).2 (.inl e), by simp⟩, e]
  · rw [if_neg e]
    by_cases e2 : k ∈ L
    · rw [if_pos ⟨e2, by simp⟩, if_pos ⟨(h k).2 (.inr e2), by simp⟩]
    · rw [if_neg (fun hh => e2 hh.1), if_neg (fun hh => ((h k).1 hh.1).elim e e2)]
theorem less_drop {L D : List Int} {x : Int} : setM (less L D) x none = less L (x :: D) := by
  funext k
  unfold setM less
  by_cases e : k = x
  · rw [if_pos e, if_neg (fun hh => hh.2 (by simp [e]))]
  · rw [if_neg e]
    by_cases e2 : k ∈ L ∧ k ∉ D
    · rw [if_pos e2, if_pos ⟨e2.1, by simp [e, e2.2]⟩]
    · rw [if_neg e2, if_neg (fun hh => e2 ⟨hh.1, fun hd => hh.2 (by simp [hd])⟩)]
theorem less_same {L D E : List Int} (h : ∀ k, k ∈ D ↔ k ∈ E) : less L D = less L E := by
  funext k
  unfold less
  by_cases e : k ∈ L ∧ k ∉ D
  · rw [if_pos e, if_pos ⟨e.1, fun hh => e.2 ((h k).2 hh)⟩]
  · rw [if_neg e, if_neg (fun hh => e ⟨hh.1, fun hd => hh.2 ((h k).1 hd)⟩)]
/- ROWS OF TRUTHS. -/
def Br (h : Heap) (a : Option Addr) (ds : List Bool) : Prop := ∀ (i : Nat) (x : Bool), ds[i]? = some x → ∃ b o, a = some (⟨b, o, none⟩ : Addr) ∧ b < h.size ∧ cellH h ⟨b, o + i, none⟩ = some (.bool x)
theorem Br.new {h h' : Heap} {a : Option Addr} {ds : List Bool} (r : Br h a ds) (n : New h h') : Br h' a ds := fun i x hx => by
  obtain ⟨b, o, e, hb, hc⟩ := r i x hx
  exact ⟨b, o, e, Nat.lt_of_lt_of_le hb n.size, by rw [Go.Pl.cellH_new n hb]; exact hc⟩
theorem Br.ld {h : Heap} {a : Option Addr} {ds : List Bool} (r : Br h a ds) {i m : Nat} (hi : i < ds.length) (hm : i < m) {F : Bool → Prop} (hF : F ds[i]) : ptrW a (fun p => idxW (i : Int) m true (ldW .bool (Addr.add p (Int.toNat (i : Int) * 1)) F h)) := by
  obtain ⟨b, o, rfl, hb, hc⟩ := r i _ (List.getElem?_eq_getElem hi)
  refine ptr_of ⟨⟨⟨by omega, by omega⟩, rfl⟩, ld_of (c := .bool) ds[i] ?_ hF⟩
  rw [add_mk, Int.toNat_natCast, Nat.mul_one]; exact hc
theorem num_ok (a b : Option Addr) (n m ca cb : Nat) (h : Heap) (xs ys : List Int) (hx : n = xs.length) (hy : m = ys.length) (hn : n ≤ 1000000) (ra : Ar .u32 h a xs) (rb : Ar .u32 h b ys) :
    CallsH Try.prog 26 [.slice a n ca, .slice b m cb] h fun v h' => v = .bool (decide (xs = ys)) ∧ h' = h := by
  refine fun_ok hm' Try.func26 (by kernel_rfl) (F26_eq _ _ _ _ _ _ _ h) ?_
  unfold F26
  subst hx; subst hy
  refine br_of (fun hne => ?_) (fun heq => ?_)
  · have : xs ≠ ys := fun e => by subst e; simp at hne
    exact ⟨by simp [this], rfl⟩
  have hl : xs.length = ys.length := by simp at heq; omega
  refine ⟨fun (s : Int) h' => h' = h ∧ ∃ i : Nat, s = i ∧ i ≤ xs.length ∧ xs.take i = ys.take i, fun (s : Int) _ => (xs.length - s).toNat, ⟨rfl, 0, rfl, by omega, rfl⟩, ?_⟩
  rintro s j h' ⟨hh, i, rfl, hi, hpre⟩
  subst h'
  refine br_of (fun hlt => ?_) (fun hlt => ?_)
  · have hlt : i < xs.length := by simp at hlt; omega
    refine ix_ld ra hlt (by omega) (ix_ld rb (by omega) (by omega) (br_of (fun hd => ?_) (fun hd => ?_)))
    · have hd : xs[i] ≠ ys[i] := by simpa using hd
      have : xs ≠ ys := fun e => by subst e; exact hd rfl
      exact ⟨by simp [this], rfl⟩
    · have hd : xs[i] = ys[i] := by simpa using hd
      refine ⟨⟨rfl, i + 1, (by first | (rw [wr64 (by omega) (by omega)]; omega) | (simp only [IntKind.wrap_i64]; omega)), hlt, ?_⟩, (by dsimp only; first | (rw [wr64 (by omega) (by omega)]; omega) | (rw [wr64 (by omega) (by omega), wr64 (by omega) (by omega)]; omega) | (simp only [IntKind.wrap_i64]; omega))⟩
      rw [← List.take_append_getElem hlt, ← List.take_append_getElem (show i < ys.length by omega), hpre, hd]
  · have hlt : ¬ (i : Int) < (xs.length : Int) := of_decide_eq_false hlt
    have : i = xs.length := by omega
    subst this
    rw [List.take_length, List.take_of_length_le (by omega)] at hpre
    exact ⟨by simp [hpre], rfl⟩
theorem tmod_ok {x : Int} (h0 : 0 ≤ x) (_h1 : x < 4294967296) : IntKind.wrap .i64 (Int.tmod x 1000) = x % 1000 := by
  rw [Int.tmod_eq_emod_of_nonneg h0]; exact wr64 (by omega) (by omega)
/- THE LAW. -/
structure Two (h h' : Heap) (b1 b2 : Nat) (M1 M2 : Int → Option Int) (n1 n2 : Nat) : Prop where
  a : IxOk h' b1 M1 n1 64
  b : IxOk h' b2 M2 n2 64
  nw : New h h'
  l1 : h.size ≤ b1
  l2 : h.size ≤ b2
  ne : b1 ≠ b2
theorem Two.new {h h' h'' : Heap} {b1 b2 : Nat} {M1 M2 : Int → Option Int} {n1 n2 : Nat} (t : Two h h' b1 b2 M1 M2 n1 n2) (n : New h' h'') : Two h h'' b1 b2 M1 M2 n1 n2 := ⟨t.a.new n, t.b.new n, t.nw.trans n, t.l1, t.l2, t.ne⟩
theorem Two.up1 {h h' h'' : Heap} {b1 b2 : Nat} {M1 M2 M : Int → Option Int} {n1 n2 n : Nat} (t : Two h h' b1 b2 M1 M2 n1 n2) (u : Upd b1 h' h'') (i : IxOk h'' b1 M n 64) : Two h h'' b1 b2 M M2 n n2 := ⟨i, t.b.upd u t.ne.symm, u.new t.nw t.l1, t.l1, t.l2, t.ne⟩
theorem Two.up2 {h h' h'' : Heap} {b1 b2 : Nat} {M1 M2 M : Int → Option Int} {n1 n2 n : Nat} (t : Two h h' b1 b2 M1 M2 n1 n2) (u : Upd b2 h' h'') (i : IxOk h'' b2 M n 64) : Two h h'' b1 b2 M1 M n1 n := ⟨t.a.upd u t.ne, i, u.new t.nw t.l2, t.l1, t.l2, t.ne⟩
theorem order_law (h : Heap) (v0 v1 : Value) (ks : List Int) (ds : List Bool) (r0 : ReadsV h (.slice (.int .u32)) v0 ks) (r1 : ReadsV h (.slice .bool) v1 ds) :
    CallsH Try.prog 7 [v0, v1] h fun v h' => v = .bool true ∧ New h h' := by
  obtain ⟨ka, kc, rfl, _, _, _, rk, hwf⟩ := Ar.reads r0
  obtain ⟨da, dc, rfl, _, _, _, sd⟩ := SlAt.reads r1
  have rd : Br h da ds := fun i x hi => by
    obtain ⟨b, o, es, e1, hb, hel, hc, e2⟩ := sd i x hi
    have e2 : es = [.bool x] := e2
    subst e2
    have := hc 0 Nat.one_pos
    exact ⟨b, o, e1, hb, by simpa [Sh.n] using this⟩
  have hk : ∀ x ∈ ks, 0 ≤ x ∧ x < 4294967296 := fun x hx => by
    have w := hwf x hx
    simp [Lit.wf, IntKind.min, IntKind.max, IntKind.bits, IntKind.signed] at w
    omega
  refine fun_ok hm' Try.func7 (by kernel_rfl) (F7_eq ka ks.length kc da ds.length dc _ h) ?_
  unfold F7
  refine call_of (awake_ok h) ?_
  rintro v h1 ⟨rfl, n1⟩
  refine ⟨true, rfl, br_f rfl (cut_q (ts := []) (fun _ h' => h' = h1 ∧ ks.length ≤ 64) ?_ ?_)⟩
  rotate_left
  · intro K hK
    refine br_of (fun _ => ⟨rfl, n1⟩) fun h5 => br_of (fun _ => ⟨rfl, n1⟩) fun _ => hK () _ ⟨rfl, ?_⟩
    have h5 : ¬ (ks.length : Int) > 64 := of_decide_eq_false h5; omega
  rintro _ h' ⟨hh, hl⟩ _; subst h'
  refine call_of (new_ok 64 h1 (by decide) (by decide)) ?_
  rintro v h2 ⟨rfl, x1, n2⟩
  refine ⟨(some ⟨h1.size, 0, none⟩, .nilIface), rfl, call_of (new_ok 64 h2 (by decide) (by decide)) ?_⟩
  rintro v h3 ⟨rfl, x2, n3⟩
  refine ⟨(some ⟨h2.size, 0, none⟩, .nilIface), rfl, cut_q (ts := []) (fun _ h' => h' = h3) ?_ (fun K hK => br_f rfl (br_f rfl (hK () _ rfl)))⟩
  rintro _ h' hh _; subst h'
  have hb1 := x1.lt
  have t3 : Two h1 h3 h1.size h2.size (less [] []) (less [] []) 0 0 := ⟨less_nil ▸ x1.new n3, less_nil ▸ x2, n2.trans n3, Nat.le_refl _, n2.size, by omega⟩
  generalize h1.size = b1 at *
  generalize h2.size = b2 at *
  -- the keys go in
  refine ⟨fun (s : Int) h' => ∃ (i m1 m2 : Nat) (L2 : List Int), s = i ∧ i ≤ ks.length ∧ m1 ≤ i ∧ m2 ≤ i ∧ L2 = ks.drop (ks.length - i) ∧ Two h1 h' b1 b2 (less (ks.take i) []) (less L2 []) m1 m2, fun (s : Int) _ => ((ks.length : Int) - s).toNat, ⟨0, 0, 0, [], rfl, Nat.zero_le _, Nat.le_refl _, Nat.le_refl _, by rw [Nat.sub_zero, List.drop_length], by rw [List.take_zero]; exact t3⟩, ?_⟩
  rintro s j h4 ⟨i, m1, m2, L2, rfl, hi, hm1, hm2, hL2, t4⟩
  have n14 := n1.trans t4.nw
  refine br_of (fun hlt => ?_) (fun hlt => ?_)
  · have hlt : (i : Int) < (ks.length : Int) := of_decide_eq_true hlt
    have hiL : i < ks.length := by omega
    have hrL : ks.length - 1 - i < ks.length := by omega
    have er : IntKind.wrap .i64 (IntKind.wrap .i64 ((ks.length : Int) - 1) - (i : Int)) = ((ks.length - 1 - i : Nat) : Int) := by rw [wr64 (n := (ks.length : Int) - 1) (by omega) (by omega), wr64 (by omega) (by omega)]; omega
    have ez : IntKind.wrap .i64 ((i : Int) + 1) = ((i + 1 : Nat) : Int) := (by first | (rw [wr64 (by omega) (by omega)]; omega) | (simp only [IntKind.wrap_i64]; omega))
    obtain ⟨k0, k1⟩ := hk _ (List.getElem_mem hiL)
    obtain ⟨k2, k3⟩ := hk _ (List.getElem_mem hrL)
    have rk4 := rk.new n14
    rw [er]
    refine ix_ld rk4 hrL hrL (ix_ld rk4 hiL hiL (ix_ld rk4 hiL hiL ?_))
    rw [tmod_ok k0 k1, tmod_ok k2 k3]
    refine call_of (put_ok b1 ks[i] (ks[i] % 1000) h4 _ _ _ t4.a) ?_
    rintro v h5 ⟨o5, ⟨_, rfl, x5⟩ | ⟨_, hh, _⟩⟩
    rotate_left
    · omega
    rw [less_put (L2 := ks.take (i + 1)) (fun k => by rw [← List.take_append_getElem hiL, List.mem_append, List.mem_singleton]; exact Or.comm)] at x5
    have t5 := t4.up1 o5.upd x5
    refine ⟨true, rfl, br_f rfl (call_of (put_ok b2 ks[ks.length - 1 - i] (ks[ks.length - 1 - i] % 1000) h5 _ _ _ t5.b) ?_)⟩
    rintro v h6 ⟨o6, ⟨_, rfl, x6⟩ | ⟨_, hh, _⟩⟩
    rotate_left
    · omega
    have hd : ks.drop (ks.length - (i + 1)) = ks[ks.length - 1 - i] :: L2 := by
      rw [hL2, show ks.length - (i + 1) = ks.length - 1 - i by omega, List.drop_eq_getElem_cons hrL, show ks.length - 1 - i + 1 = ks.length - i by omega]
    rw [less_put (L2 := ks.drop (ks.length - (i + 1))) (fun k => by rw [hd]; exact List.mem_cons)] at x6
    rw [ez]
    refine ⟨true, rfl, br_f rfl ⟨⟨i + 1, _, _, _, rfl, hiL, ?_, ?_, rfl, t5.up2 o6.upd x6⟩, (by first | omega | (dsimp only; omega) | (simp only []; omega))⟩⟩
    · split <;> omega
    · split <;> omega
  have hlt : ¬ (i : Int) < (ks.length : Int) := of_decide_eq_false hlt
  have : i = ks.length := by omega
  subst this
  rw [List.take_length] at t4
  have hL2 : L2 = ks := by rw [hL2, Nat.sub_self]; rfl
  subst hL2
  -- some go out
  refine ⟨fun (s : Int) h' => ∃ (i m1 m2 : Nat) (D1 D2 : List Int), s = i ∧ i ≤ L2.length ∧ (∀ k, k ∈ D1 ↔ ∃ j, j < i ∧ ds[j]? = some true ∧ L2[j]? = some k) ∧ (∀ k, k ∈ D2 ↔ ∃ j, L2.length - i ≤ j ∧ j < L2.length ∧ ds[j]? = some true ∧ L2[j]? = some k) ∧ Two h1 h' b1 b2 (less L2 D1) (less L2 D2) m1 m2, fun (s : Int) _ => ((L2.length : Int) - s).toNat, ⟨0, m1, m2, [], [], rfl, Nat.zero_le _, fun k => ⟨fun h => by simp at h, fun ⟨j, h, _⟩ => by omega⟩, fun k => ⟨fun h => by simp at h, fun ⟨j, h, h', _⟩ => by omega⟩, t4⟩, ?_⟩
  clear t4 n14
  rintro s j h5 ⟨i, m1, m2, D1, D2, rfl, hi, hD1, hD2, t5⟩
  have n15 := n1.trans t5.nw
  refine br_of (fun hlt => ?_) (fun hlt => ?_)
  · have hlt : (i : Int) < (L2.length : Int) := of_decide_eq_true hlt
    have hiL : i < L2.length := by omega
    have hrL : L2.length - 1 - i < L2.length := by omega
    have er : IntKind.wrap .i64 (IntKind.wrap .i64 ((L2.length : Int) - 1) - (i : Int)) = ((L2.length - 1 - i : Nat) : Int) := by rw [wr64 (n := (L2.length : Int) - 1) (by omega) (by omega), wr64 (by omega) (by omega)]; omega
    have ez : IntKind.wrap .i64 ((i : Int) + 1) = ((i + 1 : Nat) : Int) := (by first | (rw [wr64 (by omega) (by omega)]; omega) | (simp only [IntKind.wrap_i64]; omega))
    rw [er, ez]
    refine cut_q (ts := []) (fun _ h' => ∃ (m1 : Nat) (D1' : List Int), (∀ k, k ∈ D1' ↔ ∃ j, j < i + 1 ∧ ds[j]? = some true ∧ L2[j]? = some k) ∧ Two h1 h' b1 b2 (less L2 D1') (less L2 D2) m1 m2) ?_ ?_
    rotate_left
    · intro K hK
      refine cut_q (ts := [.sc .bool]) (fun (s : Bool) h' => h' = h5 ∧ (s = true ↔ ds[i]? = some true)) ?_ ?_
      rotate_left
      · intro K2 hK2
        refine br_of (fun hd => ?_) fun hd => hK2 _ _ ⟨rfl, ?_⟩
        · have hd : (i : Int) < (ds.length : Int) := of_decide_eq_true hd
          have hdL : i < ds.length := by omega
          exact (rd.new n15).ld hdL hdL (hK2 _ _ ⟨rfl, by rw [List.getElem?_eq_getElem hdL]; simp⟩)
        · have hd : ¬ (i : Int) < (ds.length : Int) := of_decide_eq_false hd
          rw [List.getElem?_eq_none (by omega)]; simp
      rintro s h' ⟨hh, hs⟩ _; subst h'
      refine br_of (fun hd => ?_) fun hd => hK () _ ⟨m1, D1, fun k => ?_, t5⟩
      · have hds := hs.1 hd
        refine ix_ld (rk.new n15) hiL hiL (call_of (drop_ok b1 L2[i] h5 _ _ _ t5.a) ?_)
        rintro v h6 ⟨u6, rfl, x6, _⟩
        rw [less_drop] at x6
        refine ⟨_, rfl, hK () _ ⟨_, L2[i] :: D1, fun k => ?_, t5.up1 u6 x6⟩⟩
        rw [List.mem_cons, hD1]
        constructor
        · rintro (rfl | ⟨j, h1, h2, h3⟩)
          · exact ⟨i, by omega, hds, List.getElem?_eq_getElem hiL⟩
          · exact ⟨j, by omega, h2, h3⟩
        · rintro ⟨j, h1, h2, h3⟩
          by_cases e : j = i
          · subst e; rw [List.getElem?_eq_getElem hiL] at h3; exact .inl (Option.some.inj h3).symm
          · exact .inr ⟨j, by omega, h2, h3⟩
      · have hds : ¬ ds[i]? = some true := fun e => by have := hs.2 e; rw [this] at hd; cases hd
        rw [hD1]
        constructor
        · rintro ⟨j, h1, h2, h3⟩; exact ⟨j, by omega, h2, h3⟩
        · rintro ⟨j, h1, h2, h3⟩
          by_cases e : j = i
          · subst e; exact (hds h2).elim
          · exact ⟨j, by omega, h2, h3⟩
    rintro _ h6 ⟨m1', D1', hD1', t6⟩ _
    have n16 := n1.trans t6.nw
    refine cut_q (ts := [.sc .bool]) (fun (s : Bool) h' => h' = h6 ∧ (s = true ↔ ds[L2.length - 1 - i]? = some true)) ?_ ?_
    rotate_left
    · intro K2 hK2
      refine br_of (fun hd => ?_) fun hd => hK2 _ _ ⟨rfl, ?_⟩
      · have hd : ((L2.length - 1 - i : Nat) : Int) < (ds.length : Int) := of_decide_eq_true hd
        have hdL : L2.length - 1 - i < ds.length := by omega
        exact (rd.new n16).ld hdL hdL (hK2 _ _ ⟨rfl, by rw [List.getElem?_eq_getElem hdL]; simp⟩)
      · have hd : ¬ ((L2.length - 1 - i : Nat) : Int) < (ds.length : Int) := of_decide_eq_false hd
        rw [List.getElem?_eq_none (by omega)]; simp
    rintro s h' ⟨hh, hs⟩ _; subst h'
    refine br_of (fun hd => ?_) fun hd => ⟨⟨i + 1, _, _, D1', D2, rfl, hiL, hD1', fun k => ?_, t6⟩, (by first | omega | (dsimp only; omega) | (simp only []; omega))⟩
    · have hds := hs.1 hd
      refine ix_ld (rk.new n16) hrL hrL (call_of (drop_ok b2 L2[L2.length - 1 - i] h6 _ _ _ t6.b) ?_)
      rintro v h7 ⟨u7, rfl, x7, _⟩
      rw [less_drop] at x7
      refine ⟨_, rfl, ⟨i + 1, _, _, D1', L2[L2.length - 1 - i] :: D2, rfl, hiL, hD1', fun k => ?_, t6.up2 u7 x7⟩, (by first | omega | (dsimp only; omega) | (simp only []; omega))⟩
      rw [List.mem_cons, hD2]
      constructor
      · rintro (rfl | ⟨j, h1, h2, h3⟩)
        · exact ⟨L2.length - 1 - i, by omega, by omega, hds, List.getElem?_eq_getElem hrL⟩
        · exact ⟨j, by omega, h2, h3⟩
      · rintro ⟨j, h1, h2, h3, h4⟩
        by_cases e : j = L2.length - 1 - i
        · subst e; rw [List.getElem?_eq_getElem hrL] at h4; exact .inl (Option.some.inj h4).symm
        · exact .inr ⟨j, by omega, h2, h3, h4⟩
    · have hds : ¬ ds[L2.length - 1 - i]? = some true := fun e => by have := hs.2 e; rw [this] at hd; cases hd
      rw [hD2]
      constructor
      · rintro ⟨j, h1, h2⟩; exact ⟨j, by omega, h2⟩
      · rintro ⟨j, h1, h2, h3, h4⟩
        by_cases e : j = L2.length - 1 - i
        · subst e; exact (hds h3).elim
        · exact ⟨j, by omega, h2, h3, h4⟩
  have hlt : ¬ (i : Int) < (L2.length : Int) := of_decide_eq_false hlt
  have : i = L2.length := by omega
  subst this
  have hDD : less L2 D2 = less L2 D1 := less_same fun k => (hD2 k).trans (Iff.trans (by constructor <;> (rintro ⟨j, a⟩; exact ⟨j, by omega, by first | exact a.2.2 | exact ⟨a.1, a.2⟩⟩)) (hD1 k).symm)
  rw [hDD] at t5
  -- both tell the same
  refine ⟨fun (s : Int) h' => ∃ i : Nat, s = i ∧ i ≤ L2.length ∧ Two h1 h' b1 b2 (less L2 D1) (less L2 D1) m1 m2, fun (s : Int) _ => ((L2.length : Int) - s).toNat, ⟨0, rfl, Nat.zero_le _, t5⟩, ?_⟩
  clear t5 n15
  rintro s j h6 ⟨i, rfl, hi, t6⟩
  have n16 := n1.trans t6.nw
  refine br_of (fun hlt => ?_) (fun hlt => ?_)
  · have hlt : (i : Int) < (L2.length : Int) := of_decide_eq_true hlt
    have hiL : i < L2.length := by omega
    have ez : IntKind.wrap .i64 ((i : Int) + 1) = ((i + 1 : Nat) : Int) := (by first | (rw [wr64 (by omega) (by omega)]; omega) | (simp only [IntKind.wrap_i64]; omega))
    obtain ⟨k0, k1⟩ := hk _ (List.getElem_mem hiL)
    rw [ez]
    refine ix_ld (rk.new n16) hiL hiL (call_of (get_ok b1 L2[i] h6 _ _ _ t6.a) ?_)
    rintro v h7 ⟨rfl, n7⟩
    have t7 := t6.new n7
    refine ⟨((less L2 D1 L2[i]).getD 0, (less L2 D1 L2[i]).isSome), rfl, call_of (get_ok b2 L2[i] h7 _ _ _ t7.b) ?_⟩
    rintro v h8 ⟨rfl, n8⟩
    have t8 := t7.new n8
    rw [tmod_ok k0 k1]
    refine ⟨((less L2 D1 L2[i]).getD 0, (less L2 D1 L2[i]).isSome), rfl, br_f (by simp) (br_f (by simp) (br_of (fun hs => br_f ?_ ⟨⟨i + 1, rfl, hiL, t8⟩, (by first | omega | (dsimp only; omega) | (simp only []; omega))⟩) fun _ => ⟨⟨i + 1, rfl, hiL, t8⟩, (by first | omega | (dsimp only; omega) | (simp only []; omega))⟩))⟩
    have hs : (less L2 D1 L2[i]).isSome = true := hs
    have e : less L2 D1 L2[i] = some (L2[i] % 1000) := by
      unfold less at hs ⊢
      split
      · rfl
      · rename_i hn; rw [if_neg hn] at hs; cases hs
    show ((less L2 D1 L2[i]).getD 0 != L2[i] % 1000) = false
    rw [e]; simp
  refine call_of (keys_ok b1 h6 _ _ _ t6.a) ?_
  rintro v h7 ⟨a7, c7, K1, rfl, r7, q7, n7⟩
  have t7 := t6.new n7
  refine ⟨(a7, _, c7), rfl, call_of (keys_ok b2 h7 _ _ _ t7.b) ?_⟩
  rintro v h8 ⟨a8, c8, K2, rfl, r8, q8, n8⟩
  have t8 := t7.new n8
  have hKK := q7.one q8
  subst hKK
  have hkl : K1.length ≤ 1000000 := by rw [q7.len]; have := t6.a.le; omega
  refine ⟨(a8, _, c8), rfl, call_of (num_ok a7 a8 _ _ _ _ h8 K1 K1 rfl rfl hkl (r7.new n8) r8) ?_⟩
  rintro v h' ⟨rfl, hh⟩; subst h'
  refine ⟨_, rfl, br_t (by simp) (call_of (len_ok b1 h8 _ _ _ t8.a) ?_)⟩
  rintro v h' ⟨rfl, hh⟩; subst h'
  refine ⟨(m1 : Int), rfl, call_of (len_ok b2 h8 _ _ _ t8.b) ?_⟩
  rintro v h' ⟨rfl, hh⟩; subst h'
  have hmm : m1 = m2 := q7.len.symm.trans q8.len
  exact ⟨(m2 : Int), rfl, by rw [hmm]; simp, n1.trans t8.nw⟩
end Go.Proofs.Ytfanjfbenhocnaa.IxO
