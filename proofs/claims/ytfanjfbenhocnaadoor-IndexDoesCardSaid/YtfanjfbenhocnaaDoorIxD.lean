/-
  IndexDoes of layer 09.
-/
import Derived.Test.YtfanjfbenhocnaaDoorIx9
import Derived.Test.YtfanjfbenhocnaaDoorAs
namespace Go.Proofs.YtfanjfbenhocnaaDoor.IxD
open Go.Pl Go.Pl.Ix Go.Proofs.YtfanjfbenhocnaaDoor.W Go.Proofs.YtfanjfbenhocnaaDoor.Ix Go.Proofs.YtfanjfbenhocnaaDoor.IxS Go.Proofs.YtfanjfbenhocnaaDoor.Ix9 Go.Proofs.YtfanjfbenhocnaaDoor.As
theorem awake_ok (h : Heap) : CallsH Tryd.prog 16 [] h fun v h' => v = .bool true ∧ New h h' := by
  refine fun_ok Ix.hm' Tryd.func16 (by kernel_rfl) (F16_eq _ h) ?_
  unfold F16
  refine call_of (new_ok 1 h (by decide) (by decide)) ?_
  rintro v h1 ⟨rfl, hx1, hn1⟩
  refine ⟨(some ⟨h.size, 0, none⟩, .nilIface), rfl, cut_of (br_f rfl ⟨.inl rfl, br_f rfl fun _ => ?_⟩)⟩
  refine call_of (put_ok _ 7 0 h1 _ _ _ hx1) ?_
  rintro v h2 ⟨ho2, ⟨_, rfl, hx2⟩ | ⟨_, hh, _⟩⟩
  rotate_left
  · exact absurd hh (by decide)
  refine ⟨true, rfl, call_of (put_ok _ 8 1 h2 _ _ _ hx2) ?_⟩
  rintro v h3 ⟨_, ⟨hh, _⟩ | ⟨_, _, rfl, hh⟩⟩
  · rcases hh with hh | hh <;> exact absurd hh (by decide)
  subst h3
  refine ⟨false, rfl, call_of (put_ok _ 7 2 h2 _ _ _ hx2) ?_⟩
  rintro v h4 ⟨ho4, ⟨_, rfl, hx4⟩ | ⟨hh, _⟩⟩
  rotate_left
  · exact absurd hh (by decide)
  refine ⟨true, rfl, call_of (get_ok _ 7 h4 _ _ _ hx4) ?_⟩
  rintro v h5 ⟨rfl, hn5⟩
  refine ⟨((2 : Int), true), rfl, call_of (get_ok _ 8 h5 _ _ _ (hx4.new hn5)) ?_⟩
  rintro v h6 ⟨rfl, hn6⟩
  refine ⟨((0 : Int), false), rfl, br_t rfl (br_t rfl (br_t rfl (br_t rfl (br_t rfl (br_t rfl ?_)))))⟩
  have hx6 := (hx4.new hn5).new hn6
  refine call_of (len_ok _ h6 _ _ _ hx6) ?_
  rintro v h7 ⟨rfl, hh⟩
  subst h7
  refine ⟨(1 : Int), rfl, br_t rfl (call_of (drop_ok _ 7 h6 _ _ _ hx6) ?_)⟩
  rintro v h8 ⟨hu8, rfl, hx8, _⟩
  refine ⟨true, rfl, br_t rfl (call_of (drop_ok _ 7 h8 _ _ _ hx8) ?_)⟩
  rintro v h9 ⟨hu9, rfl, hx9, _⟩
  refine ⟨false, rfl, br_t rfl (call_of (len_ok _ h9 _ _ _ hx9) ?_)⟩
  rintro v h10 ⟨rfl, hh⟩
  subst h10
  refine ⟨(0 : Int), rfl, rfl, ?_⟩
  have n4 : New h h4 := ho4.upd.new (ho2.upd.new hn1 (Nat.le_refl _)) (Nat.le_refl _)
  exact hu9.new (hu8.new ((n4.trans hn5).trans hn6) (Nat.le_refl _)) (Nat.le_refl _)
theorem num_ok (a b : Option Addr) (n m ca cb : Nat) (h : Heap) (xs ys : List Int) (hx : n = xs.length) (hy : m = ys.length) (hn : n ≤ 1000000) (ra : Ar .u32 h a xs) (rb : Ar .u32 h b ys) :
    CallsH Tryd.prog 26 [.slice a n ca, .slice b m cb] h fun v h' => v = .bool (decide (xs = ys)) ∧ h' = h := by
  refine fun_ok Ix.hm' Tryd.func26 (by kernel_rfl) (F26_eq _ _ _ _ _ _ _ h) ?_
  unfold F26
  subst hx; subst hy
  refine br_of (fun hne => ?_) (fun heq => ?_)
  · have : xs ≠ ys := fun e => by subst e; simp at hne
    exact ⟨by simp [this], rfl⟩
  have hl : xs.length = ys.length := by simp at heq; omega
  refine ⟨fun (s : Int) h' => h' = h ∧ ∃ i : Nat, s = i ∧ i ≤ xs.length ∧ xs.take i = ys.take i, fun (s : Int) _ => (xs.length - s).toNat, ⟨rfl, 0, rfl, by omega, rfl⟩, ?_⟩
  rintro s j h' ⟨hh, i, rfl, hi, hpre⟩
  subst h'
  refine br_of (fun hlt => ?_) (fun hlt => ?_)
  · have hlt : i < xs.length := by simp at hlt; omega
    refine ix_ld ra hlt (by omega) (ix_ld rb (by omega) (by omega) (br_of (fun hd => ?_) (fun hd => ?_)))
    · have hd : xs[i] ≠ ys[i] := by simpa using hd
      have : xs ≠ ys := fun e => by subst e; exact hd rfl
      exact ⟨by simp [this], rfl⟩
    · have hd : xs[i] = ys[i] := by simpa using hd
      refine ⟨⟨rfl, i + 1, (by first | (rw [wr64 (by omega) (by omega)]; omega) | (simp only [IntKind.wrap_i64]; omega)), hlt, ?_⟩, (by dsimp only; first | (rw [wr64 (by omega) (by omega)]; omega) | (rw [wr64 (by omega) (by omega), wr64 (by omega) (by omega)]; omega) | (simp only [IntKind.wrap_i64]; omega))⟩
      rw [← List.take_append_getElem hlt, ← List.take_append_getElem (show i < ys.length by omega), hpre, hd]
  · have hlt : ¬ (i : Int) < (xs.length : Int) := of_decide_eq_false hlt
    have : i = xs.length := by omega
    subst this
    rw [List.take_length, List.take_of_length_le (by omega)] at hpre
    exact ⟨by simp [hpre], rfl⟩
/- PLAIN. -/
abbrev Up (P : List Pq) : Prop := P.Pairwise fun a b => a.1 < b.1
theorem lk_mem : ∀ {P : List Pq}, Up P → ∀ {k v : Int}, lk P k = some v ↔ (k, v) ∈ P
  | [], _, k, v => by simp [lk]
  | z :: P, hs, k, v => by
    have hs' := List.pairwise_cons.1 hs
    rw [lk_cons, List.mem_cons]
    by_cases e : z.1 = k
    · rw [if_pos e]
      constructor
      · intro h
        left
        have := Option.some.inj h
        rw [← e, ← this]
      · rintro (h | h)
        · rw [← h]
        · have := hs'.1 _ h
          have : z.1 < k := this
          omega
    · rw [if_neg e, lk_mem hs'.2]
      constructor
      · exact .inr
      · rintro (h | h)
        · exact (e (by rw [← h])).elim
        · exact h
theorem opt_ext {a b : Option Int} (h : ∀ v, a = some v ↔ b = some v) : a = b := by
  cases a with
  | none =>
    cases b with
    | none => rfl
    | some v => have := (h v).2 rfl; cases this
  | some v => exact ((h v).1 rfl).symm
theorem fl_mem {key : Int} {P : List Pq} {z : Pq} : z ∈ fl key P ↔ z ∈ P ∧ z.1 ≠ key := by
  unfold fl
  rw [List.mem_filter]
  simp
theorem fl_up {key : Int} {P : List Pq} (h : Up P) : Up (fl key P) := List.Pairwise.sublist List.filter_sublist h
theorem fl_lk {key : Int} {P : List Pq} {M : Int → Option Int} (h : Up P) (e : ∀ k, lk P k = M k) (k : Int) : lk (fl key P) k = setM M key none k := by
  refine opt_ext fun v => ?_
  rw [lk_mem (fl_up h), fl_mem]
  unfold setM
  by_cases hk : k = key
  · rw [if_pos hk]
    exact ⟨fun hh => (hh.2 hk).elim, fun hh => by cases hh⟩
  · rw [if_neg hk, ← e, lk_mem h]
    exact ⟨fun hh => hh.1, fun hh => ⟨hh, hk⟩⟩
theorem ins_up {key sl : Int} {P : List Pq} {i : Nat} (h : Up P) (h1 : ∀ z ∈ (fl key P).take i, z.1 < key) (h2 : ∀ hi : i < (fl key P).length, ¬ (fl key P)[i].1 < key) : Up ((fl key P).take i ++ [(key, sl)] ++ (fl key P).drop i) := by
  have hu := fl_up (key := key) h
  have hne : ∀ z ∈ fl key P, z.1 ≠ key := fun z hz => (fl_mem.1 hz).2
  generalize fl key P = Q at *
  have hd : ∀ z ∈ Q.drop i, key < z.1 := fun z hz => by
    by_cases hi : i < Q.length
    · have hlow : key < Q[i].1 := by
        have := h2 hi
        have := hne _ (List.getElem_mem hi)
        omega
      have hp := List.Pairwise.sublist (List.drop_sublist i Q) hu
      rw [List.drop_eq_getElem_cons hi] at hz hp
      rcases List.mem_cons.1 hz with rfl | hz
      · exact hlow
      · have := (List.pairwise_cons.1 hp).1 z hz
        omega
    · rw [List.drop_eq_nil_of_le (by omega)] at hz; cases hz
  rw [List.append_assoc]
  refine List.pairwise_append.2 ⟨List.Pairwise.sublist (List.take_sublist i Q) hu, List.pairwise_append.2 ⟨List.pairwise_singleton _ _, List.Pairwise.sublist (List.drop_sublist i Q) hu, fun a ha b hb => ?_⟩, fun a ha b hb => ?_⟩
  · rw [List.mem_singleton.1 ha]; exact hd b hb
  · rcases List.mem_append.1 hb with hb | hb
    · rw [List.mem_singleton.1 hb]; exact h1 a ha
    · have := h1 a ha; have := hd b hb; omega
theorem ins_lk {key sl : Int} {P : List Pq} {M : Int → Option Int} {i : Nat} (h : Up P) (e : ∀ k, lk P k = M k) (hu : Up ((fl key P).take i ++ [(key, sl)] ++ (fl key P).drop i)) (k : Int) : lk ((fl key P).take i ++ [(key, sl)] ++ (fl key P).drop i) k = setM M key (some sl) k := by
  refine opt_ext fun v => ?_
  have hm : (k, v) ∈ (fl key P).take i ++ [(key, sl)] ++ (fl key P).drop i ↔ (k, v) = (key, sl) ∨ (k, v) ∈ fl key P := by
    have h3 : (k, v) ∈ fl key P ↔ (k, v) ∈ (fl key P).take i ∨ (k, v) ∈ (fl key P).drop i := by
      rw [← List.mem_append, List.take_append_drop]
    rw [List.mem_append, List.mem_append, List.mem_singleton, h3]
    constructor
    · rintro ((a | a) | a)
      · exact .inr (.inl a)
      · exact .inl a
      · exact .inr (.inr a)
    · rintro (a | a | a)
      · exact .inl (.inr a)
      · exact .inl (.inl a)
      · exact .inr a
  rw [lk_mem hu, hm, fl_mem]
  unfold setM
  by_cases hk : k = key
  · rw [if_pos hk, hk]
    constructor
    · rintro (a | a)
      · have hv : v = sl := congrArg Prod.snd a
        rw [hv]
      · exact (a.2 rfl).elim
    · intro a; rw [Option.some.inj a]; exact .inl rfl
  · rw [if_neg hk, ← e, lk_mem h]
    constructor
    · rintro (a | a)
      · exact (hk (congrArg Prod.fst a)).elim
      · exact a.1
    · exact fun a => .inr ⟨a, hk⟩
theorem lk_some {P : List Pq} (h : Up P) (k : Int) : (lk P k).isSome = true ↔ k ∈ P.map Prod.fst := by
  rw [List.mem_map]
  constructor
  · intro hs
    cases hv : lk P k with
    | none => rw [hv] at hs; cases hs
    | some v => exact ⟨(k, v), (lk_mem h).1 hv, rfl⟩
  · rintro ⟨⟨k', v⟩, hz, rfl⟩
    rw [(lk_mem h).2 hz]; rfl
theorem fl_lt {key : Int} {P : List Pq} (h : Up P) : decide ((fl key P).length < P.length) = (lk P key).isSome := by
  have hb : ∀ a b : Bool, (a = true ↔ b = true) → a = b := fun a b hh => by cases a <;> cases b <;> simp_all
  refine hb _ _ ?_
  rw [lk_some h, decide_eq_true_iff]
  unfold fl
  constructor
  · intro hl
    refine Classical.not_not.1 fun hn => ?_
    have : P.filter (fun z => z.1 != key) = P := List.filter_eq_self.2 fun z hz => by
      have : z.1 ≠ key := fun e => hn (List.mem_map.2 ⟨z, hz, e⟩)
      simpa using this
    rw [this] at hl; omega
  · intro hm
    obtain ⟨z, hz, e⟩ := List.mem_map.1 hm
    refine Nat.lt_of_le_of_ne (List.length_filter_le _ _) fun he => ?_
    have := List.length_filter_eq_length_iff.1 he z hz
    simp [e] at this
theorem up_keys {P : List Pq} {M : Int → Option Int} {h : Heap} {b n : Nat} {room : Int} (hx : IxOk h b M n room) (hu : Up P) (e : ∀ k, lk P k = M k) : Keys M n (P.map Prod.fst) := by
  have hnd : (P.map Prod.fst).Nodup := by
    rw [List.nodup_iff_pairwise_ne, List.pairwise_map]
    exact List.Pairwise.imp (fun {a b} hab => by omega) hu
  have hm : ∀ k, k ∈ P.map Prod.fst ↔ (M k).isSome = true := fun k => by rw [← e]; exact (lk_some hu k).symm
  refine ⟨?_, hnd, hm, ?_⟩
  · rw [List.pairwise_map]
    exact List.Pairwise.imp (fun {a b} hab => by omega) hu
  · obtain ⟨p, hat, hinv, hrep, hc, _⟩ := hx
    have hp := (List.perm_ext_iff_of_nodup hnd (ks_nodup hinv)).2 fun k => (hm k).trans (ks_rep hinv hrep k).symm
    rw [hp.length_eq, ks_len, hc]
/- THE LAW. -/
structure St (h0 h : Heap) (b q : Nat) (room : Int) (M : Int → Option Int) (n : Nat) (P : List Pq) : Prop where
  ix : IxOk h b M n room
  ri : RI h q P room
  up : Up P
  eq : ∀ k, lk P k = M k
  nw : New h0 h
  hb : h0.size ≤ b
  hq : b < q
theorem St.len {h0 h : Heap} {b q : Nat} {room : Int} {M : Int → Option Int} {n : Nat} {P : List Pq} (s : St h0 h b q room M n P) : P.length = n := by
  have := (up_keys s.ix s.up s.eq).len
  rwa [List.length_map] at this
theorem St.new {h0 h h' : Heap} {b q : Nat} {room : Int} {M : Int → Option Int} {n : Nat} {P : List Pq} (s : St h0 h b q room M n P) (w : New h h') : St h0 h' b q room M n P := ⟨s.ix.new w, s.ri.new w, s.up, s.eq, s.nw.trans w, s.hb, s.hq⟩
abbrev AS : Sh := .pair (.int .i64) (.pair (.int .u32) (.int .i64))
theorem zeroA : (zeroC Tryd.prog 55).size = 3 := by kernel_rfl
theorem does_law (h : Heap) (v0 v1 v2 : Value) (room : Int) (l : List (Int × Int × Int)) (key : Int) (r0 : ReadsV h (.int .i64) v0 room) (r1 : ReadsV h (.slice AS) v1 l) (r2 : ReadsV h (.int .u32) v2 key) (hg : Laid h) :
    CallsH Tryd.prog 4 [v0, v1, v2] h fun v h' => v = .bool true ∧ New h h' := by
  obtain ⟨rfl⟩ : v0 = .int .i64 room := by obtain ⟨cs, hcs, e, _⟩ := r0; simp only at hcs; subst hcs; injection e
  obtain ⟨rfl⟩ : v2 = .int .u32 key := by obtain ⟨cs, hcs, e, _⟩ := r2; simp only at hcs; subst hcs; injection e
  obtain ⟨la, lc, rfl, _, _, _, sl⟩ := SlAt.reads r1
  have ra : ∀ (i : Nat) (z : Int × Int × Int), l[i]? = some z → ∃ b o, la = some ⟨b, o, none⟩ ∧ b < h.size ∧ ∀ j, j < 3 → cellH h ⟨b, o + (i * 3 + j), none⟩ = ([.int .i64 z.1, .int .u32 z.2.1, .int .i64 z.2.2] : List Value)[j]? := fun i z hi => by
    obtain ⟨b, o, es, e1, hb, hel, hc, c1, d1, rfl, ⟨rfl, _⟩, c2, d2, rfl, ⟨rfl, _⟩, ⟨rfl, _⟩⟩ := sl i z hi
    exact ⟨b, o, e1, hb, fun j hj => hc j hj⟩
  clear sl
  refine fun_ok Ix.hm' Tryd.func4 (by kernel_rfl) (F4_eq room la l.length lc key _ h) ?_
  unfold F4
  refine call_of (awake_ok h) ?_
  rintro v h1 ⟨rfl, n1⟩
  refine ⟨true, rfl, br_f rfl (br_of (fun _ => ⟨rfl, n1⟩) fun h300 => ?_)⟩
  by_cases hr : 1 ≤ room ∧ room ≤ 64
  rotate_left
  · refine call_of (new_no room h1 (by omega)) ?_
    rintro v h' ⟨rfl, hh⟩; subst h'
    refine ⟨(none, .iface 30 (.int .i64 1)), rfl, call_of (R := fun v h' => v = .tuple #[.pointer none, .int .i64 1] ∧ h' = h1) ?_ ?_⟩
    · refine fun_ok Ix.hm' Tryd.func18 (by kernel_rfl) (F18_eq room _ h1) ?_
      unfold F18
      refine cut_q (ts := [.sc .bool]) (fun (s : Bool) h' => h' = h1 ∧ s = true) ?_ ?_
      rotate_left
      · intro K hK
        refine br_of (fun _ => hK _ _ ⟨rfl, rfl⟩) fun h2 => hK _ _ ⟨rfl, ?_⟩
        have h2 : ¬ room < 1 := of_decide_eq_false h2
        exact decide_eq_true (by omega)
      rintro s h' ⟨hh, hs⟩ _; subst h'
      have hs : s = true := hs
      subst hs
      exact br_t rfl ⟨rfl, rfl⟩
    rintro v h' ⟨rfl, hh⟩; subst h'
    refine ⟨(none, (1 : Int)), rfl, cut_q (ts := []) (fun _ h' => New h h') ?_ ?_⟩
    rotate_left
    · intro K hK
      refine call_of (code_err 1 h1 (hg.new n1)) ?_
      rintro v h2 ⟨rfl, n2⟩
      exact ⟨(1 : Int), rfl, br_f rfl (br_f rfl (hK () _ (n1.trans n2)))⟩
    rintro _ h2 n2 _
    exact br_t rfl ⟨rfl, n2⟩
  refine call_of (new_ok room h1 hr.1 hr.2) ?_
  rintro v h2 ⟨rfl, x1, n2⟩
  have hb1 := x1.lt
  refine ⟨(some ⟨h1.size, 0, none⟩, .nilIface), rfl, call_of (R := fun v h' => v = .tuple #[.pointer (some ⟨h2.size, 0, none⟩), .int .i64 0] ∧ RI h' h2.size [] room ∧ New h2 h') ?_ ?_⟩
  · refine fun_ok Ix.hm' Tryd.func18 (by kernel_rfl) (F18_eq room _ h2) ?_
    unfold F18
    refine cut_q (ts := [.sc .bool]) (fun (s : Bool) h' => h' = h2 ∧ s = false) ?_ ?_
    rotate_left
    · intro K hK
      refine br_of (fun h3 => ?_) fun _ => hK _ _ ⟨rfl, decide_eq_false (by omega)⟩
      have h3 : room < 1 := of_decide_eq_true h3
      omega
    rintro s h' ⟨hh, hs⟩ _; subst h'
    have hs : s = false := hs
    subst hs
    exact br_f rfl (new_of fun h3 b3 n3 s3 => ⟨rfl, ⟨none, 0, _, b3, RowS.nil h3 TP 2, fun g e => by cases e⟩, n3⟩)
  rintro v h3 ⟨rfl, x2, n3⟩
  refine ⟨(some ⟨h2.size, 0, none⟩, (0 : Int)), rfl, cut_q (ts := []) (fun _ h' => St h1 h' h1.size h2.size room (fun _ => none) 0 []) ?_ ?_⟩
  rotate_left
  · intro K hK
    refine call_of (code_err 0 h3 (((hg.new n1).new n2).new n3)) ?_
    rintro v h4 ⟨rfl, n4⟩
    exact ⟨(0 : Int), rfl, br_f rfl (br_f rfl (hK () _ ⟨(x1.new n3).new n4, x2.new n4, List.Pairwise.nil, fun _ => rfl, (n2.trans n3).trans n4, Nat.le_refl _, hb1⟩))⟩
  rintro _ h4 S4 _
  generalize h1.size = b at *
  generalize h2.size = q at *
  refine br_f rfl ?_
  refine ⟨fun (s : Int) h' => ∃ (i : Nat) (M : Int → Option Int) (n : Nat) (P : List Pq), s = i ∧ i ≤ l.length ∧ St h1 h' b q room M n P, fun (s : Int) _ => ((l.length : Int) - s).toNat, ⟨0, _, _, _, rfl, Nat.zero_le _, S4⟩, ?_⟩
  clear S4
  rintro s j h5 ⟨i, M, n, P, rfl, hi, S5⟩
  refine br_of (fun hlt => ?_) (fun _ => ⟨rfl, n1.trans S5.nw⟩)
  have hlt : (i : Int) < (l.length : Int) := of_decide_eq_true hlt
  have hiL : i < l.length := by omega
  have ez : IntKind.wrap .i64 ((i : Int) + 1) = ((i + 1 : Nat) : Int) := by
    have h300 : ¬ (l.length : Int) > 300 := of_decide_eq_false h300
    exact (by first | (rw [wr64 (by omega) (by omega)]; omega) | (simp only [IntKind.wrap_i64]; omega))
  obtain ⟨ba, oa, rfl, hba, hca⟩ := ra i _ (List.getElem?_eq_getElem hiL)
  have n05 := n1.trans S5.nw
  refine agg_at (k := 3) ((l[i].1, l[i].2.1, l[i].2.2) : Int × Int × Int) (es := [.int .i64 l[i].1, .int .u32 l[i].2.1, .int .i64 l[i].2.2]) (fun j hj => by rw [Go.Pl.cellH_new n05 hba]; exact hca j hj) rfl rfl hiL ?_
  refine new_stL (by rw [zeroA]; rfl) fun h6 b6 n6 s6 => ?_
  obtain ⟨⟨d, k, sv⟩, hz⟩ : ∃ z : Int × Int × Int, z = l[i] := ⟨_, rfl⟩
  rw [← hz] at b6
  have b6 : Blk h6 h5.size #[.int .i64 d, .int .u32 k, .int .i64 sv] 55 := b6
  have S6 := S5.new n6
  have hp5 := S5.ri
  have hbl : b < h5.size := S5.ix.lt
  have hrm := S6.ix.le
  have hln := S6.len
  refine cut_q (ts := [.sc .bool]) (fun (s : Bool) h' => s = true ∧ ∃ M n P, St h1 h' b q room M n P) ?_ ?_
  rotate_left
  · intro K hK
    have f0 : ∀ {F : Int → Prop}, F d → ldW (.int .i64) (Addr.add ⟨h5.size, 0, none⟩ 0) F h6 := fun hF => ld_of (c := .int .i64) d (by rw [add_mk, cellH_blk b6]; rfl) hF
    have f1 : ∀ {F : Int → Prop}, F k → ldW (.int .u32) (Addr.add ⟨h5.size, 0, none⟩ 1) F h6 := fun hF => ld_of (c := .int .u32) k (by rw [add_mk, cellH_blk b6]; rfl) hF
    have f2 : ∀ {F : Int → Prop}, F sv → ldW (.int .i64) (Addr.add ⟨h5.size, 0, none⟩ 2) F h6 := fun hF => ld_of (c := .int .i64) sv (by rw [add_mk, cellH_blk b6]; rfl) hF
    refine f0 (br_of (fun _ => ?_) (fun _ => br_of (fun _ => ?_) (fun _ => ?_)))
    · refine f1 (f2 (f1 (f2 (call_of (put_ok b k sv h6 _ _ _ S6.ix) ?_))))
      rintro v h7 ⟨o7, hput⟩
      have b7 := b6.only o7 (by omega)
      have R7 := S6.ri.upd o7.upd S6.hq
      rcases hput with ⟨hc, rfl, x7⟩ | ⟨hc1, hc2, rfl, hh⟩
      · refine ⟨true, rfl, by rw [add_mk, cellH_blk b7]; rfl, by rw [add_mk, cellH_blk b7]; rfl, call_of (put9_ok q k sv h7 P room (by omega) R7) ?_⟩
        rintro v h8 (⟨_, rfl, u8, t, _, t1, t2, R8⟩ | ⟨hn, _⟩)
        · have hu := ins_up (sl := sv) S6.up t1 t2
          refine ⟨true, rfl, hK _ _ ⟨rfl, _, _, _, x7.upd u8 (by have := S6.hq; omega), R8, hu, ins_lk S6.up S6.eq hu, u8.new (o7.upd.new S6.nw S6.hb) (by have := S6.hq; have := S6.hb; omega), S6.hb, S6.hq⟩⟩
        · exact (hn (by rw [S6.eq, hln]; exact hc)).elim
      · subst hh
        refine ⟨false, rfl, by rw [add_mk, cellH_blk b7]; rfl, by rw [add_mk, cellH_blk b7]; rfl, call_of (put9_ok q k sv h7 P room (by omega) R7) ?_⟩
        rintro v h8 (⟨hc, _⟩ | ⟨_, rfl, hh⟩)
        · rw [S6.eq, hln, hc1] at hc
          rcases hc with hc | hc
          · cases hc
          · omega
        · subst hh
          exact ⟨false, rfl, hK _ _ ⟨rfl, _, _, _, S6⟩⟩
    · refine f1 (f1 (call_of (drop_ok b k h6 _ _ _ S6.ix) ?_))
      rintro v h7 ⟨u7, rfl, x7, _⟩
      have b7 := b6.upd u7 (by omega)
      have R7 := S6.ri.upd u7 S6.hq
      refine ⟨_, rfl, by rw [add_mk, cellH_blk b7]; rfl, call_of (drop9_ok q k h7 P room (by omega) R7) ?_⟩
      rintro v h8 ⟨rfl, R8, u8⟩
      refine ⟨_, rfl, hK _ _ ⟨?_, _, _, _, x7.upd u8 (by have := S6.hq; omega), R8, fl_up S6.up, fl_lk S6.up S6.eq, u8.new (u7.new S6.nw S6.hb) (by have := S6.hq; have := S6.hb; omega), S6.hb, S6.hq⟩⟩
      show ((M k).isSome == decide ((fl k P).length < P.length)) = true
      rw [fl_lt S6.up, S6.eq]; simp
    · refine f1 (call_of (get_ok b k h6 _ _ _ S6.ix) ?_)
      rintro v h7 ⟨rfl, n7⟩
      have S7 := S6.new n7
      have b7 := b6.new n7
      refine ⟨((M k).getD 0, (M k).isSome), rfl, ld_of (c := .int .u32) k (by rw [add_mk, cellH_blk b7]; rfl) (call_of (get9_ok q k h7 P room (by omega) S7.ri) ?_)⟩
      rintro v h' ⟨rfl, hh⟩; subst h'
      rw [S7.eq]
      exact ⟨((M k).getD 0, (M k).isSome), rfl, br_t (by simp) (hK _ _ ⟨by simp, _, _, _, S7⟩)⟩
  rintro s h7 ⟨hs, M, n, P, S7⟩ _
  have hs : s = true := hs
  subst hs
  have hrm7 := S7.ix.le
  have hln7 := S7.len
  refine call_of (get_ok b key h7 _ _ _ S7.ix) ?_
  rintro v h8 ⟨rfl, n8⟩
  have S8 := S7.new n8
  refine ⟨((M key).getD 0, (M key).isSome), rfl, call_of (get9_ok q key h8 P room (by omega) S8.ri) ?_⟩
  rintro v h' ⟨rfl, hh⟩; subst h'
  rw [S8.eq]
  refine ⟨((M key).getD 0, (M key).isSome), rfl, br_f rfl (br_f (by simp) (br_f (by simp) (ptr_of ?_)))⟩
  obtain ⟨ra8, rc8, T8, B8, _⟩ := S8.ri
  refine ld0 B8 (call_of (len_ok b h8 _ _ _ S8.ix) ?_)
  rintro v h' ⟨rfl, hh⟩; subst h'
  refine ⟨(n : Int), rfl, by rw [add_mk, cellH_blk B8]; rfl, br_f (by show ((n : Int) != (P.length : Int)) = false; rw [hln7]; simp) (call_of (keys_ok b h8 _ _ _ S8.ix) ?_)⟩
  rintro v h9 ⟨a9, c9, L, rfl, r9, q9, n9⟩
  have S9 := S8.new n9
  have B9 := B8.new n9
  refine ⟨(a9, _, c9), rfl, by rw [add_mk, cellH_blk B9]; rfl, call_of (keys9_ok q h9 P room (by omega) S9.ri) ?_⟩
  rintro v h10 ⟨a10, c10, rfl, r10, n10⟩
  have S10 := S9.new n10
  have B10 := B9.new n10
  have hL := q9.one (up_keys S9.ix S9.up S9.eq)
  subst hL
  have hLl : (P.map Prod.fst).length ≤ 1000000 := by rw [List.length_map]; omega
  refine ⟨(a10, _, c10), rfl, by rw [add_mk, cellH_blk B10]; rfl, call_of (num_ok a9 a10 _ _ _ _ h10 (P.map Prod.fst) (P.map Prod.fst) rfl rfl hLl (r9.new n10) r10) ?_⟩
  rintro v h' ⟨rfl, hh⟩; subst h'
  rw [ez]
  exact ⟨_, rfl, by rw [add_mk, cellH_blk B10]; rfl, br_f (by simp) ⟨⟨i + 1, _, _, _, rfl, hiL, S10⟩, (by first | omega | (dsimp only; omega) | (simp only []; omega))⟩⟩
end Go.Proofs.YtfanjfbenhocnaaDoor.IxD
