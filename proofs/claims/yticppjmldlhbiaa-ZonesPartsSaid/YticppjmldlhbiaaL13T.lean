/-
  ZonesTurn of layer 13.
-/
import Derived.Test.YticppjmldlhbiaaWT13
import Derived.Test.YticppjmldlhbiaaZm
import Derived.Test.YticppjmldlhbiaaSame
import Derived.Test.YticppjmldlhbiaaReads
namespace Go.Proofs.Yticppjmldlhbiaa.L13T
open Go.Pl Go.Proofs.Yticppjmldlhbiaa.W Go.Proofs.Yticppjmldlhbiaa.Zo
theorem ar_p {k : IntKind} {h : Heap} {a : Option Addr} {xs : List Int} (r : Ar k h a xs) : ∀ i x, xs[i]? = some x → ∃ p, a = some p ∧ cellH h (p.add i) = some (.int k x) := fun i x hx => by
  obtain ⟨b, o, e, _, hc⟩ := r i x hx
  exact ⟨_, e, by rw [add_mk]; exact hc⟩
theorem awake_ok (h : Heap) : CallsH Try.prog 22 [] h fun v h' => v = .bool true ∧ New h h' := by
  refine fun_ok hm' Try.func22 (by kernel_rfl) (F22_eq _ h) ?_
  unfold F22
  refine call_of (new_ok 3 h (by omega)) ?_
  rintro v h1 ⟨T, rfl, t1⟩
  have t1 : Tb (Bs.of h) h1 T [0, 0, 0] (((0 : Nat) : Int) :: [1, 2]) [] 0 := t1
  refine ⟨(some ⟨T, 0, none⟩, Value.nilIface), rfl, cut_q (ts := []) (fun _ h' => h' = h1) ?_ ?_⟩
  rotate_left
  · intro K hK
    exact br_f rfl ⟨.inl rfl, br_f rfl (hK () _ rfl)⟩
  rintro _ h' hh _; subst h'
  refine call_of (take_ok t1 (by decide) (by decide)) ?_
  rintro v h2 ⟨rfl, t2⟩
  have t2 : Tb (Bs.of h) h2 T [1, 0, 0] (((1 : Nat) : Int) :: [2]) [] 0 := t2
  refine ⟨((0 : Int), true), rfl, call_of (take_ok t2 (by decide) (by decide)) ?_⟩
  rintro v h3 ⟨rfl, t3⟩
  have t3 : Tb (Bs.of h) h3 T [1, 1, 0] [2] [] 0 := t3
  refine ⟨((1 : Int), true), rfl, cut_q (ts := [.sc .bool]) (fun (s : Bool) h' => s = true ∧ Tb (Bs.of h) h' T [0, 2, 0] [2, 0] [(1, 0)] 1) ?_ ?_⟩
  rotate_left
  · intro K hK
    refine call_of (close_ok (z := 1) t3 rfl (by decide) (by decide)) ?_
    rintro v h4 ⟨rfl, t4⟩
    have t4 : Tb (Bs.of h) h4 T [1, 2, 0] [2] [(1, 0)] 1 := t4
    refine ⟨true, rfl, br_t rfl (call_of (close_no 1 t4 (by decide)) ?_)⟩
    rintro v h' ⟨rfl, hh⟩; subst h'
    refine ⟨false, rfl, br_t rfl (call_of (give_ok (z := 0) t4 (by decide) (by decide) (by decide) (by decide)) ?_)⟩
    rintro v h5 ⟨rfl, t5⟩
    have t5 : Tb (Bs.of h) h5 T [0, 2, 0] [2, 0] [(1, 0)] 1 := t5
    refine ⟨true, rfl, br_t rfl (call_of (give_no 0 t5 rfl) ?_)⟩
    rintro v h' ⟨rfl, hh⟩; subst h'
    exact ⟨false, rfl, hK _ _ ⟨rfl, t5⟩⟩
  rintro s h5 ⟨hs, t5⟩ _
  have hs : s = true := hs
  subst hs
  refine call_of (state_ok 1 t5) ?_
  rintro v h' ⟨rfl, hh⟩; subst h'
  refine ⟨((2 : Int), true), rfl, br_t rfl (br_t rfl (br_t rfl (br_t rfl (br_t rfl (br_t rfl (br_t rfl (call_of (free_ok t5 (by decide)) ?_)))))))⟩
  rintro v h6 ⟨a6, c6, rfl, q6⟩
  refine ⟨(a6, 2, c6), rfl, new_of fun h7 b7 n7 s7 => ?_⟩
  have b7 : Blk h7 h6.size (([2, 0] : List Int).map (Value.int .i64)).toArray TI := b7
  refine call_of (Same.same_ok _ _ _ _ _ _ h7 [2, 0] [2, 0] rfl rfl (show (2 : Nat) ≤ 9223372036854775807 by decide) (ar_p (q6.ar.new n7)) (ar_p (Ar.blk b7))) ?_
  rintro v h' ⟨rfl, hh⟩; subst h'
  have t7 := (t5.to q6.new).to n7
  refine ⟨true, rfl, br_t rfl (call_of (closed_ok t7 (by decide)) ?_)⟩
  rintro v h8 ⟨a8, c8, rfl, q8⟩
  refine ⟨(a8, 1, c8), rfl, new_of fun h9 b9 n9 s9 => ?_⟩
  have b9 : Blk h9 h8.size (([1] : List Int).map (Value.int .i64)).toArray TI := b9
  refine call_of (Same.same_ok _ _ _ _ _ _ h9 [1] [1] rfl rfl (show (1 : Nat) ≤ 9223372036854775807 by decide) (ar_p (q8.ar.new n9)) (ar_p (Ar.blk b9))) ?_
  rintro v h' ⟨rfl, hh⟩; subst h'
  have t9 := (t7.to q8.new).to n9
  refine ⟨true, rfl, br_t rfl (call_of (age_ok 1 t9 (by decide)) ?_)⟩
  rintro v h10 ⟨rfl, n10⟩
  refine ⟨_, rfl, rfl, ?_⟩
  obtain ⟨_, _, _, _, _, t10⟩ := t9.to n10
  exact Bs.of_at.1 t10.new
/- PLAIN. -/
theorem mod_shift {m t d : Nat} (hd : d < m) : (t + d) % m = if t % m + d < m then t % m + d else t % m + d - m := by
  have hr := Nat.mod_lt t (show 0 < m by omega)
  rw [Nat.add_mod, Nat.mod_eq_of_lt hd]
  split
  · rename_i h; exact Nat.mod_eq_of_lt h
  · rename_i h
    rw [Nat.mod_eq_sub_mod (by omega)]
    exact Nat.mod_eq_of_lt (by omega)
theorem mod_ne {m t d : Nat} (h0 : 0 < d) (hd : d < m) : (t + d) % m ≠ t % m := by
  have hr := Nat.mod_lt t (show 0 < m by omega)
  rw [mod_shift hd]; split <;> omega
def rowL (m t c : Nat) : List Int := (List.range c).map fun (j : Nat) => (((t + j) % m : Nat) : Int)
theorem rowL_cons (m t c : Nat) : rowL m t (c + 1) = ((t % m : Nat) : Int) :: rowL m (t + 1) c := by
  unfold rowL
  rw [List.range_succ_eq_map, List.map_cons, List.map_map]
  congr 1
  apply List.map_congr_left
  intro j _
  show (((t + (j + 1)) % m : Nat) : Int) = (((t + 1 + j) % m : Nat) : Int)
  rw [show t + (j + 1) = t + 1 + j by omega]
theorem rowL_snoc (m t c : Nat) : rowL m t (c + 1) = rowL m t c ++ [(((t + c) % m : Nat) : Int)] := by simp [rowL, List.range_succ]
theorem rowL_len (m t c : Nat) : (rowL m t c).length = c := by simp [rowL]
theorem rowL_ne {m t c : Nat} (hc : c < m) : (rowL m (t + 1) c).filter (fun y => !(((t % m : Nat) : Int) == y)) = rowL m (t + 1) c := by
  refine List.filter_eq_self.2 fun x hx => ?_
  simp only [rowL, List.mem_map, List.mem_range] at hx
  obtain ⟨j, hj, rfl⟩ := hx
  have := mod_ne (m := m) (t := t) (d := j + 1) (by omega) (by omega)
  rw [show t + (j + 1) = t + 1 + j by omega] at this
  have h2 : ¬ ((t % m : Nat) : Int) = (((t + 1 + j) % m : Nat) : Int) := fun e => this (Int.ofNat.inj e).symm
  simp only [Bool.not_eq_true', beq_eq_false_iff_ne, ne_eq]
  exact h2
theorem st_set {S : List Int} {z : Nat} (hz : z < S.length) (v : Int) : (stF (S.set z v) (z : Int)).1 = v := by
  unfold stF
  rw [if_pos (by rw [List.length_set]; omega)]
  simp [List.getD_eq_getElem?_getD, hz]
def cloL (m t i : Nat) : List (Int × Int) := (List.range i).map fun (j : Nat) => ((((t + j) % m : Nat) : Int), ((t + j : Nat) : Int))
theorem cloL_snoc (m t i : Nat) : cloL m t (i + 1) = cloL m t i ++ [((((t + i) % m : Nat) : Int), ((t + i : Nat) : Int))] := by simp [cloL, List.range_succ]
theorem cloL_len (m t i : Nat) : (cloL m t i).length = i := by simp [cloL]
theorem age_clo {m t i q : Nat} (hi : i < m) (hq : q ≤ i) (k : Int) : ageF (cloL m t (i + 1)) k (((t + q) % m : Nat) : Int) = IntKind.wrap .u32 (IntKind.wrap .u32 (k - 1) - ((t + q : Nat) : Int)) := by
  have hl := cloL_len m t (i + 1)
  rw [ageF_skip _ _ _ q fun x hx => ?_, List.drop_eq_getElem_cons (by omega), ageF, if_pos (by simp [cloL])]
  · simp [cloL]
  · obtain ⟨j, hj, rfl⟩ := List.getElem_of_mem hx
    have hj : j < q := by rw [List.length_take] at hj; omega
    rw [List.getElem_take]
    have := mod_ne (m := m) (t := t + j) (d := q - j) (by omega) (by omega)
    rw [show t + j + (q - j) = t + q by omega] at this
    simp only [cloL, List.getElem_map, List.getElem_range]
    exact fun e => this (Int.ofNat.inj e).symm
theorem turn_law (h : Heap) (v0 v1 : Value) (many turns : Int) (r0 : ReadsV h (.int .i64) v0 many) (r1 : ReadsV h (.int .i64) v1 turns) :
    CallsH Try.prog 5 [v0, v1] h fun v h' => v = .bool true ∧ New h h' := by
  obtain ⟨rfl⟩ : v0 = .int .i64 many := by obtain ⟨cs, hcs, e, _⟩ := r0; simp only at hcs; subst hcs; injection e
  obtain ⟨rfl⟩ : v1 = .int .i64 turns := by obtain ⟨cs, hcs, e, _⟩ := r1; simp only at hcs; subst hcs; injection e
  refine fun_ok hm' Try.func5 (by kernel_rfl) (F5_eq many turns _ h) ?_
  unfold F5
  refine call_of (awake_ok h) ?_
  rintro v h1 ⟨rfl, n1⟩
  refine ⟨true, rfl, br_f rfl ?_⟩
  by_cases hz : ¬ (1 ≤ many ∧ many ≤ 24)
  · refine call_of (new_no many h1 hz) ?_
    rintro v h' ⟨rfl, hh⟩; subst h'
    refine ⟨(none, _), rfl, cut_q (ts := []) (fun _ _ => False) (fun _ _ hf _ => hf.elim) ?_⟩
    intro K hK
    exact br_t rfl ⟨rfl, n1⟩
  have hz := Classical.not_not.1 hz
  obtain ⟨m, rfl⟩ := Int.eq_ofNat_of_zero_le (show 0 ≤ many by omega)
  have hm : 1 ≤ m ∧ m ≤ 24 := by omega
  refine call_of (new_ok m h1 hm) ?_
  rintro v h2 ⟨T, rfl, t2⟩
  have nw : ∀ {h' : Heap} {S F : List Int} {C : List (Int × Int)} {k : Int}, Tb (Bs.of h1) h' T S F C k → New h h' := fun t => by
    obtain ⟨_, _, _, _, _, t⟩ := t; exact n1.trans (Bs.of_at.1 t.new)
  refine ⟨(some ⟨T, 0, none⟩, Value.nilIface), rfl, cut_q (ts := []) (fun _ h' => h' = h2 ∧ 0 ≤ turns ∧ turns ≤ 200) ?_ ?_⟩
  rotate_left
  · intro K hK
    refine br_f rfl (br_of (fun _ => ⟨rfl, nw t2⟩) fun h3 => br_of (fun _ => ⟨rfl, nw t2⟩) fun h4 => hK () _ ⟨rfl, ?_⟩)
    have := of_decide_eq_false h3; have := of_decide_eq_false h4; omega
  rintro _ h' ⟨hh, ht⟩ _; subst h'
  obtain ⟨tt, rfl⟩ := Int.eq_ofNat_of_zero_le ht.1
  have htt : tt ≤ 200 := by omega
  have ck : ∀ {F : Prop}, F → ckB (!decide ((m : Int) = 0)) F := fun hF => by
    rw [decide_eq_false (by omega : ¬ (m : Int) = 0)]; exact hF
  have e0 : upto m = rowL m 0 m := by
    unfold upto rowL
    apply List.map_congr_left
    intro j hj
    rw [Nat.zero_add, Nat.mod_eq_of_lt (List.mem_range.1 hj)]
  rw [e0] at t2
  refine ⟨fun (s : Int) h' => ∃ i : Nat, s = i ∧ i ≤ tt ∧ Tb (Bs.of h1) h' T (List.replicate m 0) (rowL m i m) [] (i : Int), fun (s : Int) _ => ((tt : Int) - s).toNat, ⟨0, rfl, Nat.zero_le _, t2⟩, ?_⟩
  rintro s j h3 ⟨i, rfl, hi, t3⟩
  have hrl : (List.replicate m (0 : Int)).length = m := List.length_replicate
  refine br_of (fun hlt => ?_) (fun hlt => ?_)
  · have hlt : (i : Int) < (tt : Int) := of_decide_eq_true hlt
    obtain ⟨c, rfl⟩ : ∃ c, m = c + 1 := ⟨m - 1, by omega⟩
    have hzl : i % (c + 1) < c + 1 := Nat.mod_lt _ (by omega)
    rw [rowL_cons] at t3
    refine call_of (take_ok t3 (by rw [hrl]; exact hzl) (by rw [rowL_len]; omega)) ?_
    rintro v h4 ⟨rfl, t4⟩
    rw [rowL_ne (by omega)] at t4
    refine ⟨(((i % (c + 1) : Nat) : Int), true), rfl, br_f rfl (ck (br_f (by rw [show Int.tmod (i : Int) ((c + 1 : Nat) : Int) = ((i % (c + 1) : Nat) : Int) from rfl]; simp) ?_))⟩
    refine call_of (close_ok t4 (st_set (by rw [hrl]; exact hzl) 1) (by rw [List.length_set, hrl]; exact hzl) (by simp)) ?_
    rintro v h5 ⟨rfl, t5⟩
    refine ⟨true, rfl, br_f rfl (call_of (age_ok _ t5 (by simp)) ?_)⟩
    rintro v h6 ⟨rfl, n6⟩
    have t6 := t5.to n6
    have ek : IntKind.wrap .u32 ((i : Int) + 1) = ((i + 1 : Nat) : Int) := by rw [wru32]; omega
    have ea : ageF ([] ++ [(((i % (c + 1) : Nat) : Int), (i : Int))]) (IntKind.wrap .u32 ((i : Int) + 1)) ((i % (c + 1) : Nat) : Int) = 0 := by
      rw [ek]
      show (if _ then _ else _) = _
      rw [if_pos rfl, wru32, wru32]; omega
    refine ⟨_, rfl, br_f (by rw [ea]; rfl) (call_of (give_ok t6 (by rw [st_set (by rw [List.length_set, hrl]; exact hzl)]; decide) (by rw [List.length_set, List.length_set, hrl]; exact hzl) (by rw [rowL_len]; omega) (by simp)) ?_)⟩
    rintro v h7 ⟨rfl, t7⟩
    refine ⟨true, rfl, br_f rfl ?_⟩
    rw [wr64 (by omega) (by omega)]
    have eF : rowL (c + 1) (i + 1) c ++ [((i % (c + 1) : Nat) : Int)] = rowL (c + 1) (i + 1) (c + 1) := by
      rw [rowL_snoc, show i + 1 + c = i + (c + 1) by omega, Nat.add_mod_right]
    have eC : ([] ++ [(((i % (c + 1) : Nat) : Int), (i : Int))]).filter (fun (y : Int × Int) => !(((i % (c + 1) : Nat) : Int) == y.1)) = [] := by simp
    have eS : (((List.replicate (c + 1) (0 : Int)).set (i % (c + 1)) 1).set (i % (c + 1)) 2).set (i % (c + 1)) 0 = List.replicate (c + 1) 0 := by
      rw [List.set_set, List.set_set]
      apply List.ext_getElem?
      intro q
      rw [List.getElem?_set]
      split
      · rename_i e; subst e; simp [hzl]
      · rfl
    rw [eF, eC, eS, ek] at t7
    exact ⟨⟨i + 1, rfl, by omega, t7⟩, (by first | omega | (dsimp only; omega) | (simp only []; omega))⟩
  have hlt : ¬ (i : Int) < (tt : Int) := of_decide_eq_false hlt
  have hit : i = tt := by omega
  subst hit
  refine ⟨fun (s : Int) h' => ∃ (q : Nat) (S : List Int), s = q ∧ q ≤ m ∧ S.length = m ∧ Tb (Bs.of h1) h' T S (rowL m (i + q) (m - q)) (cloL m i q) ((i + q : Nat) : Int), fun (s : Int) _ => ((m : Int) - s).toNat, ⟨0, _, rfl, Nat.zero_le _, hrl, t3⟩, ?_⟩
  rintro s j2 h4 ⟨q, S, rfl, hq, hS, t4⟩
  refine br_of (fun hlt2 => ?_) (fun hlt2 => ?_)
  rotate_left
  · have hlt2 : ¬ (q : Int) < (m : Int) := of_decide_eq_false hlt2
    have hqm : m = q := by omega
    subst hqm
    rw [Nat.sub_self] at t4
    have t4 : Tb (Bs.of h1) h4 T S [] (cloL m i m) ((i + m : Nat) : Int) := t4
    refine call_of (take_no t4) ?_
    rintro v h' ⟨rfl, hh⟩; subst h'
    refine ⟨((0 : Int), false), rfl, br_t rfl (call_of (closed_ok t4 (by rw [cloL_len]; omega)) ?_)⟩
    rintro v h5 ⟨a5, c5, rfl, q5⟩
    refine ⟨(a5, ((cloL m i m).map Prod.fst).length, c5), rfl, ?_, nw (t4.to q5.new)⟩
    rw [List.length_map, cloL_len]; simp
  have hlt2 : (q : Int) < (m : Int) := of_decide_eq_true hlt2
  have hqm : q < m := by omega
  obtain ⟨c, hc⟩ : ∃ c, m - q = c + 1 := ⟨m - q - 1, by omega⟩
  have hzl : (i + q) % m < m := Nat.mod_lt _ (by omega)
  rw [hc, rowL_cons] at t4
  refine call_of (take_ok t4 (by rw [hS]; exact hzl) (by rw [rowL_len]; omega)) ?_
  rintro v h5 ⟨rfl, t5⟩
  rw [rowL_ne (by omega)] at t5
  have eiq : IntKind.wrap .i64 ((i : Int) + (q : Int)) = ((i + q : Nat) : Int) := by rw [wr64 (by omega) (by omega)]; simp
  refine ⟨((((i + q) % m : Nat) : Int), true), rfl, cut_q (ts := []) (fun _ h' => Tb (Bs.of h1) h' T ((S.set ((i + q) % m) 1).set ((i + q) % m) 2) (rowL m (i + q + 1) c) (cloL m i (q + 1)) ((i + q + 1 : Nat) : Int)) ?_ ?_⟩
  rotate_left
  · intro K hK
    refine br_f rfl (ck (br_f (by rw [eiq, show Int.tmod ((i + q : Nat) : Int) (m : Int) = (((i + q) % m : Nat) : Int) from rfl]; simp) (call_of (close_ok t5 (st_set (by rw [hS]; exact hzl) 1) (by rw [List.length_set, hS]; exact hzl) (by rw [cloL_len]; omega)) ?_)))
    rintro v h6 ⟨rfl, t6⟩
    have ek : IntKind.wrap .u32 (((i + q : Nat) : Int) + 1) = ((i + q + 1 : Nat) : Int) := by rw [wru32]; omega
    rw [ek, ← cloL_snoc] at t6
    exact ⟨true, rfl, br_f rfl (hK () _ t6)⟩
  rintro _ h6 t6 _
  have t6 : Tb (Bs.of h1) h6 T ((S.set ((i + q) % m) 1).set ((i + q) % m) 2) (rowL m (i + q + 1) c) (cloL m i (q + 1)) ((i + q + 1 : Nat) : Int) := t6
  have eq1 : IntKind.wrap .i64 ((q : Int) + 1) = ((q + 1 : Nat) : Int) := by rw [wr64 (by omega) (by omega)]; simp
  refine ⟨fun (s : Int) h' => ∃ r : Nat, s = r ∧ r ≤ q + 1 ∧ Tb (Bs.of h1) h' T ((S.set ((i + q) % m) 1).set ((i + q) % m) 2) (rowL m (i + q + 1) c) (cloL m i (q + 1)) ((i + q + 1 : Nat) : Int), fun (s : Int) _ => (((q + 1 : Nat) : Int) - s).toNat, ⟨0, rfl, Nat.zero_le _, t6⟩, ?_⟩
  rintro s j3 h7 ⟨r, rfl, hr, t7⟩
  rw [eq1]
  refine br_of (fun hlt3 => ?_) (fun hlt3 => ?_)
  · have hlt3 : (r : Int) < ((q + 1 : Nat) : Int) := of_decide_eq_true hlt3
    have eir : IntKind.wrap .i64 ((i : Int) + (r : Int)) = ((i + r : Nat) : Int) := by rw [wr64 (by omega) (by omega)]; simp
    rw [eir, show Int.tmod ((i + r : Nat) : Int) (m : Int) = (((i + r) % m : Nat) : Int) from rfl]
    refine ck (call_of (age_ok _ t7 (by rw [cloL_len]; omega)) ?_)
    rintro v h8 ⟨rfl, n8⟩
    rw [age_clo hqm (by omega)]
    refine ⟨_, rfl, br_f ?_ ?_⟩
    · have : IntKind.wrap .u32 (IntKind.wrap .u32 (((i + q + 1 : Nat) : Int) - 1) - ((i + r : Nat) : Int)) = IntKind.wrap .u32 (IntKind.wrap .i64 ((q : Int) - (r : Int))) := by
        rw [wr64 (by omega) (by omega), wru32, wru32, wru32]; omega
      rw [this]; simp
    · rw [wr64 (by omega) (by omega)]
      exact ⟨⟨r + 1, rfl, by omega, t7.to n8⟩, (by first | omega | (dsimp only; omega) | (simp only []; omega))⟩
  · refine ⟨⟨q + 1, (S.set ((i + q) % m) 1).set ((i + q) % m) 2, rfl, by omega, by rw [List.length_set, List.length_set]; exact hS, ?_⟩, (by first | omega | (dsimp only; omega) | (simp only []; omega))⟩
    rw [show m - (q + 1) = c by omega]; exact t7
end Go.Proofs.Yticppjmldlhbiaa.L13T
