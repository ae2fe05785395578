/-
  ZonesDo of layer 13.
-/
import Derived.Test.YticppjmldlhbiaaDoorR13
import Derived.Test.YticppjmldlhbiaaDoorWL13
import Derived.Test.YticppjmldlhbiaaDoorSame
import Derived.Test.YticppjmldlhbiaaDoorAs
import Derived.Test.YticppjmldlhbiaaDoorReads
namespace Go.Proofs.YticppjmldlhbiaaDoor.L13D
open Go.Pl Go.Proofs.YticppjmldlhbiaaDoor.W Go.Proofs.YticppjmldlhbiaaDoor.Zo Go.Proofs.YticppjmldlhbiaaDoor.Pz13 Go.Proofs.YticppjmldlhbiaaDoor.R13
open Go.Proofs.YticppjmldlhbiaaDoor.As hiding hm'
theorem ar_p {k : IntKind} {h : Heap} {a : Option Addr} {xs : List Int} (r : Ar k h a xs) : ∀ i x, xs[i]? = some x → ∃ p, a = some p ∧ cellH h (p.add i) = some (.int k x) := fun i x hx => by
  obtain ⟨b, o, e, _, hc⟩ := r i x hx
  exact ⟨_, e, by rw [add_mk]; exact hc⟩
theorem awake_ok (h : Heap) : CallsH Tryd.prog 23 [] h fun v h' => v = .bool true ∧ New h h' := by
  refine fun_ok hm' Tryd.func23 (by kernel_rfl) (F23_eq _ h) ?_
  unfold F23
  refine call_of (new_ok 3 h (by omega)) ?_
  rintro v h1 ⟨T, rfl, t1⟩
  have t1 : Tb (Bs.of h) h1 T [0, 0, 0] (((0 : Nat) : Int) :: [1, 2]) [] 0 := t1
  refine ⟨(some ⟨T, 0, none⟩, Value.nilIface), rfl, cut_q (ts := []) (fun _ h' => h' = h1) ?_ ?_⟩
  rotate_left
  · intro K hK
    exact br_f rfl ⟨.inl rfl, br_f rfl (hK () _ rfl)⟩
  rintro _ h' hh _; subst h'
  refine call_of (take_ok t1 (by decide) (by decide)) ?_
  rintro v h2 ⟨rfl, t2⟩
  have t2 : Tb (Bs.of h) h2 T [1, 0, 0] (((1 : Nat) : Int) :: [2]) [] 0 := t2
  refine ⟨((0 : Int), true), rfl, call_of (take_ok t2 (by decide) (by decide)) ?_⟩
  rintro v h3 ⟨rfl, t3⟩
  have t3 : Tb (Bs.of h) h3 T [1, 1, 0] [2] [] 0 := t3
  refine ⟨((1 : Int), true), rfl, cut_q (ts := [.sc .bool]) (fun (s : Bool) h' => s = true ∧ Tb (Bs.of h) h' T [0, 2, 0] [2, 0] [(1, 0)] 1) ?_ ?_⟩
  rotate_left
  · intro K hK
    refine call_of (close_ok (z := 1) t3 rfl (by decide) (by decide)) ?_
    rintro v h4 ⟨rfl, t4⟩
    have t4 : Tb (Bs.of h) h4 T [1, 2, 0] [2] [(1, 0)] 1 := t4
    refine ⟨true, rfl, br_t rfl (call_of (close_no 1 t4 (by decide)) ?_)⟩
    rintro v h' ⟨rfl, hh⟩; subst h'
    refine ⟨false, rfl, br_t rfl (call_of (give_ok (z := 0) t4 (by decide) (by decide) (by decide) (by decide)) ?_)⟩
    rintro v h5 ⟨rfl, t5⟩
    have t5 : Tb (Bs.of h) h5 T [0, 2, 0] [2, 0] [(1, 0)] 1 := t5
    refine ⟨true, rfl, br_t rfl (call_of (give_no 0 t5 rfl) ?_)⟩
    rintro v h' ⟨rfl, hh⟩; subst h'
    exact ⟨false, rfl, hK _ _ ⟨rfl, t5⟩⟩
  rintro s h5 ⟨hs, t5⟩ _
  have hs : s = true := hs
  subst hs
  refine call_of (state_ok 1 t5) ?_
  rintro v h' ⟨rfl, hh⟩; subst h'
  refine ⟨((2 : Int), true), rfl, br_t rfl (br_t rfl (br_t rfl (br_t rfl (br_t rfl (br_t rfl (br_t rfl (call_of (free_ok t5 (by decide)) ?_)))))))⟩
  rintro v h6 ⟨a6, c6, rfl, q6⟩
  refine ⟨(a6, 2, c6), rfl, new_of fun h7 b7 n7 s7 => ?_⟩
  have b7 : Blk h7 h6.size (([2, 0] : List Int).map (Value.int .i64)).toArray TI := b7
  refine call_of (Same.same_ok _ _ _ _ _ _ h7 [2, 0] [2, 0] rfl rfl (show (2 : Nat) ≤ 9223372036854775807 by decide) (ar_p (q6.ar.new n7)) (ar_p (Ar.blk b7))) ?_
  rintro v h' ⟨rfl, hh⟩; subst h'
  have t7 := (t5.to q6.new).to n7
  refine ⟨true, rfl, br_t rfl (call_of (closed_ok t7 (by decide)) ?_)⟩
  rintro v h8 ⟨a8, c8, rfl, q8⟩
  refine ⟨(a8, 1, c8), rfl, new_of fun h9 b9 n9 s9 => ?_⟩
  have b9 : Blk h9 h8.size (([1] : List Int).map (Value.int .i64)).toArray TI := b9
  refine call_of (Same.same_ok _ _ _ _ _ _ h9 [1] [1] rfl rfl (show (1 : Nat) ≤ 9223372036854775807 by decide) (ar_p (q8.ar.new n9)) (ar_p (Ar.blk b9))) ?_
  rintro v h' ⟨rfl, hh⟩; subst h'
  have t9 := (t7.to q8.new).to n9
  refine ⟨true, rfl, br_t rfl (call_of (age_ok 1 t9 (by decide)) ?_)⟩
  rintro v h10 ⟨rfl, n10⟩
  refine ⟨_, rfl, rfl, ?_⟩
  obtain ⟨_, _, _, _, _, t10⟩ := t9.to n10
  exact Bs.of_at.1 t10.new
/- AN ACT, PLAIN. -/
/-- What an act answers, and the rows behind it: states, free ones, closings. -/
def stepF (d z : Int) (S F D : List Int) : Int × Bool × List Int × List Int × List Int :=
  if d = 0 then (match F with | [] => (0, false, S, [], D) | x :: F' => (x, true, S.set x.toNat 1, F', D))
  else if d = 1 then (if (stF S z).1 = 1 then (-1, true, S.set z.toNat 2, F, D ++ [z]) else (-1, false, S, F, D))
  else if d = 2 then (if (stF S z).1 = 0 then (-1, false, S, F, D) else (-1, true, S.set z.toNat 0, F ++ [z], D))
  else (-1, false, S, F, D)
structure Inv (m : Nat) (S F D : List Int) : Prop where
  pz : Pz m S F (clP S D D.length) D.length
  hD : ∀ z : Int, (stF S z).1 = 2 → ∃ i, i < D.length ∧ D.getD i 0 = z
theorem stF_nat {S : List Int} {z v : Int} (hs : (stF S z).1 = v) (hv : v ≠ 0) : ∃ n : Nat, z = n ∧ n < S.length ∧ S[n]? = some v := by
  obtain ⟨n, rfl, hn⟩ := st_nat hs hv
  refine ⟨n, rfl, hn, ?_⟩
  unfold stF at hs
  rw [if_pos (by omega)] at hs
  simp [List.getD_eq_getElem?_getD, hn] at hs
  simp [hn, hs]
theorem step0 {z : Int} {S D : List Int} : stepF 0 z S [] D = (0, false, S, [], D) := rfl
theorem step0c {z : Int} {S F D : List Int} {n : Nat} : stepF 0 z S ((n : Int) :: F) D = ((n : Int), true, S.set n 1, F, D) := rfl
theorem step1 {z : Int} {S F D : List Int} (h : (stF S z).1 ≠ 1) : stepF 1 z S F D = (-1, false, S, F, D) := by unfold stepF; rw [if_neg (by omega), if_pos rfl, if_neg h]
theorem step1y {n : Nat} {S F D : List Int} (h : (stF S (n : Int)).1 = 1) : stepF 1 (n : Int) S F D = (-1, true, S.set n 2, F, D ++ [(n : Int)]) := by unfold stepF; rw [if_neg (by omega), if_pos rfl, if_pos h]; rfl
theorem step2 {z : Int} {S F D : List Int} (h : (stF S z).1 = 0) : stepF 2 z S F D = (-1, false, S, F, D) := by unfold stepF; rw [if_neg (by omega), if_neg (by omega), if_pos rfl, if_pos h]
theorem step2y {n : Nat} {S F D : List Int} (h : (stF S (n : Int)).1 ≠ 0) : stepF 2 (n : Int) S F D = (-1, true, S.set n 0, F ++ [(n : Int)], D) := by unfold stepF; rw [if_neg (by omega), if_neg (by omega), if_pos rfl, if_neg h]; rfl
theorem step3 {d z : Int} {S F D : List Int} (h0 : d ≠ 0) (h1 : d ≠ 1) (h2 : d ≠ 2) : stepF d z S F D = (-1, false, S, F, D) := by unfold stepF; rw [if_neg h0, if_neg h1, if_neg h2]
theorem nat_of_ne {S : List Int} {z : Int} (hs : (stF S z).1 ≠ 0) : ∃ n : Nat, z = n ∧ n < S.length ∧ S[n]? = some (stF S z).1 := stF_nat rfl hs
theorem Inv.step {m : Nat} {S F D : List Int} (d z : Int) (v : Inv m S F D) : Inv m (stepF d z S F D).2.2.1 (stepF d z S F D).2.2.2.1 (stepF d z S F D).2.2.2.2 ∧ (stepF d z S F D).2.2.2.2.length ≤ D.length + 1 ∧ (stepF d z S F D).2.2.2.1.length ≤ F.length + 1 := by
  have hl := v.pz.len
  by_cases h0 : d = 0
  · subst h0
    cases F with
    | nil => exact ⟨v, by rw [step0]; simp, by rw [step0]; simp⟩
    | cons x F =>
      obtain ⟨n, rfl, hn, hs0, p', _⟩ := v.pz.take
      rw [step0c]
      have hS : (stF S (n : Int)).1 ≠ 2 := by rw [stF_some hs0]; decide
      refine ⟨⟨?_, fun z hz => ?_⟩, by simp, by simp; omega⟩
      · show Pz m (S.set n 1) F (clP (S.set n 1) D D.length) D.length
        rw [clP_take hS (by omega) (by decide)]; exact p'
      · by_cases e : z = (n : Int)
        · subst e; change (stF (S.set n 1) (n : Int)).1 = 2 at hz; rw [stF_eq (by omega)] at hz; simp at hz
        · change (stF (S.set n 1) z).1 = 2 at hz; rw [stF_ne e] at hz; exact v.hD z hz
  by_cases h1 : d = 1
  · subst h1
    by_cases hs : (stF S z).1 = 1
    · obtain ⟨n, rfl, hn, hsn⟩ := stF_nat hs (by decide)
      rw [step1y hs]
      refine ⟨⟨?_, fun z hz => ?_⟩, by simp, by simp⟩
      · show Pz m (S.set n 2) F (clP (S.set n 2) (D ++ [(n : Int)]) (D ++ [(n : Int)]).length) (D ++ [(n : Int)]).length
        rw [List.length_append, List.length_singleton, clP_close hs hn]; exact v.pz.close hsn
      · show ∃ i, i < (D ++ [(n : Int)]).length ∧ (D ++ [(n : Int)]).getD i 0 = z
        rw [List.length_append, List.length_singleton]
        by_cases e : z = (n : Int)
        · exact ⟨D.length, by omega, by rw [e]; simp [List.getD_eq_getElem?_getD]⟩
        · change (stF (S.set n 2) z).1 = 2 at hz; rw [stF_ne e] at hz
          obtain ⟨i, hi, e2⟩ := v.hD z hz
          exact ⟨i, by omega, by rw [← e2]; simp [List.getD_eq_getElem?_getD, List.getElem?_append_left hi]⟩
    · rw [step1 hs]; exact ⟨v, by simp, by simp⟩
  by_cases h2 : d = 2
  · subst h2
    by_cases hs : (stF S z).1 = 0
    · rw [step2 hs]; exact ⟨v, by simp, by simp⟩
    · obtain ⟨n, rfl, hn, hsn⟩ := nat_of_ne hs
      rw [step2y hs]
      refine ⟨⟨?_, fun z hz => ?_⟩, by simp, by simp⟩
      · show Pz m (S.set n 0) (F ++ [(n : Int)]) (clP (S.set n 0) D D.length) D.length
        rw [clP_give hn]; exact v.pz.give hsn hs
      · by_cases e : z = (n : Int)
        · subst e; change (stF (S.set n 0) (n : Int)).1 = 2 at hz; rw [stF_eq hn] at hz; simp at hz
        · change (stF (S.set n 0) z).1 = 2 at hz; rw [stF_ne e] at hz; exact v.hD z hz
  · rw [step3 h0 h1 h2]; exact ⟨v, by simp, by simp⟩
/- AN ACT, BY BOTH. -/
theorem do_ok {B : Bs} {h : Heap} {T m : Nat} {S F D : List Int} (d z : Int) (t : Tb B h T S F (clP S D D.length) (D.length : Int)) (v : Inv m S F D) (hF : F.length ≤ 400) (hD : D.length ≤ 400) :
    CallsH Tryd.prog 26 [.pointer (some ⟨T, 0, none⟩), .agg #[.int .i64 d, .int .i64 z]] h fun r h' => r = .tuple #[.int .i64 (stepF d z S F D).1, .bool (stepF d z S F D).2.1] ∧
      Tb B h' T (stepF d z S F D).2.2.1 (stepF d z S F D).2.2.2.1 (clP (stepF d z S F D).2.2.1 (stepF d z S F D).2.2.2.2 (stepF d z S F D).2.2.2.2.length) ((stepF d z S F D).2.2.2.2.length : Int) := by
  refine fun_ok hm' Tryd.func26 (by kernel_rfl) (F26_eq _ _ _ _ h) ?_
  unfold F26
  refine new_of fun h1 b1 n1 s1 => ?_
  have t1 := t.to n1
  have hl := v.pz.len
  have cl := clP_len S D D.length
  have c1 : cellH h1 (Addr.add ⟨h.size, 0, none⟩ 1) = some (.int .i64 z) := by rw [add_mk, cellH_blk b1]; rfl
  refine ld_of (c := .int .i64) d (by rw [add_mk, cellH_blk b1]; rfl) (br_of (fun hd => ?_) fun hd0 => ?_)
  · have hd : d = 0 := by simpa using hd
    subst hd
    cases F with
    | nil =>
      refine call_of (take_no t1) ?_
      rintro r h' ⟨rfl, hh⟩; subst h'
      exact ⟨((0 : Int), false), rfl, rfl, t1⟩
    | cons x F =>
      obtain ⟨n, rfl, hn, hs0, p', ef⟩ := v.pz.take
      refine call_of (take_ok t1 (by omega) (by simp at hF; omega)) ?_
      rintro r h' ⟨rfl, t2⟩
      rw [ef] at t2
      rw [step0c]
      refine ⟨((n : Int), true), rfl, rfl, ?_⟩
      show Tb B h' T (S.set n 1) F (clP (S.set n 1) D D.length) (D.length : Int)
      rw [clP_take (by rw [stF_some hs0]; decide) (by omega) (by decide)]; exact t2
  have hd0 : d ≠ 0 := by simpa using hd0
  refine br_of (fun hd => ?_) fun hd1 => ?_
  · have hd : d = 1 := by simpa using hd
    subst hd
    refine ld_of (c := .int .i64) z c1 ?_
    by_cases hs : (stF S z).1 = 1
    · obtain ⟨n, rfl, hn, hsn⟩ := stF_nat hs (by decide)
      refine call_of (close_ok t1 hs hn (by omega)) ?_
      rintro r h' ⟨rfl, t2⟩
      rw [show IntKind.wrap .u32 ((D.length : Int) + 1) = ((D.length + 1 : Nat) : Int) by rw [wru32]; omega] at t2
      rw [step1y hs]
      refine ⟨true, rfl, rfl, ?_⟩
      show Tb B h' T (S.set n 2) F (clP (S.set n 2) (D ++ [(n : Int)]) (D ++ [(n : Int)]).length) ((D ++ [(n : Int)]).length : Int)
      rw [List.length_append, List.length_singleton, clP_close hs hn]; exact t2
    · refine call_of (close_no z t1 hs) ?_
      rintro r h' ⟨rfl, hh⟩; subst h'
      rw [step1 hs]
      exact ⟨false, rfl, rfl, t1⟩
  have hd1 : d ≠ 1 := by simpa using hd1
  refine br_of (fun hd => ?_) fun hd2 => ?_
  · have hd : d = 2 := by simpa using hd
    subst hd
    refine ld_of (c := .int .i64) z c1 ?_
    by_cases hs : (stF S z).1 = 0
    · refine call_of (give_no z t1 hs) ?_
      rintro r h' ⟨rfl, hh⟩; subst h'
      rw [step2 hs]
      exact ⟨false, rfl, rfl, t1⟩
    · obtain ⟨n, rfl, hn, hsn⟩ := nat_of_ne hs
      refine call_of (give_ok t1 hs hn (by omega) (by omega)) ?_
      rintro r h' ⟨rfl, t2⟩
      rw [step2y hs]
      refine ⟨true, rfl, rfl, ?_⟩
      show Tb B h' T (S.set n 0) (F ++ [(n : Int)]) (clP (S.set n 0) D D.length) (D.length : Int)
      rw [clP_give hn]; exact t2
  · have hd2 : d ≠ 2 := by simpa using hd2
    rw [step3 hd0 hd1 hd2]
    exact ⟨rfl, t1⟩
theorem plus_new {X : Nat → Prop} {h h1 h' : Heap} (n : h.size ≤ h1.size) (b : Nat) : plus X h1 h' b → plus X h h' b := fun hb => hb.imp id fun ⟨x, y⟩ => ⟨by omega, y⟩
theorem own_ok {h : Heap} {X : Nat → Prop} {c g m : Nat} {S F D : List Int} (d z : Int) (t : RT h X c g S F D) (v : Inv m S F D) (hF : F.length ≤ 400) (hD : D.length ≤ 400) :
    CallsH Tryd.prog 27 [.pointer (some ⟨c, 0, none⟩), .agg #[.int .i64 d, .int .i64 z]] h fun r h' => r = .tuple #[.int .i64 (stepF d z S F D).1, .bool (stepF d z S F D).2.1] ∧
      RT h' (plus X h h') c g (stepF d z S F D).2.2.1 (stepF d z S F D).2.2.2.1 (stepF d z S F D).2.2.2.2 ∧ Upd2 c g h h' := by
  refine fun_ok hm' Tryd.func27 (by kernel_rfl) (F27_eq _ _ _ _ h) ?_
  unfold F27
  refine new_of fun h1 b1 n1 s1 => ?_
  have t1 := t.new n1
  have hl := v.pz.len
  have c1 : cellH h1 (Addr.add ⟨h.size, 0, none⟩ 1) = some (.int .i64 z) := by rw [add_mk, cellH_blk b1]; rfl
  have st : ∀ {h' : Heap} {S' F' D' : List Int}, RT h' (plus X h1 h') c g S' F' D' ∧ Upd2 c g h1 h' → RT h' (plus X h h') c g S' F' D' ∧ Upd2 c g h h' := fun ⟨r, u⟩ => ⟨r.wide (plus_new n1.size), (Upd2.new n1).trans u⟩
  have st0 : RT h1 (plus X h h1) c g S F D ∧ Upd2 c g h h1 := ⟨t1.wide fun b hb => .inl hb, Upd2.new n1⟩
  refine ld_of (c := .int .i64) d (by rw [add_mk, cellH_blk b1]; rfl) (br_of (fun hd => ?_) fun hd0 => ?_)
  · have hd : d = 0 := by simpa using hd
    subst hd
    cases F with
    | nil =>
      refine call_of (rtake_no t1) ?_
      rintro r h' ⟨rfl, hh⟩; subst h'
      exact ⟨((0 : Int), false), rfl, rfl, st0⟩
    | cons x F =>
      obtain ⟨n, rfl, hn, hs0, p', ef⟩ := v.pz.take
      refine call_of (rtake_ok t1 (by omega) (by simp at hF; omega)) ?_
      rintro r h' ⟨rfl, t2⟩
      rw [step0c]
      exact ⟨((n : Int), true), rfl, rfl, st t2⟩
  have hd0 : d ≠ 0 := by simpa using hd0
  refine br_of (fun hd => ?_) fun hd1 => ?_
  · have hd : d = 1 := by simpa using hd
    subst hd
    refine ld_of (c := .int .i64) z c1 ?_
    by_cases hs : (stF S z).1 = 1
    · obtain ⟨n, rfl, hn, hsn⟩ := stF_nat hs (by decide)
      refine call_of (rclose_ok t1 hs hn (by omega)) ?_
      rintro r h' ⟨rfl, t2⟩
      rw [step1y hs]
      exact ⟨true, rfl, rfl, st t2⟩
    · refine call_of (rclose_no z t1 hs) ?_
      rintro r h' ⟨rfl, hh⟩; subst h'
      rw [step1 hs]
      exact ⟨false, rfl, rfl, st0⟩
  have hd1 : d ≠ 1 := by simpa using hd1
  refine br_of (fun hd => ?_) fun hd2 => ?_
  · have hd : d = 2 := by simpa using hd
    subst hd
    refine ld_of (c := .int .i64) z c1 ?_
    by_cases hs : (stF S z).1 = 0
    · refine call_of (rgive_no z t1 hs) ?_
      rintro r h' ⟨rfl, hh⟩; subst h'
      rw [step2 hs]
      exact ⟨false, rfl, rfl, st0⟩
    · obtain ⟨n, rfl, hn, hsn⟩ := nat_of_ne hs
      refine call_of (rgive_ok t1 hs hn (by omega)) ?_
      rintro r h' ⟨rfl, t2⟩
      rw [step2y hs]
      exact ⟨true, rfl, rfl, st t2⟩
  · have hd2 : d ≠ 2 := by simpa using hd2
    rw [step3 hd0 hd1 hd2]
    exact ⟨rfl, st0⟩
abbrev AcS : Sh := .pair (.int .i64) (.int .i64)
theorem two_ld {h0 h : Heap} {a : Option Addr} {l : List (Int × Int)} (r : SlAt h0 AcS a l) (n : New h0 h) {i : Nat} (hi : i < l.length) :
    ∀ {m : Nat} {F : Int × Int → Prop}, i < m → F (l[i].1, l[i].2) → ptrW a (fun p => idxW (i : Int) m true (ldAggW [.int .i64, .int .i64] (Addr.add p (Int.toNat (i : Int) * 2)) F h)) := by
  obtain ⟨b, o, es, rfl, hb, hel, hc, c1, c2, rfl, ⟨rfl, _⟩, ⟨rfl, w2⟩⟩ := r i _ (List.getElem?_eq_getElem hi)
  intro m F hm hF
  exact agg_at (k := 2) ((l[i].1, l[i].2) : Int × Int) (es := [.int .i64 l[i].1, .int .i64 l[i].2]) (fun j hj => by rw [cellH_same (n.same b hb)]; exact hc j hj) rfl rfl hm hF
theorem zeroA : (zeroC Tryd.prog 60).size = 2 := by kernel_rfl
/-- Both tables, and blocks that stay. -/
structure Two (h0 h : Heap) (T c g m : Nat) (S F D : List Int) (B : Bs) : Prop where
  tb : Tb B h T S F (clP S D D.length) (D.length : Int)
  rt : RT h B.X c g S F D
  lo : ∀ b, b < h0.size → B.X b
  new : New h0 h
  gc : h0.size ≤ c
  gg : h0.size ≤ g
  inv : Inv m S F D
theorem Two.to {h0 h h' : Heap} {T c g m : Nat} {S F D : List Int} {B : Bs} (t : Two h0 h T c g m S F D B) (n : New h h') : Two h0 h' T c g m S F D B := ⟨t.tb.to n, t.rt.new n, t.lo, t.new.trans n, t.gc, t.gg, t.inv⟩
theorem do_law (h : Heap) (v0 v1 v2 : Value) (many : Int) (l : List (Int × Int)) (zone : Int) (r0 : ReadsV h (.int .i64) v0 many) (r1 : ReadsV h (.slice AcS) v1 l) (r2 : ReadsV h (.int .i64) v2 zone) (hg0 : Laid h) :
    CallsH Tryd.prog 4 [v0, v1, v2] h fun v h' => v = .bool true ∧ New h h' := by
  obtain ⟨rfl⟩ : v0 = .int .i64 many := by obtain ⟨cs, hcs, e, _⟩ := r0; simp only at hcs; subst hcs; injection e
  obtain ⟨rfl⟩ : v2 = .int .i64 zone := by obtain ⟨cs, hcs, e, _⟩ := r2; simp only at hcs; subst hcs; injection e
  obtain ⟨la, lc, rfl, _, _, _, sl⟩ := SlAt.reads r1
  refine fun_ok hm' Tryd.func4 (by kernel_rfl) (F4_eq many la l.length lc zone _ h) ?_
  unfold F4
  refine call_of (awake_ok h) ?_
  rintro v h1 ⟨rfl, n1⟩
  refine ⟨true, rfl, br_f rfl (br_of (fun _ => ⟨rfl, n1⟩) fun hl => ?_)⟩
  have hl : ¬ (l.length : Int) > 200 := of_decide_eq_false hl
  by_cases hz : ¬ (1 ≤ many ∧ many ≤ 24)
  · refine call_of (new_no many h1 hz) ?_
    rintro v h' ⟨rfl, hh⟩; subst h'
    refine ⟨(none, _), rfl, call_of (rnew_no many h1 hz) ?_⟩
    rintro v h' ⟨rfl, hh⟩; subst h'
    refine ⟨(none, (1 : Int)), rfl, cut_q (ts := []) (fun _ h' => New h1 h') ?_ ?_⟩
    · rintro _ h4 n4 _
      exact br_t rfl ⟨rfl, n1.trans n4⟩
    · intro K hK
      refine call_of (code_err 1 h1 (hg0.new n1)) ?_
      rintro v h4 ⟨rfl, n4⟩
      exact ⟨(1 : Int), rfl, br_f rfl (br_f rfl (hK () _ n4))⟩
  have hz := Classical.not_not.1 hz
  obtain ⟨m, rfl⟩ := Int.eq_ofNat_of_zero_le (show 0 ≤ many by omega)
  have hm : 1 ≤ m ∧ m ≤ 24 := by omega
  refine call_of (new_ok m h1 hm) ?_
  rintro v h2 ⟨T, rfl, t2⟩
  have n12 : New h1 h2 := Bs.of_at.1 (Tb.at_ t2)
  refine ⟨(some ⟨T, 0, none⟩, Value.nilIface), rfl, call_of (rnew_ok m h2 hm) ?_⟩
  rintro v h3 ⟨c, g, rfl, r3, n3⟩
  have n13 := n12.trans n3
  refine ⟨(some ⟨c, 0, none⟩, (0 : Int)), rfl, cut_q (ts := []) (fun _ h' => New h3 h') ?_ ?_⟩
  rotate_left
  · intro K hK
    refine call_of (code_err 0 h3 ((hg0.new n1).new n13)) ?_
    rintro v h4 ⟨rfl, n4⟩
    exact ⟨(0 : Int), rfl, br_f rfl (br_f rfl (hK () _ n4))⟩
  rintro _ h4 n4 _
  have n14 := n13.trans n4
  have hs12 := n12.size
  have hs13 := n13.size
  have hs34 := n4.size
  have hs23 := n3.size
  have inv0 : Inv m (List.replicate m 0) (upto m) [] := by
    refine ⟨⟨by simp, ?_, fun x hx => ?_, List.nodup_nil, fun x hx => (by cases hx), fun z hz => ?_, List.Pairwise.nil, fun x hx => (by cases hx)⟩, fun z hz => ?_⟩
    · unfold upto
      rw [List.nodup_iff_pairwise_ne, List.pairwise_iff_getElem]
      intro i j hi hj hij
      simp only [List.getElem_map, List.getElem_range]
      omega
    · unfold upto at hx
      obtain ⟨z, hz, rfl⟩ := List.mem_map.1 hx
      exact ⟨z, rfl, List.mem_range.1 hz, by simp [List.mem_range.1 hz]⟩
    · exact .inl ⟨by simp [hz], List.mem_map.2 ⟨z, List.mem_range.2 hz, rfl⟩⟩
    · obtain ⟨n, rfl, hn, hs⟩ := stF_nat hz (by decide)
      simp at hn
      simp [hn] at hs
  have eu : (upto m).length = m := by simp [upto]
  have T4 : Two h1 h4 T c g m (List.replicate m 0) (upto m) [] ⟨h4, fun b => b < h1.size ∨ (h2.size ≤ b ∧ b < h3.size), fun b hb => by omega⟩ :=
    ⟨Tb.base t2 _ _ (fun b hb => hb.imp id fun x => x.1) fun b hb _ => (n3.trans n4).same b hb, (r3.new n4).wide fun b hb => .inr hb, fun b hb => .inl hb, n14, by have := r3.xc; omega, by have := r3.xg; omega, inv0⟩
  refine br_f rfl ⟨fun (s : Int) h' => ∃ (i : Nat) (S F D : List Int) (B : Bs), s = i ∧ i ≤ l.length ∧ D.length ≤ i ∧ F.length ≤ m + i ∧ Two h1 h' T c g m S F D B, fun (s : Int) _ => ((l.length : Int) - s).toNat, ⟨0, _, _, [], _, rfl, Nat.zero_le _, Nat.le_refl _, by rw [eu]; omega, T4⟩, ?_⟩
  rintro s j h5 ⟨i, S, F, D, B, rfl, hi, hDl, hFl, T5⟩
  refine br_of (fun hlt => ?_) fun _ => ⟨rfl, n1.trans T5.new⟩
  have hlt : (i : Int) < (l.length : Int) := of_decide_eq_true hlt
  have hiL : i < l.length := by omega
  refine two_ld sl (n1.trans T5.new) hiL hiL (new_stL (by rw [zeroA]; rfl) fun h6 b6 n6 s6 => ?_)
  generalize l[i].1 = d at b6
  generalize l[i].2 = z at b6
  have b6 : Blk h6 h5.size #[.int .i64 d, .int .i64 z] 60 := b6
  have a5 := Tb.at_ T5.tb
  have hs56 := n6.size
  have t6 : Tb ⟨h6, fun b => B.X b ∨ b = h5.size, fun b hb => by rcases hb with hb | hb; have := B.ok b hb; have := a5.1; omega; omega⟩ h6 T S F (clP S D D.length) (D.length : Int) := by
    refine Tb.base T5.tb _ _ (fun b hb => ?_) fun b hb _ => n6.same b hb
    rcases hb with hb | hb
    · exact .inl hb
    · exact .inr (by omega)
  refine ldAgg_blk (d, z) b6 ⟨rfl, rfl, trivial⟩ (call_of (do_ok d z t6 T5.inv (by omega) (by omega)) ?_)
  rintro v h7 ⟨rfl, t7⟩
  have a6 := Tb.at_ t6
  have a7 := Tb.at_ t7
  have hs67 : h6.size ≤ h7.size := a7.1
  have b7 : Blk h7 h5.size #[.int .i64 d, .int .i64 z] 60 := (kept a6 a7 (.inr rfl)).trans b6
  have r7 : RT h7 B.X c g S F D := (T5.rt.new n6).keep hs67 fun b hb _ => kept a6 a7 (.inl hb)
  refine ⟨((stepF d z S F D).1, (stepF d z S F D).2.1), rfl, ldAgg_blk (d, z) b7 ⟨rfl, rfl, trivial⟩ (call_of (own_ok d z r7 T5.inv (by omega) (by omega)) ?_)⟩
  rintro v h8 ⟨rfl, r8, u8⟩
  obtain ⟨inv', hD', hF'⟩ := T5.inv.step d z
  generalize (stepF d z S F D).2.2.1 = S' at t7 r8 inv'
  generalize (stepF d z S F D).2.2.2.1 = F' at t7 r8 inv' hF'
  generalize (stepF d z S F D).2.2.2.2 = D' at t7 r8 inv' hD'
  have hs78 := u8.size
  have n78 : ∀ b, b < h1.size → h8[b]? = h7[b]? := fun b hb => u8.same b (by have := T5.new.size; omega) (by have := T5.gc; omega) (by have := T5.gg; omega)
  have T8 : Two h1 h8 T c g m S' F' D' ⟨h8, plus B.X h7 h8, fun b hb => by rcases hb with hb | hb; have := B.ok b hb; have := a5.1; omega; exact hb.2⟩ := by
    refine ⟨Tb.base t7 _ _ (fun b hb => hb.imp .inl fun x => x.1) fun b hb ho => u8.same b hb (fun e => ho (.inl (by rw [e]; exact T5.rt.xc))) (fun e => ho (.inl (by rw [e]; exact T5.rt.xg))), r8, fun b hb => .inl (T5.lo b hb), ⟨by have := T5.new.size; omega, fun b hb => ?_⟩, T5.gc, T5.gg, inv'⟩
    rw [n78 b hb, kept a6 a7 (.inl (T5.lo b hb))]
    exact (T5.new.trans n6).same b hb
  refine ⟨((stepF d z S F D).1, (stepF d z S F D).2.1), rfl, call_of (state_ok zone T8.tb) ?_⟩
  rintro v h' ⟨rfl, hh⟩; subst h'
  refine ⟨((stF S' zone).1, (stF S' zone).2), rfl, call_of (rstate_ok zone T8.rt) ?_⟩
  rintro v h' ⟨rfl, hh⟩; subst h'
  refine ⟨((stF S' zone).1, (stF S' zone).2), rfl, br_f (by simp) (br_f (by simp) (br_f (by simp) (br_f (by simp) (call_of (age_ok zone T8.tb (by have := clP_len S' D' D'.length; omega)) ?_))))⟩
  rintro v h9 ⟨rfl, n9⟩
  have T9 := T8.to n9
  refine ⟨_, rfl, call_of (rage_ok zone T9.rt (by omega)) ?_⟩
  rintro v h' ⟨rfl, hh⟩; subst h'
  refine ⟨_, rfl, br_f (by rw [age_eq (by omega) inv'.hD]; simp) ?_⟩
  obtain ⟨⟨sc, fa, fc, da, dc, bb, os, af, ad, hf, hd, hfl⟩, xc, xg, ne⟩ := id T9.rt
  have c1 : cellH h9 (Addr.add ⟨c, 0, none⟩ 1) = some (.slice fa F'.length fc) := by rw [add_mk, cellH_blk bb]; rfl
  refine ptr_of (ld_of (c := .slice) (fa, F'.length, fc) c1 (call_of (free_ok T9.tb (by omega)) ?_))
  rintro v h10 ⟨a10, c10, rfl, q10⟩
  have hF9 : F'.length ≤ 9223372036854775807 := by omega
  have T10 := T9.to q10.new
  refine ⟨(a10, F'.length, c10), rfl, by rw [add_mk, cellH_blk (bb.new q10.new)]; rfl, call_of (Same.same_ok _ _ _ _ _ _ h10 F' F' rfl rfl hF9 (ar_p q10.ar) (ar_p (af.new q10.new))) ?_⟩
  rintro v h' ⟨rfl, hh⟩; subst h'
  have hcl := clP_len S' D' D'.length
  refine ⟨true, by rw [decide_eq_true rfl] <;> rfl, br_f rfl (call_of (closed_ok T10.tb (by omega)) ?_)⟩
  rintro v h11 ⟨a11, c11, rfl, q11⟩
  have T11 := T10.to q11.new
  refine ⟨(a11, ((clP S' D' D'.length).map Prod.fst).length, c11), rfl, call_of (rclosed_ok T11.rt (by omega)) ?_⟩
  rintro v h12 ⟨a12, c12, rfl, q12⟩
  have T12 := T11.to q12.new
  have hC9 : ((clP S' D' D'.length).map Prod.fst).length ≤ 9223372036854775807 := by rw [List.length_map]; omega
  refine ⟨(a12, ((clP S' D' D'.length).map Prod.fst).length, c12), rfl, call_of (Same.same_ok _ _ _ _ _ _ h12 ((clP S' D' D'.length).map Prod.fst) ((clP S' D' D'.length).map Prod.fst) rfl rfl hC9 (ar_p (q11.ar.new q12.new)) (ar_p q12.ar)) ?_⟩
  rintro v h' ⟨rfl, hh⟩; subst h'
  refine ⟨true, by rw [decide_eq_true rfl] <;> rfl, br_f rfl ?_⟩
  rw [wr64 (by omega) (by omega)]
  exact ⟨⟨i + 1, S', F', D', _, rfl, hiL, by omega, by omega, T12⟩, (by first | omega | (dsimp only; omega) | (simp only []; omega))⟩
end Go.Proofs.YticppjmldlhbiaaDoor.L13D
