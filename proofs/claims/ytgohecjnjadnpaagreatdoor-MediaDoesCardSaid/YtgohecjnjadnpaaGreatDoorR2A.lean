/-
  The reference of geo: its contracts.
-/
import Derived.Test.YtgohecjnjadnpaaGreatDoorWR2A
import Derived.Test.YtgohecjnjadnpaaGreatDoorMedP
import Derived.Test.YtgohecjnjadnpaaGreatDoorSep
namespace Go.Proofs.YtgohecjnjadnpaaGreatDoor.R2
open Go.Pl Go.Proofs.YtgohecjnjadnpaaGreatDoor.W Go.Proofs.YtgohecjnjadnpaaGreatDoor.Geo
theorem tab_ok (n : Int) (h : Heap) (h0 : 0 ≤ n) (h1 : n ≤ 1000000) : CallsH Tryz.prog 45 [.int .i64 n] h fun v h' => v = .int .i64 ((n + 3) / 4) ∧ h' = h := by
  refine fun_ok hm' Tryz.func45 (by kernel_rfl) (F45_eq _ _ h) ?_
  unfold F45
  rw [Int.tdiv_eq_ediv_of_nonneg h0, Int.tmod_eq_emod_of_nonneg h0, wr64 (n := n / 4) (by omega) (by omega), wr64 (by omega) (by omega)]
  refine br_of (fun hb => ⟨?_, rfl⟩) (fun hb => ⟨?_, rfl⟩)
  · have := of_decide_eq_true hb
    rw [show n / 4 + 1 = (n + 3) / 4 by omega]
  · have := of_decide_eq_false hb
    rw [show n / 4 = (n + 3) / 4 by omega]
theorem rbound_ok (z p : Int) (h : Heap) : CallsH Tryz.prog 22 [.int .i64 z, .int .i64 p] h fun v h' => v = .int .i64 (boundF z p) ∧ h' = h := by
  refine fun_ok hm' Tryz.func22 (by kernel_rfl) (F22_eq _ _ _ h) ?_
  unfold F22
  have no : ¬ ((11 ≤ z ∧ z ≤ 24) ∧ 4 ≤ p ∧ p ≤ 16) → boundF z p = 0 := fun hh => if_neg hh
  refine cut_q (ts := []) (fun _ h' => h' = h ∧ (11 ≤ z ∧ z ≤ 24) ∧ 4 ≤ p ∧ p ≤ 16) ?_ ?_
  rotate_left
  · intro K hK
    refine br_of (fun h1 => ⟨by rw [no (by have := of_decide_eq_true h1; omega)], rfl⟩) fun h1 => br_of (fun h2 => ⟨by rw [no (by have := of_decide_eq_true h2; omega)], rfl⟩) fun h2 => br_of (fun h3 => ⟨by rw [no (by have := of_decide_eq_true h3; omega)], rfl⟩) fun h3 => br_of (fun h4 => ⟨by rw [no (by have := of_decide_eq_true h4; omega)], rfl⟩) fun h4 => hK () _ ⟨rfl, ?_⟩
    have h1 := of_decide_eq_false h1; have h2 := of_decide_eq_false h2; have h3 := of_decide_eq_false h3; have h4 := of_decide_eq_false h4
    omega
  rintro _ h' ⟨hh, hz, hp⟩ _; subst h'
  have hb : boundF z p = boundFrom z p 64 := if_pos ⟨hz, hp⟩
  have hzp : 0 ≤ (z - 7) * p ∧ (z - 7) * p ≤ 17 * 16 := ⟨Int.mul_nonneg (by omega) (by omega), Int.mul_le_mul (by omega) (by omega) (by omega) (by omega)⟩
  refine ⟨fun (s : Int × Int) h' => h' = h ∧ ∃ i : Nat, s = (boundFrom z p i, ((i + 1 : Nat) : Int)) ∧ i ≤ 64, fun (s : Int × Int) _ => (65 - s.2).toNat, ⟨rfl, 0, rfl, by omega⟩, ?_⟩
  rintro s j h' ⟨hh, i, rfl, hi⟩; subst h'
  have hbl := boundFrom_le z p i
  refine br_of (fun hlt => ?_) (fun hlt => ?_)
  · have hlt : ((i + 1 : Nat) : Int) ≤ 64 := of_decide_eq_true hlt
    have e3 : IntKind.wrap .i64 (((i + 1 : Nat) : Int) + 1) = ((i + 1 + 1 : Nat) : Int) := by rw [wr64 (by omega) (by omega)]; rfl
    have step : ∀ b : Int, b = boundFrom z p (i + 1) → (h = h ∧ ∃ i' : Nat, (b, ((i + 1 + 1 : Nat) : Int)) = (boundFrom z p i', ((i' + 1 : Nat) : Int)) ∧ i' ≤ 64) ∧ ((65 : Int) - ((i + 1 + 1 : Nat) : Int)).toNat < ((65 : Int) - ((i + 1 : Nat) : Int)).toNat := fun b hb => ⟨⟨rfl, i + 1, by rw [hb], by omega⟩, by omega⟩
    have e4 : IntKind.wrap .i64 ((IntKind.wrap .i64 (z - (7 : Int))) * p) = (z - 7) * p := by rw [wr64 (n := z - 7) (by omega) (by omega), wr64 (by omega) (by omega)]
    have e5 : IntKind.wrap .i64 ((2 : Int) * IntKind.wrap .i64 (((i + 1 : Nat) : Int) + (((i + 1 : Nat) : Int) + 3) / 4)) = 2 * (((i + 1 : Nat) : Int) + (((i + 1 : Nat) : Int) + 3) / 4) := by rw [wr64 (n := ((i + 1 : Nat) : Int) + _) (by omega) (by omega), wr64 (by omega) (by omega)]
    refine call_of (tab_ok ((i + 1 : Nat) : Int) h (by omega) (by omega)) ?_
    rintro v h' ⟨rfl, hh⟩; subst h'
    refine ⟨((((i + 1 : Nat) : Int) + 3) / 4 : Int), rfl, br_of (fun h1 => ?_) fun h1 => ?_⟩
    · refine call_of (tab_ok ((i + 1 : Nat) : Int) h (by omega) (by omega)) ?_
      rintro v h' ⟨rfl, hh⟩; subst h'
      refine ⟨((((i + 1 : Nat) : Int) + 3) / 4 : Int), rfl, ?_⟩
      rw [e3, e4, e5]
      have h1 : (((i + 1 : Nat) : Int) + 3) / 4 ≤ p := of_decide_eq_true h1
      refine br_of (fun h2 => step _ ?_) (fun h2 => step _ ?_)
      · have h2 : 2 * (((i + 1 : Nat) : Int) + (((i + 1 : Nat) : Int) + 3) / 4) ≤ (z - 7) * p := of_decide_eq_true h2
        simp only [boundFrom]
        rw [if_pos]
        unfold okB
        rw [decide_eq_true h1, decide_eq_true (by generalize (z - 7) * p = Q at *; omega)]; rfl
      · have h2 : ¬ 2 * (((i + 1 : Nat) : Int) + (((i + 1 : Nat) : Int) + 3) / 4) ≤ (z - 7) * p := of_decide_eq_false h2
        simp only [boundFrom]
        rw [if_neg]
        unfold okB
        rw [decide_eq_false (p := _ ≤ (z - 7) * p / 2) (by generalize (z - 7) * p = Q at *; omega)]; simp
    · rw [e3]
      have h1 : ¬ (((i + 1 : Nat) : Int) + 3) / 4 ≤ p := of_decide_eq_false h1
      refine step _ ?_
      simp only [boundFrom]
      rw [if_neg]
      unfold okB
      rw [decide_eq_false (p := _ ≤ p) h1]; simp
  · have hlt : ¬ ((i + 1 : Nat) : Int) ≤ 64 := of_decide_eq_false hlt
    have : i = 64 := by omega
    subst this
    exact ⟨by rw [hb], rfl⟩
theorem rright_ok (z p b : Int) (h : Heap) : CallsH Tryz.prog 5 [.agg #[.int .i64 z, .int .i64 p, .int .i64 b]] h fun v h' => v = .bool (rightB z p b) ∧ New h h' := by
  refine fun_ok hm' Tryz.func5 (by kernel_rfl) (F5_eq _ _ _ _ h) ?_
  unfold F5
  refine new_of fun h2 b2 n2 s2 => ld_of (c := .int .i64) b (by rw [add_mk, cellH_blk b2]; rfl) (br_of (fun h1 => ?_) fun h1 => ⟨?_, n2⟩)
  · refine ld_of (c := .int .i64) b (by rw [add_mk, cellH_blk b2]; rfl) (ld_of (c := .int .i64) z (by rw [add_mk, cellH_blk b2]; rfl) (ld_of (c := .int .i64) p (by rw [add_mk, cellH_blk b2]; rfl) (call_of (rbound_ok z p h2) ?_)))
    rintro v h' ⟨rfl, hh⟩; subst h'
    refine ⟨boundF z p, rfl, by rw [add_mk, cellH_blk b2]; rfl, ?_, n2⟩
    unfold rightB
    rw [decide_eq_true (p := 1 ≤ b) (of_decide_eq_true h1), Bool.and_true]
  · unfold rightB
    rw [decide_eq_false (p := 1 ≤ b) (of_decide_eq_false h1), Bool.and_false]
theorem rof_ok (z p b zone page : Int) (h : Heap) (hz : 11 ≤ z ∧ z ≤ 24) (hp : 4 ≤ p ∧ p ≤ 16) :
    CallsH Tryz.prog 53 [.agg #[.int .i64 z, .int .i64 p, .int .i64 b], .int .i64 zone, .int .i64 page] h fun v h' => v = .int .u32 (ofF z p zone page) ∧ New h h' := by
  refine fun_ok hm' Tryz.func53 (by kernel_rfl) (F53_eq _ _ _ _ _ _ h) ?_
  unfold F53
  refine new_of fun h2 b2 n2 s2 => ?_
  have no : ¬ ((0 ≤ zone ∧ zone ≤ z - 3) ∧ 0 ≤ page ∧ page ≤ p - 1) → ofF z p zone page = 0 := fun hh => if_neg hh
  have ez : IntKind.wrap .i64 (z - 3) = z - 3 := wr64 (by omega) (by omega)
  have ep : IntKind.wrap .i64 (p - 1) = p - 1 := wr64 (by omega) (by omega)
  refine cut_q (ts := []) (fun _ h' => h' = h2 ∧ (0 ≤ zone ∧ zone ≤ z - 3) ∧ 0 ≤ page ∧ page ≤ p - 1) ?_ ?_
  rotate_left
  · intro K hK
    refine br_of (fun h1 => ⟨by rw [no (by have := of_decide_eq_true h1; omega)], n2⟩) fun h1 => ld_of (c := .int .i64) z (by rw [add_mk, cellH_blk b2]; rfl) ?_
    rw [ez]
    refine br_of (fun h3 => ⟨by rw [no (by have := of_decide_eq_true h3; omega)], n2⟩) fun h3 => br_of (fun h4 => ⟨by rw [no (by have := of_decide_eq_true h4; omega)], n2⟩) fun h4 => ld_of (c := .int .i64) p (by rw [add_mk, cellH_blk b2]; rfl) ?_
    rw [ep]
    refine br_of (fun h5 => ⟨by rw [no (by have := of_decide_eq_true h5; omega)], n2⟩) fun h5 => hK () _ ⟨rfl, ?_⟩
    have h1 := of_decide_eq_false h1; have h3 := of_decide_eq_false h3; have h4 := of_decide_eq_false h4; have h5 := of_decide_eq_false h5
    omega
  rintro _ h' ⟨hh, hc⟩ _; subst h'
  refine ld_of (c := .int .i64) p (by rw [add_mk, cellH_blk b2]; rfl) ⟨?_, n2⟩
  have h1 : zone * p ≤ 21 * 16 := Int.mul_le_mul (by omega) (by omega) (by omega) (by omega)
  have h2 : 0 ≤ zone * p := Int.mul_nonneg (by omega) (by omega)
  have e : ofF z p zone page = zone * p + page + 1 := if_pos hc
  rw [e, wr64 (n := zone * p) (by omega) (by omega), wr64 (n := zone * p + page) (by omega) (by omega), wr64 (by omega) (by omega), show IntKind.wrap .u32 (zone * p + page + 1) = zone * p + page + 1 by rw [wru32]; omega]
theorem rat_ok (z p : Nat) (B a : Int) (h : Heap) (hz : 11 ≤ z ∧ z ≤ 24) (hp : 4 ≤ p ∧ p ≤ 16) (ha : 0 ≤ a ∧ a < 4294967296) :
    CallsH Tryz.prog 54 [.agg #[.int .i64 (z : Int), .int .i64 (p : Int), .int .i64 (B : Int)], .int .u32 a] h fun v h' => (∃ i j, v = .tuple #[.int .i64 i, .int .i64 j, .bool (atF z p a).2.2] ∧ ((atF z p a).2.2 = true → i = (atF z p a).1 ∧ j = (atF z p a).2.1)) ∧ New h h' := by
  refine fun_ok hm' Tryz.func54 (by kernel_rfl) (F54_eq _ _ _ _ _ h) ?_
  unfold F54
  refine new_of fun h2 b2 n2 s2 => ?_
  have cl : ∀ {h' : Heap}, New h2 h' → ∀ (q : Nat) (v : Value), (#[.int .i64 (z : Int), .int .i64 (p : Int), .int .i64 (B : Int)] : Array Value)[q]? = some v → cellH h' (Addr.add ⟨h.size, 0, none⟩ q) = some v := fun n q v hv => by rw [add_mk, cellH_blk (b2.new n), Nat.zero_add]; exact hv
  have ez : IntKind.wrap .i64 ((z : Int) - 2) = ((z - 2 : Nat) : Int) := by rw [wr64 (by omega) (by omega)]; omega
  refine ⟨fun (s : Int) h' => ∃ i : Nat, s = i ∧ i ≤ z - 2 ∧ New h2 h' ∧ ∀ i' : Nat, i' < i → ∀ j : Nat, j < p → ofF z p (i' : Int) (j : Int) ≠ a, fun (s : Int) _ => (((z - 2 : Nat) : Int) - s).toNat, ⟨0, rfl, by omega, New.refl _, fun i' hi => by omega⟩, ?_⟩
  rintro s j0 h3 ⟨i, rfl, hi, n3, hno⟩
  refine ld_of (c := .int .i64) (z : Int) (cl n3 0 _ rfl) ?_
  rw [ez]
  refine br_of (fun hlt => ?_) (fun hlt => ?_)
  · have hlt : (i : Int) < ((z - 2 : Nat) : Int) := of_decide_eq_true hlt
    refine ⟨fun (s : Int) h' => ∃ j : Nat, s = j ∧ j ≤ p ∧ New h2 h' ∧ ∀ j' : Nat, j' < j → ofF z p (i : Int) (j' : Int) ≠ a, fun (s : Int) _ => ((p : Int) - s).toNat, ⟨0, rfl, by omega, n3, fun i' hi => by omega⟩, ?_⟩
    rintro s j1 h4 ⟨j, rfl, hj, n4, hnj⟩
    refine ld_of (c := .int .i64) (p : Int) (cl n4 1 _ rfl) (br_of (fun hlt2 => ?_) (fun hlt2 => ?_))
    · have hlt2 : (j : Int) < (p : Int) := of_decide_eq_true hlt2
      refine ⟨((z : Int), (p : Int), (B : Int)), ⟨cl n4 0 _ rfl, cl n4 1 _ rfl, cl n4 2 _ rfl, trivial⟩, call_of (rof_ok z p B (i : Int) (j : Int) h4 (by omega) (by omega)) ?_⟩
      rintro v h5 ⟨rfl, n5⟩
      refine ⟨ofF z p (i : Int) (j : Int), rfl, br_of (fun he => ⟨⟨(i : Int), (j : Int), ?_⟩, n2.trans (n4.trans n5)⟩) fun he => ?_⟩
      · have he : ofF z p (i : Int) (j : Int) = a := by simpa using he
        obtain ⟨e1, e2⟩ := Med.of_at (z := (z : Int)) (p := (p : Int)) (by omega) (zone := (i : Int)) (page := (j : Int)) ⟨by omega, by omega⟩
        rw [e1] at he
        rw [he] at e2
        rw [e2]
        exact ⟨rfl, fun _ => ⟨rfl, rfl⟩⟩
      · have he : ofF z p (i : Int) (j : Int) ≠ a := by simpa using he
        rw [wr64 (by omega) (by omega)]
        refine ⟨⟨j + 1, rfl, by omega, n4.trans n5, fun j' hj' => ?_⟩, (by first | omega | (dsimp only; omega) | (simp only []; omega))⟩
        by_cases e : j' = j
        · subst e; exact he
        · exact hnj j' (by omega)
    · have hlt2 : ¬ (j : Int) < (p : Int) := of_decide_eq_false hlt2
      rw [wr64 (by omega) (by omega)]
      refine ⟨⟨i + 1, rfl, by omega, n4, fun i' hi' j' hj' => ?_⟩, (by first | omega | (dsimp only; omega) | (simp only []; omega))⟩
      by_cases e : i' = i
      · subst e; exact hnj j' (by omega)
      · exact hno i' (by omega) j' hj'
  · have hlt : ¬ (i : Int) < ((z - 2 : Nat) : Int) := of_decide_eq_false hlt
    have : (atF z p a).2.2 = false := by
      cases hc : (atF z p a).2.2 with
      | false => rfl
      | true =>
        obtain ⟨f1, f2, f3⟩ := Med.at_of' (z := (z : Int)) (p := (p : Int)) (by omega) ha.1 hc
        obtain ⟨zn, hzn⟩ := Int.eq_ofNat_of_zero_le f1.1
        obtain ⟨q, hq⟩ := Int.eq_ofNat_of_zero_le f2.1
        rw [hzn] at f1 f3
        rw [hq] at f2 f3
        obtain ⟨e1, _⟩ := Med.of_at (z := (z : Int)) (p := (p : Int)) (by omega) (zone := (zn : Int)) (page := (q : Int)) ⟨f1, f2⟩
        exact (hno zn (by omega) q (by omega) (by rw [e1]; exact f3.symm)).elim
    exact ⟨⟨0, 0, by rw [this], fun e => by rw [this] at e; cases e⟩, n2.trans n3⟩

end Go.Proofs.YtgohecjnjadnpaaGreatDoor.R2
