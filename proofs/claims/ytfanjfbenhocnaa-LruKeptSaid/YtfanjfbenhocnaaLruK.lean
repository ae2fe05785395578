/-
  What LruKept comes to.
-/
import Derived.Test.YtfanjfbenhocnaaLruR
namespace Go.Proofs.Ytfanjfbenhocnaa.Lru
open Go.Pl Go.Pl.Lru Go.Proofs.Ytfanjfbenhocnaa.W
/-- All slots stand there. -/
theorem all_in {S : Nat} {l : List Nat} (hn : l.Nodup) (hs : ∀ x ∈ l, x < S) (hl : l.length = S) {n : Nat} (h : n < S) : n ∈ l := by
  refine Classical.byContradiction fun hh => ?_
  have := nodup_le S (n :: l) (List.nodup_cons.2 ⟨hh, hn⟩) fun x hx => by
    rcases List.mem_cons.1 hx with rfl | hx
    · exact h
    · exact hs x hx
  simp at this; omega
theorem At.all {h h' : Heap} {b S : Nat} {Ls : Nat → List Nat} (a : At h h' b S Ls) (hl : (que Ls).length = S) (x : Int) : inI Ls x = (decide (0 ≤ x) && decide (x < S)) := by
  obtain ⟨_, _, _, _, _, hrk, _⟩ := a.ok
  by_cases h0 : 0 ≤ x
  · obtain ⟨n, rfl⟩ := Int.eq_ofNat_of_zero_le h0
    simp only [inI, Int.toNat_natCast, h0, decide_true, Bool.true_and]
    by_cases hS : n < S
    · rw [mem_que.1 (all_in hrk.que (fun x hx => hrk.in_small (mem_que.1 hx)) hl hS)]; simp [hS]
    · cases hi : inL Ls n with
      | false => simp [hS]
      | true => exact absurd (hrk.in_small hi) hS
  · simp [inI, h0]
theorem filter_last {l : List Nat} {z : Nat} (hn : l.Nodup) (hne : l ≠ []) (hz : l.getLastD 65 = z) : (l.filter fun y => y != z) = l.dropLast := by
  obtain ⟨a, y, rfl⟩ : ∃ a y, l = a ++ [y] := ⟨l.dropLast, l.getLast hne, (List.dropLast_concat_getLast hne).symm⟩
  have : z = y := by rw [← hz]; simp
  subst this
  rw [filter_mid (l2 := []) hn, List.dropLast_concat, List.append_nil]
/-- The kept ones behind a touch. -/
theorem tou_kept {S n : Nat} {Ls : Nat → List Nat} (h : (que Ls).Nodup) (hk : (Ls 1).length ≤ S / 2) : touL S Ls n 1 = (n :: (Ls 1).filter fun y => y != n).take (S / 2) := by
  have hnd := del_nd h n
  have hnot := del_not Ls n
  generalize hL1 : upL (del Ls n) 1 (n :: del Ls n 1) = L1
  have hq1 : que L1 = que (del Ls n) ++ [n] := by rw [← hL1, que_up1]
  have hq1nd : (que L1).Nodup := by
    rw [hq1, List.nodup_append]
    exact ⟨hnd, by simp, fun a ha b hb e => by rw [List.mem_singleton] at hb; subst hb; exact hnot (e ▸ ha)⟩
  have hT : touL S Ls n = if S / 2 < (L1 1).length then upL (del L1 ((L1 1).getLastD 65)) 0 ((L1 1).getLastD 65 :: del L1 ((L1 1).getLastD 65) 0) else L1 := by rw [← hL1]; rfl
  have h11 : L1 1 = n :: (Ls 1).filter fun y => y != n := by rw [← hL1]; simp [upL, del]
  have hdl : ((Ls 1).filter fun y => y != n).length ≤ (Ls 1).length := List.length_filter_le _ _
  rw [hT]
  by_cases hg : S / 2 < (L1 1).length
  · rw [if_pos hg]
    have hne : L1 1 ≠ [] := by rw [h11]; simp
    have e : upL (del L1 ((L1 1).getLastD 65)) 0 ((L1 1).getLastD 65 :: del L1 ((L1 1).getLastD 65) 0) 1 = (L1 1).filter fun y => y != (L1 1).getLastD 65 := by simp [upL, del]
    rw [e, filter_last (que_nd0 hq1nd).2 hne rfl, ← h11, List.dropLast_eq_take]
    have : (L1 1).length - 1 = S / 2 := by rw [h11] at hg ⊢; simp at hg ⊢; omega
    rw [this]
  · rw [if_neg hg, h11, List.take_of_length_le (by rw [← h11]; omega)]
theorem lit_own {h1 h2 : Heap} {x : Int} (b2 : Blk h2 h1.size #[.int .i64 x] 3) : OwnH h2 h1.size 3 1 (some ⟨h1.size, 0, none⟩) 1 1 (vI [x]) :=
  ⟨by simp [vI], .inr ⟨h1.size, 1, #[.int .i64 x], rfl, Nat.le_refl _, b2, Nat.le_refl _, by simp [maxLen], rfl, rfl⟩⟩
/-- A beginning of a row of one's own. -/
theorem take_own {h : Heap} {base n c m : Nat} {a : Option Addr} {xs : List Int} (o : OwnH h base 3 1 a n c (vI xs)) (hm : m ≤ n) (hn : 0 < n) : OwnH h base 3 1 a m c (vI (xs.take m)) := by
  have hl := own_len o
  refine ⟨by simp [vI]; omega, ?_⟩
  rcases o.2 with ⟨h1, h2⟩ | ⟨g, cap, cur, h1, h2, h3, h4, h5, h6, h7⟩
  · omega
  · injection h1 with h1 _ hc
    subst hc
    refine .inr ⟨g, c, cur, by rw [h1], h2, h3, by omega, h5, h6, ?_⟩
    have : cur.toList.take (m * 1) = (cur.toList.take (n * 1)).take m := by rw [List.take_take, Nat.mul_one, Nat.mul_one, Nat.min_eq_left hm]
    rw [this, h7, vI, vI, List.map_take]
theorem OwnH.lower {h : Heap} {base base' n c size : Nat} {e : TypeId} {a : Option Addr} {xs : List Value} (o : OwnH h base e size a n c xs) (hb : base' ≤ base) : OwnH h base' e size a n c xs := by
  refine ⟨o.1, ?_⟩
  rcases o.2 with h1 | ⟨g, cap, cur, h1, h2, r⟩
  · exact .inl h1
  · exact .inr ⟨g, cap, cur, h1, by omega, r⟩
set_option maxHeartbeats 2000000 in
theorem kept_law (slots : Int) (l : Option Addr) (len cap : Nat) (h : Heap) (hl : IntsAt h l len) :
    CallsH Try.prog 6 [.int .i64 slots, .slice l len cap] h fun v h' => v = .bool true ∧ New h h' := by
  refine fun_ok hm' Try.func6 (by kernel_rfl) (F6_eq _ _ _ _ _ h) ?_
  unfold F6
  refine call_of (awake_ok h) ?_
  rintro v h1 ⟨rfl, hn1⟩
  refine ⟨true, rfl, br_f rfl ?_⟩
  by_cases hr : 1 ≤ slots ∧ slots ≤ 64
  rotate_left
  · refine call_of (new_no slots h1 (by omega)) ?_
    rintro v h2 ⟨rfl, hh⟩
    subst h2
    exact ⟨(none, .iface 82 (.int .i64 1)), rfl, cut_of (br_t rfl ⟨rfl, hn1⟩)⟩
  obtain ⟨S, rfl⟩ := Int.eq_ofNat_of_zero_le (show 0 ≤ slots by omega)
  refine call_of (new_ok S h1 (by omega) (by omega)) ?_
  rintro v h2 ⟨rfl, hx2, hn2⟩
  have a2 : At h h2 h1.size S _ := ⟨hx2, hn1.trans hn2, hn1.size⟩
  generalize hb : h1.size = b at a2
  refine ⟨(some ⟨b, 0, none⟩, .nilIface), rfl, cut_of (br_f rfl (br_of (fun _ => ⟨rfl, a2.new⟩) fun hlen _ => ?_))⟩
  have hlen : len ≤ 200 := by simp at hlen; omega
  have hS2 : IntKind.wrap .i64 (Int.tdiv (S : Int) (2 : Int)) = ((S / 2 : Nat) : Int) := by
    rw [Int.tdiv_eq_ediv_of_nonneg (by omega), wr64 (by omega) (by omega)]; omega
  refine ⟨fun (s : Int) h' => ∃ (Ls : Nat → List Nat) (i : Nat), s = i ∧ i ≤ S ∧ At h h' b S Ls ∧ Ls 1 = [] ∧ (Ls 0).length = i ∧ ∀ x ∈ Ls 0, x < i,
    fun (s : Int) _ => (S - s).toNat, ⟨fun _ => [], 0, rfl, by omega, a2, rfl, rfl, by simp⟩, ?_⟩
  rintro s j h3 ⟨Ls, i, rfl, hi, a3, h31, h30, h3x⟩
  refine br_of (fun hlt => ?_) (fun hlt => ?_)
  · have hlt : i < S := by simp at hlt; omega
    have hni : inI Ls (i : Int) = false := by
      cases hh : inI Ls (i : Int) with
      | false => rfl
      | true =>
        simp [inI, inL, h31] at hh
        have := h3x i hh; omega
    have e : insL S Ls i = (true, upL Ls 0 (i :: Ls 0)) := if_pos ⟨by omega, by omega, hni⟩
    refine call_of (insert_ok b i h3 S Ls a3.ok) ?_
    rintro v h4 ⟨rfl, x4, o4⟩
    rw [e] at x4 ⊢
    refine ⟨true, rfl, br_f rfl ?_⟩
    rw [wr64 (by omega) (by omega)]
    refine ⟨⟨_, i + 1, by omega, by omega, a3.only o4 x4, by simp [upL, h31], by simp [upL, h30], fun x hx => ?_⟩, by dsimp only; omega⟩
    simp only [upL, if_true, List.mem_cons] at hx
    rcases hx with rfl | hx
    · omega
    · have := h3x x hx; omega
  have hi : i = S := by simp at hlt; omega
  subst hi
  have hb3 : b < h3.size := a3.ok.lt
  refine ⟨fun (s : (Option Addr × Nat × Nat) × Int) h' => ∃ (Ls : Nat → List Nat) (k : Nat), s.2 = k ∧ k ≤ len ∧ At h h' b i Ls ∧ (que Ls).length = i ∧ (Ls 1).length ≤ i / 2 ∧ OwnH h' h3.size 3 1 s.1.1 s.1.2.1 s.1.2.2 (vI (nI (Ls 1))) ∧ h3.size ≤ h'.size,
    fun (s : (Option Addr × Nat × Nat) × Int) _ => (len - s.2).toNat, ⟨Ls, 0, rfl, by omega, a3, by rw [que_len, h31]; simp; exact h30, by simp [h31], by rw [h31]; exact OwnH.nil _ _ _ _, Nat.le_refl _⟩, ?_⟩
  clear h31 h30 h3x hlt a3
  rintro ⟨⟨a, n, c⟩, s⟩ j4 h4 ⟨L4, k, hs, hk, a4, hq4, hk4, o4, hsz4⟩
  simp only [] at hs o4 ⊢
  subst hs
  have hn4 := own_len o4
  have hn4' : n = (L4 1).length := by rw [hn4]; simp [nI]
  refine br_of (fun hlt => ?_) (fun hlt => ?_)
  · have hlt : k < len := by simp at hlt; omega
    obtain ⟨p, rfl, hpb, d, hd⟩ := hl k hlt
    have ew : IntKind.wrap .i64 ((k : Int) + (1 : Int)) = ((k + 1 : Nat) : Int) := by rw [wr64 (by omega) (by omega)]; rfl
    rw [ew]
    refine ⟨⟨by omega, rfl⟩, ?_⟩
    simp only [Int.toNat_natCast]
    refine ld_of (c := .int .i64) d (by rw [cellH_new a4.new (by rw [add_block]; exact hpb)]; exact hd) ?_
    have hall := a4.all hq4 d
    refine cut_q (ts := []) (fun _ h' => At h h' b i (if inI L4 d = true then touL i L4 d.toNat else L4) ∧ OwnH h' h3.size 3 1 a n c (vI (nI (L4 1))) ∧ h3.size ≤ h'.size) ?_ ?_
    rotate_left
    · intro K hK
      refine call_of (touch_ok b d h4 i L4 a4.ok) ?_
      rintro v h5 ⟨rfl, x5, o5⟩
      have q5 : At h h5 b i (if inI L4 d = true then touL i L4 d.toNat else L4) ∧ OwnH h5 h3.size 3 1 a n c (vI (nI (L4 1))) ∧ h3.size ≤ h5.size := ⟨a4.only o5 x5, OwnH.only o4 o5 hb3, by have := o5.size; omega⟩
      refine ⟨inI L4 d, rfl, br_of (fun h0 => br_f ?_ (hK _ _ q5)) (fun h0 => br_f ?_ (hK _ _ q5))⟩
      · rw [hall]; simp at h0; simp [h0]
      · rw [hall]; simp at h0; simp; omega
    rintro _ h5 ⟨a5, o5, hsz5⟩ j5
    refine cut_of (br_of (fun h0 => ?_) fun h0 => br_of (fun h1 => ?_) fun h1 _ => ?_)
    · have : inI L4 d = false := by rw [hall]; simp at h0; simp; omega
      rw [this] at a5
      exact ⟨⟨L4, k + 1, rfl, by omega, a5, hq4, hk4, o5, hsz5⟩, by omega⟩
    · have : inI L4 d = false := by rw [hall]; simp at h1; simp; omega
      rw [this] at a5
      exact ⟨⟨L4, k + 1, rfl, by omega, a5, hq4, hk4, o5, hsz5⟩, by omega⟩
    have hin : inI L4 d = true := by rw [hall]; simp at h0 h1; simp; omega
    rw [if_pos hin] at a5
    have hd0 : 0 ≤ d := by simp at h0; exact h0
    obtain ⟨m, rfl⟩ := Int.eq_ofNat_of_zero_le hd0
    simp only [Int.toNat_natCast] at a5
    have hmq : m ∈ que L4 := mem_que.2 (by simpa [inI] using hin)
    obtain ⟨f1, f2, _⟩ := tou_facts a4.ok.que.1 hmq hk4
    have f3 := tou_kept (n := m) a4.ok.que.1 hk4
    have hb5 : b < h5.size := by omega
    have hkl : (L4 1).length ≤ 64 := by omega
    refine new_of fun h6 b6 n6 s6 => ?_
    refine ⟨fun (s : (Option Addr × Nat × Nat) × Int) h' => ∃ (q : Nat), s.2 = q ∧ q ≤ n ∧ At h h' b i (touL i L4 m) ∧ New h5 h' ∧ h5.size ≤ h'.size ∧ OwnH h' h5.size 3 1 s.1.1 s.1.2.1 s.1.2.2 (vI ((m : Int) :: ((nI (L4 1)).take q).filter fun y => y != (m : Int))),
      fun (s : (Option Addr × Nat × Nat) × Int) _ => (n - s.2).toNat, ⟨0, rfl, by omega, a5.to n6, n6, n6.size, lit_own b6⟩, ?_⟩
    rintro ⟨⟨a', n', c'⟩, s⟩ j7 h7 ⟨q, hs, hq, a7, n7, hsz7, o7⟩
    simp only [] at hs o7 ⊢
    subst hs
    have hn7 := own_len o7
    have hfl : (((nI (L4 1)).take q).filter fun y => y != (m : Int)).length ≤ n := Nat.le_trans (List.length_filter_le _ _) (by rw [List.length_take]; omega)
    have hn7' : n' ≤ n + 1 := by rw [hn7, List.length_cons]; omega
    refine br_of (fun hlt => ?_) (fun hlt => ?_)
    · have hlt : q < n := by simp at hlt; omega
      have hgx : (nI (L4 1))[q]? = some ((nI (L4 1))[q]'(by omega)) := List.getElem?_eq_getElem _
      generalize (nI (L4 1))[q]'(by omega) = y at hgx
      obtain ⟨p', rfl, hp⟩ := own_at o5 q _ hgx
      have hpb' : p'.block < h5.size := (OwnH.blk o5 p'.block rfl).2
      refine ⟨⟨by omega, rfl⟩, ?_⟩
      simp only [Int.toNat_natCast, Nat.mul_one]
      refine ld_of (c := .int .i64) y (by rw [cellH_new n7 (by rw [add_block]; exact hpb')]; exact hp) ?_
      have ew : IntKind.wrap .i64 ((q : Int) + (1 : Int)) = ((q + 1 : Nat) : Int) := by rw [wr64 (by omega) (by omega)]; rfl
      have etake : (nI (L4 1)).take (q + 1) = (nI (L4 1)).take q ++ [y] := by rw [List.take_add_one, hgx]; rfl
      rw [ew]
      refine br_of (fun hne => ?_) (fun hne => ?_)
      · refine push_ok a7 hb5 hsz7 o7 (by omega) ?_
        intro a'' c'' h8 o8 a8 nn8 hs8
        refine ⟨⟨q + 1, rfl, by omega, a8, nn8 h5 n7 (Nat.le_refl _), hs8, ?_⟩, by omega⟩
        rw [etake, List.filter_append, List.filter_cons_of_pos (by exact hne)]
        exact o8
      · refine ⟨⟨q + 1, rfl, by omega, a7, n7, hsz7, ?_⟩, by omega⟩
        rw [etake, List.filter_append, List.filter_cons_of_neg (by rw [hne]; simp), List.filter_nil, List.append_nil]
        exact o7
    · have hq' : q = n := by simp at hlt; omega
      subst hq'
      have enow : (m : Int) :: ((nI (L4 1)).take q).filter (fun y => y != (m : Int)) = nI (m :: (L4 1).filter fun y => y != m) := by
        rw [hn4, List.take_length]
        simp only [nI, List.map_cons, List.filter_map]
        congr 2
        apply List.filter_congr
        intro x _
        exact Bool.eq_iff_iff.2 (by simp; omega)
      rw [enow] at o7 hn7
      have hnow : (nI (m :: (L4 1).filter fun y => y != m)).length = ((L4 1).filter fun y => y != m).length + 1 := by simp [nI]
      have hmm : mm2 false ((n' : Nat) : Int) (mm2 true (IntKind.wrap .i64 (Int.tdiv (i : Int) (2 : Int))) (0 : Int)) = ((min n' (i / 2) : Nat) : Int) := by
        rw [hS2]
        have e1 : mm2 true (((i / 2 : Nat) : Int)) 0 = ((i / 2 : Nat) : Int) := by simp [mm2]; omega
        rw [e1]
        simp only [mm2]; split <;> omega
      rw [hmm]
      have hcc : n' ≤ c' := by
        rcases o7.row.2 with ⟨_, h2, h3⟩ | ⟨_, _, _, _, _, h4, _⟩
        · omega
        · exact h4
      refine ⟨⟨by omega, by omega, by omega, by omega⟩, ?_⟩
      have eb : sliceBase a' (0 : Int).toNat (((c' : Nat) : Int)).toNat 1 = a' := by
        unfold sliceBase; split
        · rfl
        · cases a' <;> rfl
      rw [eb]
      have e3 : (((min n' (i / 2) : Nat) : Int)).toNat - (0 : Int).toNat = min n' (i / 2) := by simp
      have e4 : (((c' : Nat) : Int)).toNat - (0 : Int).toNat = c' := by simp
      rw [e3, e4]
      have o8 := take_own o7 (m := min n' (i / 2)) (by omega) (by omega)
      refine ⟨⟨touL i L4 m, k + 1, rfl, by omega, a7, by rw [f1]; exact hq4, f2, ?_, by omega⟩, by omega⟩
      rw [f3]
      have e5 : nI ((m :: (L4 1).filter fun y => y != m).take (i / 2)) = (nI (m :: (L4 1).filter fun y => y != m)).take (min n' (i / 2)) := by
        rw [hn7, nI, List.map_take, ← nI, List.take_eq_take_min, Nat.min_comm]
      rw [e5]
      exact OwnH.lower o8 hsz5
  · refine call_of (kept_ok b i L4 h4 a4.ok) ?_
    rintro v h5 ⟨ak, ck, rfl, ok', n5⟩
    have a5 := a4.to n5
    rw [ints_eq] at ok'
    refine ⟨(ak, (L4 1).length, ck), rfl, call_of (same_ok _ _ (L4 1).length n _ _ h5 (nI (L4 1)) (nI (L4 1)) (by simp [nI]) (by rw [hn4']; simp [nI]) (by omega) (own_at ok') (own_at (OwnH.new o4 n5))) ?_⟩
    rintro v h' ⟨rfl, hh⟩
    subst h'
    refine ⟨_, rfl, br_t (by simp) (call_of (trial_ok b i L4 h5 a5.ok) ?_)⟩
    rintro v h6 ⟨at', ct, rfl, _, n6⟩
    have hql := que_len L4
    refine ⟨(at', (L4 0).length, ct), rfl, ?_, (a5.to n6).new⟩
    simp only []
    rw [wr64 (by omega) (by omega)]
    congr 1
    simp; omega
end Go.Proofs.Ytfanjfbenhocnaa.Lru
