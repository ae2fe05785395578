/-
  What LruRows comes to.
-/
import Derived.Test.YtfanjfbenhocnaaLruA
namespace Go.Proofs.Ytfanjfbenhocnaa.Lru
open Go.Pl Go.Pl.Lru Go.Proofs.Ytfanjfbenhocnaa.W
theorem vic_head (Ls : Nat → List Nat) : vicL Ls = (que Ls).head? := by
  cases h : que Ls with
  | nil => rw [vic_nil h]; rfl
  | cons x r => rw [vic_que h]; rfl
theorem filter_ne_len {l : List Nat} {x : Nat} (hn : l.Nodup) (hx : x ∈ l) : (l.filter fun y => y != x).length + 1 = l.length := by
  obtain ⟨a, b, rfl⟩ := List.append_of_mem hx
  rw [filter_mid hn]; simp; omega
theorem que_len (Ls : Nat → List Nat) : (que Ls).length = (Ls 0).length + (Ls 1).length := by simp [que]
theorem que_up1 (Ls : Nat → List Nat) (n : Nat) : que (upL Ls 1 (n :: Ls 1)) = que Ls ++ [n] := by simp [que, upL]
theorem que_up0 (Ls : Nat → List Nat) (n : Nat) : que (upL Ls 0 (n :: Ls 0)) = (Ls 0).reverse ++ n :: (Ls 1).reverse := by simp [que, upL]
theorem que_nd0 {Ls : Nat → List Nat} (h : (que Ls).Nodup) : (Ls 0).Nodup ∧ (Ls 1).Nodup := by
  unfold que at h
  rw [List.nodup_append] at h
  exact ⟨by have := nodup_rev h.1; rwa [List.reverse_reverse] at this, by have := nodup_rev h.2.1; rwa [List.reverse_reverse] at this⟩
theorem del_not (Ls : Nat → List Nat) (n : Nat) : n ∉ que (del Ls n) := by rw [que_del]; simp
theorem del_nd {Ls : Nat → List Nat} (h : (que Ls).Nodup) (n : Nat) : (que (del Ls n)).Nodup := by rw [que_del]; exact h.sublist List.filter_sublist
theorem del_len {Ls : Nat → List Nat} (h : (que Ls).Nodup) {n : Nat} (hn : n ∈ que Ls) : (que (del Ls n)).length + 1 = (que Ls).length := by rw [que_del]; exact filter_ne_len h hn
/-- Behind a touch. -/
theorem tou_facts {S n : Nat} {Ls : Nat → List Nat} (h : (que Ls).Nodup) (hn : n ∈ que Ls) (hk : (Ls 1).length ≤ S / 2) :
    (que (touL S Ls n)).length = (que Ls).length ∧ (touL S Ls n 1).length ≤ S / 2 ∧ (1 < (que Ls).length → 1 < S → vicL (touL S Ls n) ≠ some n) := by
  have hd := del_len h hn
  have hnd := del_nd h n
  have hnot := del_not Ls n
  generalize hL1 : upL (del Ls n) 1 (n :: del Ls n 1) = L1
  have hq1 : que L1 = que (del Ls n) ++ [n] := by rw [← hL1, que_up1]
  have hq1nd : (que L1).Nodup := by
    rw [hq1, List.nodup_append]
    exact ⟨hnd, by simp, fun a ha b hb e => by rw [List.mem_singleton] at hb; subst hb; exact hnot (e ▸ ha)⟩
  have hT : touL S Ls n = if S / 2 < (L1 1).length then upL (del L1 ((L1 1).getLastD 65)) 0 ((L1 1).getLastD 65 :: del L1 ((L1 1).getLastD 65) 0) else L1 := by rw [← hL1]; rfl
  have h11 : L1 1 = n :: del Ls n 1 := by rw [← hL1]; simp [upL]
  have h10 : L1 0 = del Ls n 0 := by rw [← hL1]; simp [upL]
  have hdl : (del Ls n 1).length ≤ (Ls 1).length := List.length_filter_le _ _
  have hl1 : (que L1).length = (que Ls).length := by rw [hq1, List.length_append, List.length_singleton]; omega
  rw [hT]
  by_cases hg : S / 2 < (L1 1).length
  · rw [if_pos hg]
    have hne : L1 1 ≠ [] := by rw [h11]; simp
    have hmem : (L1 1).getLastD 65 ∈ L1 1 := getLastD_mem hne
    have hzn : 1 < S → (L1 1).getLastD 65 ≠ n := by
      intro hS
      have h2 : 2 ≤ (L1 1).length := by omega
      have hne2 : del Ls n 1 ≠ [] := by intro e; rw [h11, e] at h2; simp at h2
      have : (L1 1).getLastD 65 ∈ del Ls n 1 := by
        rw [h11, List.getLastD_cons, getLastD_any hne2 (e := 65)]
        exact getLastD_mem hne2
      intro e
      rw [e] at this
      exact hnot (by simp [que, this])
    generalize (L1 1).getLastD 65 = z at hmem hzn ⊢
    have hzq : z ∈ que L1 := by simp [que, hmem]
    have hdz := del_len hq1nd hzq
    refine ⟨?_, ?_, fun _ hS => ?_⟩
    · rw [que_up0]
      have := que_len (del L1 z)
      simp at this ⊢; omega
    · have h1n := (que_nd0 hq1nd).2
      have := filter_ne_len h1n hmem
      have e : upL (del L1 z) 0 (z :: del L1 z 0) 1 = (L1 1).filter fun y => y != z := by simp [upL, del]
      rw [e]
      have : (L1 1).length ≤ S / 2 + 1 := by rw [h11, List.length_cons]; omega
      omega
    · rw [vic_head, que_up0]
      cases hc : (del L1 z 0).reverse with
      | nil => simp; exact hzn hS
      | cons y r =>
        simp
        intro e; subst e
        have : y ∈ del L1 z 0 := by rw [← List.mem_reverse, hc]; simp
        have : y ∈ L1 0 := (List.mem_filter.1 this).1
        rw [h10] at this
        exact hnot (by simp [que, this])
  · rw [if_neg hg]
    refine ⟨hl1, by omega, fun h2 _ => ?_⟩
    rw [vic_head, hq1]
    cases hc : que (del Ls n) with
    | nil => rw [hc] at hd; simp at hd; omega
    | cons y r =>
      simp
      intro e; subst e
      exact hnot (by rw [hc]; simp)
/-- What an act does. -/
def actL (S : Nat) (Ls : Nat → List Nat) (d s : Int) : Bool × (Nat → List Nat) :=
  if d = 0 then insL S Ls s
  else if d = 1 then (inI Ls s, if inI Ls s = true then touL S Ls s.toNat else Ls)
  else if d = 2 then (inI Ls s, if inI Ls s = true then del Ls s.toNat else Ls)
  else if d = 3 then (match vicL Ls with | some v => (true, del Ls v) | none => (false, Ls))
  else (false, Ls)
theorem do_ok (b : Nat) (d s : Int) (h : Heap) (S : Nat) (Ls : Nat → List Nat) (hx : RkOk h b S Ls) :
    CallsH Try.prog 18 [.pointer (some ⟨b, 0, none⟩), .agg #[.int .i64 d, .int .i64 s]] h fun v h' => v = .bool (actL S Ls d s).1 ∧ RkOk h' b S (actL S Ls d s).2 ∧ Upd b h h' := by
  refine fun_ok hm' Try.func18 (by kernel_rfl) (F18_eq _ _ _ _ h) ?_
  unfold F18
  refine new_of fun h1 b1 n1 s1 => ?_
  have hx1 := hx.new n1
  refine ld_of (c := .int .i64) d (by rw [add_mk, cellH_blk b1]; rfl) (br_of (fun e0 => ?_) fun e0 => br_of (fun e1 => ?_) fun e1 => br_of (fun e2 => ?_) fun e2 => br_of (fun e3 => ?_) fun e3 => ?_)
  all_goals simp only [beq_iff_eq, beq_eq_false_iff_ne, ne_eq] at *
  · subst e0
    refine ld_of (c := .int .i64) s (by rw [add_mk, cellH_blk b1]; rfl) (call_of (insert_ok b s h1 S Ls hx1) ?_)
    rintro v h2 ⟨rfl, x2, o2⟩
    exact ⟨(insL S Ls s).1, rfl, by simp [actL], by simpa [actL] using x2, n1.upd.trans o2.upd⟩
  · subst e1
    refine ld_of (c := .int .i64) s (by rw [add_mk, cellH_blk b1]; rfl) (call_of (touch_ok b s h1 S Ls hx1) ?_)
    rintro v h2 ⟨rfl, x2, o2⟩
    exact ⟨inI Ls s, rfl, by simp [actL], by simpa [actL] using x2, n1.upd.trans o2.upd⟩
  · subst e2
    refine ld_of (c := .int .i64) s (by rw [add_mk, cellH_blk b1]; rfl) (call_of (remove_ok b s h1 S Ls hx1) ?_)
    rintro v h2 ⟨rfl, x2, o2⟩
    exact ⟨inI Ls s, rfl, by simp [actL], by simpa [actL] using x2, n1.upd.trans o2.upd⟩
  · subst e3
    refine call_of (victim_ok b h1 S Ls hx1) ?_
    rintro v h' ⟨rfl, hh⟩
    subst h'
    cases hv : vicL Ls with
    | none => exact ⟨((0 : Int), false), rfl, br_f rfl ⟨by simp [actL, hv], by simpa [actL, hv] using hx1, n1.upd⟩⟩
    | some x =>
      refine ⟨((x : Int), true), rfl, br_t rfl (call_of (remove_ok b x h1 S Ls hx1) ?_)⟩
      rintro v h2 ⟨rfl, x2, o2⟩
      have hin : inI Ls (x : Int) = true := by
        have : x ∈ que Ls := by
          rw [vic_head] at hv
          cases hq : que Ls with
          | nil => rw [hq] at hv; cases hv
          | cons y r => rw [hq] at hv; injection hv with hv; simp [hv]
        have := mem_que.1 this
        simp [inI, this]
      rw [if_pos hin] at x2
      exact ⟨inI Ls x, rfl, by simp [actL, hv, hin], by simpa [actL, hv] using x2, n1.upd.trans o2.upd⟩
  · exact ⟨by simp [actL, e0, e1, e2, e3], by simpa [actL, e0, e1, e2, e3] using hx1, n1.upd⟩
/-- Behind an act. -/
theorem act_facts {S : Nat} {Ls : Nat → List Nat} {d s : Int} (h : (que Ls).Nodup) (hk : (Ls 1).length ≤ S / 2) :
    ((actL S Ls d s).2 1).length ≤ S / 2 ∧ ((que (actL S Ls d s).2).length : Int) = (que Ls).length + (if (actL S Ls d s).1 = true then (if d = 0 then 1 else if 1 < d then -1 else 0) else 0) ∧
    ((actL S Ls d s).1 = true → d = 1 → 1 < (que (actL S Ls d s).2).length → 1 < S → (vicL (actL S Ls d s).2).map (fun (x : Nat) => (x : Int)) ≠ some s) := by
  have hdel : ∀ n, ((del Ls n) 1).length ≤ S / 2 := fun n => Nat.le_trans (List.length_filter_le _ _) hk
  unfold actL
  by_cases e0 : d = 0
  · subst e0
    simp only [if_true]
    unfold insL
    split
    · refine ⟨by simpa [upL] using hk, ?_, fun _ h => by cases h⟩
      simp only [if_true, que_up0, que_len]; simp; omega
    · exact ⟨hk, by simp, fun h => by cases h⟩
  rw [if_neg e0]
  by_cases e1 : d = 1
  · subst e1
    simp only [if_true]
    cases hi : inI Ls s with
    | false => exact ⟨hk, by simp, fun h => by cases h⟩
    | true =>
      simp only [if_true]
      have hs : 0 ≤ s ∧ inL Ls s.toNat = true := by simpa [inI] using hi
      obtain ⟨f1, f2, f3⟩ := tou_facts h (mem_que.2 hs.2) hk
      refine ⟨f2, by rw [f1]; simp, fun _ _ hl hS => ?_⟩
      rw [f1] at hl
      have := f3 hl hS
      cases hv : vicL (touL S Ls s.toNat) with
      | none => simp
      | some x =>
        rw [hv] at this
        simp at this ⊢
        omega
  rw [if_neg e1]
  by_cases e2 : d = 2
  · subst e2
    simp only [if_true]
    cases hi : inI Ls s with
    | false => exact ⟨hk, by simp, fun h => by cases h⟩
    | true =>
      have hs : 0 ≤ s ∧ inL Ls s.toNat = true := by simpa [inI] using hi
      have := del_len h (mem_que.2 hs.2)
      exact ⟨hdel _, by simp; omega, fun _ h => by cases h⟩
  rw [if_neg e2]
  by_cases e3 : d = 3
  · subst e3
    simp only [if_true]
    cases hv : vicL Ls with
    | none => exact ⟨hk, by simp, fun h => by cases h⟩
    | some x =>
      have hx : x ∈ que Ls := by
        rw [vic_head] at hv
        cases hq : que Ls with
        | nil => rw [hq] at hv; cases hv
        | cons y r => rw [hq] at hv; injection hv with hv; simp [hv]
      have := del_len h hx
      exact ⟨hdel _, by simp; omega, fun _ h => by cases h⟩
  · rw [if_neg e3]; exact ⟨hk, by simp, fun h => by cases h⟩
/-- The acts that came in: each two cells. -/
def ActsAt (h : Heap) (l : Option Addr) (n : Nat) : Prop :=
  ∀ i, i < n → ∃ x, l = some x ∧ x.block < h.size ∧ ∃ d s : Int, cellH h (x.add (i * 2)) = some (.int .i64 d) ∧ cellH h ((x.add (i * 2)).add 1) = some (.int .i64 s)
theorem zero43 : zeroC Try.prog 43 = #[.int .i64 0, .int .i64 0] := by kernel_rfl
theorem zero4 : zeroC Try.prog 4 = #[.bool false] := by kernel_rfl
theorem size4 : sizeN Try.prog 4 = 1 := by kernel_rfl
theorem bytes4 : bytesN Try.prog 4 = 1 := by kernel_rfl
/-- A row of one's own, or none, is appended to another one. -/
theorem cat_ok {h h1 : Heap} {b S : Nat} {Ls : Nat → List Nat} {base base' n c m k : Nat} {a a' : Option Addr} {xs ys : List Int} (hAt : At h h1 b S Ls) (hb : b < base) (hbase : base ≤ h1.size) (ow : OwnH h1 base 3 1 a n c (vI xs)) (ow' : OwnH h1 base' 3 1 a' m k (vI ys)) (hn : n + m ≤ 300)
    {F : Option Addr → Nat → Nat → Heap → Prop}
    (hF : ∀ a'' c' h2, OwnH h2 base 3 1 a'' (n + m) c' (vI (xs ++ ys)) → At h h2 b S Ls → (∀ h0, New h0 h1 → h0.size ≤ base → New h0 h2) → h1.size ≤ h2.size → F a'' (n + m) c' h2) :
    apW Try.prog #[45, 45] #[.slice a n c, .slice a' m k] F h1 := by
  rcases ow'.row with ⟨hl, ⟨rfl, rfl, rfl⟩ | ⟨g, cur, rfl, _, hblk, _, _, ht⟩⟩
  · have : ys = [] := by cases ys with
      | nil => rfl
      | cons y ys => simp [vI] at hl
    subst this
    exact ap_none ap45 ow (hF a c h1 (by simpa using ow) hAt (fun _ n0 _ => n0) (Nat.le_refl _))
  · refine ap_own ap45 (by omega) ow (vI ys) hl ?_ (by simp [vI, Value.oneCell']) (by simp [maxLen]; omega) (by omega) hbase ?_
    · intro j u hu
      obtain ⟨g', hg', _, hc⟩ := ow'.cell hu
      injection hg' with hg'; injection hg' with hg'; subst hg'
      rw [add_mk, Nat.zero_add]; exact hc
    · intro a'' c' h2 o2 u2
      refine hF a'' c' h2 (by simpa [vI] using o2) (hAt.updO u2 fun g hg => ?_) (fun h0 n0 hs => updO_new u2 n0 fun g hg => ?_) u2.size
      · have := (OwnH.blk ow g hg).1; omega
      · have := (OwnH.blk ow g hg).1; omega
set_option maxHeartbeats 2000000 in
theorem rows_law (slots : Int) (l : Option Addr) (len cap : Nat) (h : Heap) (hl : ActsAt h l len) :
    CallsH Try.prog 4 [.int .i64 slots, .slice l len cap] h fun v h' => v = .bool true ∧ New h h' := by
  refine fun_ok hm' Try.func4 (by kernel_rfl) (F4_eq _ _ _ _ _ h) ?_
  unfold F4
  refine call_of (awake_ok h) ?_
  rintro v h1 ⟨rfl, hn1⟩
  refine ⟨true, rfl, br_f rfl ?_⟩
  by_cases hr : 1 ≤ slots ∧ slots ≤ 64
  rotate_left
  · refine call_of (new_no slots h1 (by omega)) ?_
    rintro v h2 ⟨rfl, hh⟩
    subst h2
    exact ⟨(none, .iface 82 (.int .i64 1)), rfl, cut_of (br_t rfl ⟨rfl, hn1⟩)⟩
  obtain ⟨S, rfl⟩ := Int.eq_ofNat_of_zero_le (show 0 ≤ slots by omega)
  refine call_of (new_ok S h1 (by omega) (by omega)) ?_
  rintro v h2 ⟨rfl, hx2, hn2⟩
  have a2 : At h h2 h1.size S _ := ⟨hx2, hn1.trans hn2, hn1.size⟩
  generalize hb : h1.size = b at a2
  refine ⟨(some ⟨b, 0, none⟩, .nilIface), rfl, cut_of (br_f rfl (br_f (by simp; omega) (br_of (fun _ => ⟨rfl, a2.new⟩) fun hlen _ => ?_)))⟩
  have hlen : len ≤ 200 := by simp at hlen; omega
  refine ⟨fun (s : Int × Int) h' => ∃ (Ls : Nat → List Nat) (i : Nat), s = (((que Ls).length : Int), (i : Int)) ∧ i ≤ len ∧ At h h' b S Ls ∧ (Ls 1).length ≤ S / 2,
    fun (s : Int × Int) _ => (len - s.2).toNat, ⟨fun _ => [], 0, rfl, by omega, a2, by simp⟩, ?_⟩
  rintro ⟨s0, s⟩ j h3 ⟨Ls, i, hs, hi, a3, hk⟩
  injection hs with hs1 hs2
  subst hs1; subst hs2
  simp only []
  refine br_of (fun hlt => ?_) (fun _ => ⟨by trivial, a3.new⟩)
  have hlt : i < len := by simp at hlt; omega
  obtain ⟨p, rfl, hpb, d, s, e1, e2⟩ := hl i hlt
  have hc : ∀ m, cellH h3 ((p.add (i * 2)).add m) = cellH h ((p.add (i * 2)).add m) := fun m => cellH_new a3.new (by rw [add_block, add_block]; exact hpb)
  refine ⟨⟨by omega, rfl⟩, ?_⟩
  simp only [Int.toNat_natCast]
  refine ⟨((d, s) : Int × Int), ⟨by rw [hc]; exact e1, by rw [hc]; exact e2, trivial⟩, ?_⟩
  rw [zero43]
  refine new_of fun h4 b4 n4 s4 => stL_blk b4 (by simp) fun h5 b5 o5 => ?_
  have n5 : New h3 h5 := o5.upd.new n4 (Nat.le_refl _)
  have a5 := a3.to n5
  have hbA := a3.ok.lt
  have hsz5 : h3.size < h5.size := by have := o5.size; omega
  generalize hA : h3.size = A at *
  have hbx : setsA #[Value.int .i64 0, .int .i64 0] 0 [.int .i64 d, .int .i64 s] = #[.int .i64 d, .int .i64 s] := rfl
  rw [hbx] at b5
  refine ⟨((d, s) : Int × Int), ⟨by rw [add_mk, cellH_blk b5]; rfl, by rw [add_mk, cellH_blk b5]; rfl, trivial⟩, ?_⟩
  refine call_of (do_ok b d s h5 S Ls a5.ok) ?_
  rintro v h6 ⟨rfl, x6, u6⟩
  have a6 : At h h6 b S (actL S Ls d s).2 := ⟨x6, u6.new a5.new a5.ge, a5.ge⟩
  have b6 := b5.upd u6 (show A ≠ b by omega)
  obtain ⟨f1, f2, f3⟩ := act_facts (d := d) (s := s) a5.ok.que.1 hk
  refine ⟨(actL S Ls d s).1, rfl, ?_⟩
  have hql := a5.ok.que.2
  generalize actL S Ls d s = act at *
  obtain ⟨is, L6⟩ := act
  simp only [] at *
  have hq6 := a6.ok.que
  have cell0 : ∀ {h' : Heap}, Blk h' A #[.int .i64 d, .int .i64 s] 43 → cellH h' ((⟨A, 0, none⟩ : Addr).add 0) = some (.int .i64 d) := fun hb => by rw [add_mk, cellH_blk hb]; rfl
  have cell1 : ∀ {h' : Heap}, Blk h' A #[.int .i64 d, .int .i64 s] 43 → cellH h' ((⟨A, 0, none⟩ : Addr).add 1) = some (.int .i64 s) := fun hb => by rw [add_mk, cellH_blk hb]; rfl
  refine cut_q (ts := [.sc (.int .i64)]) (fun (t : Int) h' => t = (que L6).length ∧ h' = h6) ?_ ?_
  rotate_left
  · intro K hK
    refine cut_q (ts := [.sc .bool]) (fun (t : Bool) h' => t = (is && decide (d = 0)) ∧ h' = h6) ?_ ?_
    · rintro t h' ⟨rfl, rfl⟩ j'
      refine br_of (fun ht => hK _ _ ⟨?_, rfl⟩) (fun ht => br_of (fun his => ld_of (c := .int .i64) d (cell0 b6) (br_of (fun h1 => hK _ _ ⟨?_, rfl⟩) (fun h1 => hK _ _ ⟨?_, rfl⟩))) (fun his => hK _ _ ⟨?_, rfl⟩))
      · simp at ht
        rw [wr64 (by omega) (by omega), f2, if_pos ht.1, if_pos ht.2]
      · rw [his] at ht f2; simp at ht h1
        rw [wr64 (by omega) (by omega), f2, if_pos rfl, if_neg ht, if_pos h1]; omega
      · rw [his] at ht f2; simp at ht h1
        rw [f2, if_pos rfl, if_neg ht, if_neg (by omega)]; omega
      · rw [his] at f2; rw [f2]; simp
    · intro K' hK'
      refine br_of (fun his => ld_of (c := .int .i64) d (cell0 b6) (hK' _ _ ⟨?_, rfl⟩)) (fun his => hK' _ _ ⟨?_, rfl⟩)
      · rw [his]; simp; exact Bool.eq_iff_iff.2 (by simp)
      · rw [his]; rfl
  rintro t h6' ⟨rfl, hh⟩ j'
  subst h6'
  -- the rows
  refine call_of (trial_ok b S L6 h6 a6.ok) ?_
  rintro v h7 ⟨at', ct, rfl, ot, n7⟩
  have a7 := a6.to n7
  refine ⟨(at', (L6 0).length, ct), rfl, call_of (kept_ok b S L6 h7 a7.ok) ?_⟩
  rintro v h8 ⟨ak, ck, rfl, ok', n8⟩
  have a8 := a7.to n8
  rw [ints_eq] at ot ok'
  have ot := OwnH.new ot n8
  refine ⟨(ak, (L6 1).length, ck), rfl, ?_⟩
  have hS2 : IntKind.wrap .i64 (Int.tdiv (S : Int) (2 : Int)) = ((S / 2 : Nat) : Int) := by
    rw [Int.tdiv_eq_ediv_of_nonneg (by omega), wr64 (by omega) (by omega)]; omega
  have hqlen := que_len L6
  have hq64 := hq6.2
  simp only []
  refine cut_of (br_f (by rw [hS2]; simp; omega) (br_f (by rw [wr64 (by omega) (by omega)]; simp; omega) fun _ => ?_))
  refine mk_of size4 zero4 (by rw [bytes4]; omega) (by omega) fun h9 b9 n9 s9 => ?_
  have a9 := a8.to n9
  refine new_of fun h10 b10 n10 s10 => ?_
  have a10 := a9.to n10
  have ot := OwnH.new (OwnH.new ot n9) n10
  have ok9 := OwnH.new ok' n9
  have hb9 : b < h9.size := a9.ok.lt
  refine cat_ok a10 hb9 (by omega) (empty_own b10) ot (by omega) ?_
  intro a11 c11 h11 o11 At11 nn11 s11
  have n911 := nn11 h9 n10 (Nat.le_refl _)
  have ok11 := OwnH.new ok9 n911
  rw [List.nil_append] at o11
  refine cat_ok At11 hb9 (by omega) o11 ok11 (by omega) ?_
  intro a12 c12 h12 o12 At12 nn12 s12
  have n912 := nn12 h9 n911 (Nat.le_refl _)
  have n612 : New h6 h12 := ((n7.trans n8).trans n9).trans n912
  have b12 := b9.new n912
  have hAlt := b6.lt
  have hszs : h6.size ≤ h8.size := Nat.le_trans n7.size n8.size
  generalize hB : h8.size = B at *
  have hbb : b < B := by have := a8.ok.lt; omega
  have hxs : ∀ {x : Nat}, x ∈ L6 0 ++ L6 1 ↔ x ∈ que L6 := by intro x; simp [que]
  have hsm : ∀ {x : Nat}, x ∈ que L6 → x < S := by
    intro x hx
    obtain ⟨_, _, _, _, _, hrk, _⟩ := a6.ok
    exact hrk.in_small (mem_que.1 hx)
  have hnd : (L6 0 ++ L6 1).Nodup := by
    have h0 := que_nd0 hq6.1
    rw [List.nodup_append]
    refine ⟨h0.1, h0.2, fun x hx y hy e => ?_⟩
    subst e
    have := hq6.1
    unfold que at this
    rw [List.nodup_append] at this
    exact this.2.2 x (List.mem_reverse.2 hx) x (List.mem_reverse.2 hy) rfl
  have ev : nI (L6 0) ++ nI (L6 1) = nI (L6 0 ++ L6 1) := by simp [nI]
  rw [ev] at o12
  have hnl : 0 + (L6 0).length + (L6 1).length = (L6 0 ++ L6 1).length := by simp
  rw [hnl] at o12 ⊢
  have hvic : vicL L6 = (que L6).head? := vic_head L6
  generalize hX : L6 0 ++ L6 1 = X at *
  refine ⟨fun (s : Int) h' => ∃ (dn rest : List Nat) (arr : Array Value), X = dn ++ rest ∧ s = dn.length ∧ At h h' b S L6 ∧ New h6 h' ∧ OwnH h' h9.size 3 1 a12 X.length c12 (vI (nI X)) ∧ Blk h' B arr 4 ∧ arr.size = S ∧ ∀ i, i < S → arr[i]? = some (.bool (decide (i ∈ dn))),
    fun (s : Int) _ => (X.length - s).toNat, ⟨[], X, _, rfl, rfl, At12, n612, o12, b12, by simp, fun i hi => by simp [hi]⟩, ?_⟩
  rintro s13 j13 h13 ⟨dn, rest, arr, hX1, rfl, a13, n13, o13, b13, hsz13, harr⟩
  have b13x : Blk h13 A #[.int .i64 d, .int .i64 s] 43 := b6.new n13
  have hnx : X.length ≤ 64 := by omega
  refine br_of (fun hlt => ?_) (fun hlt => ?_)
  · cases rest with
    | nil => simp [hX1] at hlt
    | cons x post =>
      have hxq : x ∈ que L6 := hxs.1 (by rw [hX1]; simp)
      have hxS := hsm hxq
      have hgx : (nI X)[dn.length]? = some (x : Int) := by rw [hX1]; simp [nI]
      obtain ⟨q, rfl, hq⟩ := own_at o13 dn.length _ hgx
      have hxd : x ∉ dn := fun hh => by rw [hX1, List.nodup_append] at hnd; exact hnd.2.2 x hh x (by simp) rfl
      have hll : dn.length < X.length := by rw [hX1]; simp
      refine ⟨⟨by omega, rfl⟩, ?_⟩
      simp only [Int.toNat_natCast, Nat.mul_one]
      refine ld_of (c := .int .i64) (x : Int) hq (cut_of (br_f (by simp) (br_f (by simp; omega) ⟨⟨by omega, rfl⟩, ?_⟩)))
      simp only [Int.toNat_natCast, add_mk, Nat.zero_add]
      refine ld_of (c := .bool) false (by rw [cellH_blk b13, harr x hxS]; simp [hxd]; rfl) (br_f rfl fun _ => ⟨⟨by omega, rfl⟩, ?_⟩)
      rw [add_mk, Nat.zero_add]
      refine st_blk (o := x) b13 (by omega) fun h14 b14 o14 => ?_
      rw [wr64 (by omega) (by omega)]
      refine ⟨⟨dn ++ [x], post, _, by rw [hX1]; simp, by simp, ?_, o14.upd.new n13 (by omega), OwnH.only o13 o14 (by omega), b14, by simp [hsz13], fun i hi => ?_⟩, by omega⟩
      · exact ⟨a13.ok.only o14 (by omega), o14.upd.new a13.new (by have := a13.ge; omega), a13.ge⟩
      · by_cases e : i = x
        · subst e; rw [Array.getElem?_setIfInBounds_self_of_lt (by omega)]; simp
        · rw [Array.getElem?_setIfInBounds_ne (fun h => e h.symm), harr i hi]; simp [e]
  · have hdn : X = dn := by
      have h1 : ¬ (dn.length < X.length) := by simpa using hlt
      have h2 : X.length = dn.length + rest.length := by rw [hX1, List.length_append]
      have h3 : rest = [] := List.eq_nil_of_length_eq_zero (by omega)
      rw [hX1, h3, List.append_nil]
    subst hdn
    refine call_of (victim_ok b h13 S L6 a13.ok) ?_
    rintro v h' ⟨rfl, hh⟩
    subst h'
    -- the end of a round
    have fin : ((∃ (Ls : Nat → List Nat) (i' : Nat), (((que L6).length : Int), IntKind.wrap .i64 ((i : Int) + (1 : Int))) = (((que Ls).length : Int), (i' : Int)) ∧ i' ≤ len ∧ At h h13 b S Ls ∧ (Ls 1).length ≤ S / 2) ∧
        ((len : Int) - IntKind.wrap .i64 ((i : Int) + (1 : Int))).toNat < ((len : Int) - (i : Int)).toNat) := by
      rw [wr64 (by omega) (by omega)]
      exact ⟨⟨L6, i + 1, rfl, by omega, a13, f1⟩, by omega⟩
    rw [hvic]
    have hvic' : vicL L6 = (que L6).head? := hvic
    cases hqq : que L6 with
    | nil =>
      rw [hqq] at fin
      refine ⟨((0 : Int), false), rfl, br_f (by simp) (br_f rfl (br_of (fun his => ?_) (fun _ => ?_)))⟩
      · refine ld_of (c := .int .i64) d (cell0 b13x) (br_of (fun _ => ld_of (c := .int .i64) s (cell1 b13x) (br_of (fun _ => br_f (by simp) ?_) (fun _ => ?_))) (fun _ => ?_)) <;> exact fin
      · exact fin
    | cons x r =>
      rw [hqq] at fin
      have hxq : x ∈ que L6 := by rw [hqq]; simp
      have hxS := hsm hxq
      refine ⟨((x : Int), true), rfl, br_f (by simp) (br_t rfl ⟨⟨by omega, rfl⟩, ?_⟩)⟩
      simp only [Int.toNat_natCast, add_mk, Nat.zero_add, Nat.mul_one]
      refine ld_of (c := .bool) true (by rw [cellH_blk b13, harr x hxS]; simp [hxs.2 hxq]; rfl) (br_f rfl (br_of (fun his => ?_) (fun _ => fin)))
      refine ld_of (c := .int .i64) d (cell0 b13x) (br_of (fun hd => ld_of (c := .int .i64) s (cell1 b13x) (br_of (fun hxs' => br_of (fun h1 => br_of (fun h2 => ?_) (fun _ => fin)) (fun _ => fin)) (fun _ => fin))) (fun _ => fin))
      have h3 := f3 his (by simpa using hd) (by rw [hqq]; simp at h1 ⊢; omega) (by simp at h2; omega)
      rw [hvic', hqq] at h3
      simp at h3 hxs'
      exact absurd hxs' h3
end Go.Proofs.Ytfanjfbenhocnaa.Lru
