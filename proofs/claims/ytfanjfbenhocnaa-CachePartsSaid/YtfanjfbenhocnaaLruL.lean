/-
  The contracts of package lru that go through a row: all, list, Trial, Kept; and New.
-/
import Derived.Test.YtfanjfbenhocnaaLruW
import Derived.Test.YtfanjfbenhocnaaApp
namespace Go.Proofs.Ytfanjfbenhocnaa.Lru
open Go.Pl Go.Pl.Lru Go.Proofs.Ytfanjfbenhocnaa.W
theorem yield_of {P : Program} {T : Ty} {l : Nat} {args : List Value} {F : T.T → Heap → Prop} {h : Heap} {R : Bool → Heap → Prop} (hY : YieldH P l args h R) (hR : ∀ b h', R b h' → ∃ s : T.T, Value.bool b = T.val s ∧ F s h') : callW P T (.func (.yield l) #[] #[]) args F h := YieldH.mono hY hR
theorem dropWhile_mid {l1 l2 : List Nat} {x : Nat} (h : x ∉ l1) : (l1 ++ x :: l2).dropWhile (fun y => y != x) = x :: l2 := by
  induction l1 with
  | nil => simp
  | cons a l ih =>
    have ha : a ≠ x := fun e => h (by simp [e])
    rw [List.cons_append, List.dropWhile_cons_of_pos (by simpa using ha)]
    exact ih fun hh => h (List.mem_cons_of_mem _ hh)
theorem dropWhile_none {l : List Nat} {x : Nat} (h : x ∉ l) : l.dropWhile (fun y => y != x) = [] := by
  induction l with
  | nil => rfl
  | cons a l ih =>
    have ha : a ≠ x := fun e => h (by simp [e])
    rw [List.dropWhile_cons_of_pos (by simpa using ha)]
    exact ih fun hh => h (List.mem_cons_of_mem _ hh)
/-- The row is gone through, one by one: J tells what holds when 'pre' has come. -/
theorem all1_ok (l b S r ca cb : Nat) (Ls : Nat → List Nat) (h : Heap) (J : List Nat → Heap → Prop) (hr : r < 2) (h0 : J [] h)
    (hJ : ∀ (pre : List Nat) (h' : Heap), J pre h' → RkOk h' b S Ls ∧ cellH h' ⟨ca, 0, none⟩ = some (.pointer (some ⟨b, 0, none⟩)) ∧ cellH h' ⟨cb, 0, none⟩ = some (.int .i64 r))
    (hY : ∀ (pre : List Nat) (x : Nat) (post : List Nat) (h' : Heap), Ls r = pre ++ x :: post → J pre h' → YieldH Try.prog l [.int .i64 x] h' fun t h'' => t = true ∧ J (pre ++ [x]) h'') :
    CallsH Try.prog 59 [.func (.yield l) #[] #[], .pointer (some ⟨ca, 0, none⟩), .pointer (some ⟨cb, 0, none⟩)] h fun _ h' => J (Ls r) h' := by
  refine fun_ok hm' Try.func59 (by kernel_rfl) (F59_eq _ _ _ _ h) ?_
  obtain ⟨hx, hca, hcb⟩ := hJ _ _ h0
  obtain ⟨nx, bk, rw', m, hat, hrk, hS, hm⟩ := hx
  unfold F59
  refine ld_of (c := .ptr) (some ⟨b, 0, none⟩) hca (ld_of (c := .int .i64) (r : Int) hcb ⟨((64 + r : Nat) : Int), ⟨fun h' he => end_ok r h' hr, ⟨by omega, rfl⟩, ?_⟩⟩)
  simp only [add_mk, Int.toNat_natCast, Nat.mul_one, Nat.zero_add]
  refine ld_nx hat (by omega) ?_
  rw [(hrk.ends hr).2]
  refine ⟨fun (s : Int) h' => ∃ pre rest, Ls r = pre ++ rest ∧ s = (rest.headD (64 + r) : Nat) ∧ J pre h', fun (s : Int) _ => ((Ls r).dropWhile fun y => y != s.toNat).length, ⟨[], Ls r, rfl, rfl, h0⟩, ?_⟩
  rintro s j h2 ⟨pre, rest, hl, rfl, hj⟩
  obtain ⟨hx2, hca2, hcb2⟩ := hJ _ _ hj
  refine cut_of (ld_of (c := .int .i64) (r : Int) hcb2 (call_of (end_ok r h2 hr) ?_))
  rintro v h' ⟨rfl, hh⟩
  subst h'
  refine ⟨((64 + r : Nat) : Int), rfl, ?_⟩
  cases rest with
  | nil =>
    have : Ls r = pre := by simpa using hl
    exact br_f (by simp) (by rw [this]; exact hj)
  | cons x post =>
    simp only [List.headD_cons]
    have hxm : x ∈ Ls r := by rw [hl]; simp
    have hx64 := hrk.small hr hxm
    refine br_t (by simp; omega) (yield_of (hY pre x post h2 hl hj) ?_)
    rintro t h3 ⟨rfl, hj3⟩
    refine ⟨true, rfl, br_t rfl fun j' => ?_⟩
    obtain ⟨⟨nx3, bk3, rw3, m3, hat3, hrk3, _, _⟩, hca3, hcb3⟩ := hJ _ _ hj3
    refine ld_of (c := .ptr) (some ⟨b, 0, none⟩) hca3 ⟨⟨by omega, rfl⟩, ?_⟩
    simp only [add_mk, Int.toNat_natCast, Nat.zero_add]
    refine ld_nx hat3 (by omega) ?_
    rw [hrk3.step hr hl]
    have hnd := hrk.nd r hr
    rw [hl] at hnd
    have hnx : x ∉ pre := fun hh => by rw [List.nodup_append] at hnd; exact hnd.2.2 x hh x (by simp) rfl
    refine ⟨⟨pre ++ [x], post, by simp [hl], rfl, hj3⟩, ?_⟩
    rw [hl, dropWhile_mid hnx]
    cases post with
    | nil =>
      simp only [List.headD_nil]
      rw [dropWhile_none]
      · simp
      · have := hrk.small (r := r) (x := 64 + r) hr
        rw [hl] at this
        exact fun hh => by have := this hh; omega
    | cons y post =>
      simp only [List.headD_cons]
      have hny : y ∉ pre ++ [x] := fun hh => by
        have e : pre ++ x :: y :: post = (pre ++ [x]) ++ y :: post := by simp
        rw [e, List.nodup_append] at hnd
        exact hnd.2.2 y hh y (by simp) rfl
      have e : pre ++ x :: y :: post = (pre ++ [x]) ++ y :: post := by simp
      rw [e]
      simp only [Int.toNat_natCast]
      rw [dropWhile_mid hny]; simp
theorem all_ok (b r : Nat) (h : Heap) :
    CallsH Try.prog 54 [.pointer (some ⟨b, 0, none⟩), .int .i64 r] h fun v h' => v = .func (.func 59) #[] #[.pointer (some ⟨h.size, 0, none⟩), .pointer (some ⟨h.size + 1, 0, none⟩)] ∧
      Blk h' h.size #[.pointer (some ⟨b, 0, none⟩)] 39 ∧ Blk h' (h.size + 1) #[.int .i64 r] 3 ∧ New h h' ∧ h'.size = h.size + 2 := by
  refine fun_ok hm' Try.func54 (by kernel_rfl) (F54_eq _ _ _ h) ?_
  unfold F54
  refine new_of fun h2 b2 n2 s2 => new_of fun h3 b3 n3 s3 => ?_
  rw [s2] at b3 s3 ⊢
  exact ⟨rfl, b2.new n3, b3, n2.trans n3, by omega⟩
theorem ap45 : apB Try.prog 45 3 1 8 = true := by kernel_rfl
theorem zero45 : zeroC Try.prog 45 = #[.slice none 0 0] := by kernel_rfl
def ints (l : List Nat) : List Value := l.map fun (x : Nat) => Value.int .i64 x
set_option maxHeartbeats 1000000 in
theorem list_ok (b r S : Nat) (Ls : Nat → List Nat) (h : Heap) (hr : r < 2) (hx : RkOk h b S Ls) :
    CallsH Try.prog 41 [.pointer (some ⟨b, 0, none⟩), .int .i64 r] h fun v h' => ∃ a c, v = .slice a (Ls r).length c ∧ OwnH h' h.size 3 1 a (Ls r).length c (ints (Ls r)) ∧ New h h' := by
  refine fun_ok hm' Try.func41 (by kernel_rfl) (F41_eq _ _ _ h) ?_
  unfold F41
  rw [zero45]
  refine new_of fun h1 b1 n1 s1 => ?_
  refine call_of (all_ok b r h1) ?_
  rintro v h2 ⟨rfl, b2, b3, n2, s2⟩
  refine ⟨_, rfl, ?_⟩
  rintro l o ho rfl hyield
  generalize hB : h.size = B at *
  have hx2 : RkOk ((h2.push (.deferred (some []))).push o.rdy) b S Ls := ((hx.new n1).new n2).new ((New.push _ _).trans (New.push _ _))
  have nb : New h2 ((h2.push (.deferred (some []))).push o.rdy) := (New.push _ _).trans (New.push _ _)
  have hrdy : ((h2.push (.deferred (some []))).push o.rdy)[h2.size + 1]? = some o.rdy := by rw [Array.getElem?_push, if_pos (by simp)]
  have hsz : ((h2.push (.deferred (some []))).push o.rdy).size = h2.size + 2 := by simp
  generalize (h2.push (.deferred (some []))).push o.rdy = hb at *
  have hbb : b < B := by rw [← hB]; exact hx.lt
  let J : List Nat → Heap → Prop := fun pre h' => Upd B hb h' ∧ ∃ a c, Blk h' B #[.slice a pre.length c] 45 ∧ OwnH h' hb.size 3 1 a pre.length c (ints pre)
  refine (all1_ok (h2.size + 1) b S r h1.size (h1.size + 1) Ls hb J hr ⟨Upd.refl _ _, none, 0, (b1.new n2).new nb, OwnH.nil _ _ _ _⟩ ?_ ?_).mono ?_
  · rintro pre h' ⟨hu, _⟩
    refine ⟨hx2.upd hu (by omega), ?_, ?_⟩
    · rw [cellH_blk ((b2.new nb).upd hu (by omega))]; rfl
    · rw [cellH_blk ((b3.new nb).upd hu (by omega))]; rfl
  · rintro pre x post h' hl ⟨hu, a, c, hbl, how⟩
    refine hyield (x : Int) h' _ ((hu.same _ (by omega) (by omega)).trans hrdy) ?_
    refine ⟨(hu.same _ (by omega) (by omega)).trans hrdy, fun h3 o3 nc3 => ?_⟩
    have hbl3 : Blk h3 B _ 45 := hbl.only o3 (by omega)
    have how3 : OwnH h3 hb.size 3 1 a pre.length c (ints pre) := how.keep fun g cur hg _ _ => o3.same g (by omega)
    refine ld_of (c := .slice) (a, pre.length, c) (by rw [cellH_blk hbl3]; rfl) ?_
    refine new_of fun h4 b4 n4 s4 => ?_
    have how4 : OwnH h4 hb.size 3 1 a pre.length c (ints pre) := how3.keep fun g cur _ hg _ => n4.same g hg.lt
    have hlen : pre.length + 1 ≤ 64 := by
      obtain ⟨_, _, _, _, _, hrk, _⟩ := hx
      have h1 := hrk.len hr; have h2 := hrk.le
      rw [hl] at h1; simp at h1; omega
    have hsz3 : h3.size = h'.size := o3.size
    have hus := hu.size
    refine ap_own ap45 (by omega) how4 [.int .i64 x] (by simp) ?_ (by simp [Value.oneCell']) (by simp [maxLen]; omega) (by omega) (by omega) ?_
    · intro j u hu'
      have hj0 : j = 0 := by have := (List.getElem?_eq_some_iff.1 hu').1; simp at this; omega
      subst hj0
      rw [add_mk, cellH_blk b4]; simpa using hu'
    intro a' c' h5 ho5 hu5
    have hgB : blkOf a ≠ some B := by
      intro e
      rcases how4.row.2 with ⟨rfl, _⟩ | ⟨g, cur, rfl, hg, _⟩
      · cases e
      · injection e with e; change g = B at e; omega
    have hbl5 : Blk h5 B _ 45 := (hu5.same B (hbl3.new n4).lt (fun e => hgB e.symm)).trans (hbl3.new n4)
    refine st_blk hbl5 (by simp) fun h6 hb6 o6 => ?_
    intro h7 o7 hrdy7
    refine ⟨rfl, ⟨?_, fun k hk hkB => ?_⟩, a', c', ?_, ?_⟩
    · have := hu5.size; have := n4.size; have := o6.size; have := o7.size; omega
    · by_cases hkl : k = h2.size + 1
      · subst hkl; rw [hrdy7, hrdy]
      · rw [o7.same k hkl, o6.same k hkB, hu5.same k (by have := n4.size; omega) ?_, n4.same k (by omega), o3.same k hkl, hu.same k hk hkB]
        intro e
        rcases how4.row.2 with ⟨rfl, _⟩ | ⟨g, cur, rfl, hg, _⟩
        · cases e
        · injection e with e; change k = g at e; omega
    · have := hb6.only o7 (show B ≠ h2.size + 1 by omega)
      simpa using this
    · have e1 : (pre ++ [x]).length = pre.length + 1 := by simp
      have e2 : ints (pre ++ [x]) = ints pre ++ [.int .i64 x] := by simp [ints]
      rw [e1, e2]
      refine (ho5.keep fun g cur hg hgb _ => o6.same g (fun e => ?_)).keep fun g cur hg _ _ => o7.same g (by omega)
      omega
  · rintro v h3 ⟨hu, a, c, hbl, how⟩
    refine .inl ⟨(hu.same _ (by omega) (by omega)).trans hrdy, fun h4 o4 => ?_⟩
    have hbl4 : Blk h4 B _ 45 := hbl.only o4 (by omega)
    have how4 : OwnH h4 hb.size 3 1 a (Ls r).length c (ints (Ls r)) := how.keep fun g cur hg _ _ => o4.same g (by omega)
    refine ld_of (c := .slice) (a, (Ls r).length, c) (by rw [cellH_blk hbl4]; rfl) ?_
    intro h5 t5
    refine ⟨a, c, rfl, ?_, ?_⟩
    · obtain ⟨e1, e2⟩ := how4
      refine ⟨e1, ?_⟩
      rcases e2 with e2 | ⟨g, cap, cur, e2, e3, e4, e5⟩
      · exact .inl e2
      · refine .inr ⟨g, cap, cur, e2, by omega, ?_, e5⟩
        rcases t5.same g with t | ⟨_, t, _⟩
        · exact t.trans e4
        · exact absurd (t.symm.trans e4) (by simp)
    · refine ⟨by have := t5.size; have := o4.size; have := hu.size; omega, fun k hk => ?_⟩
      rcases t5.same k with t | ⟨t, _⟩
      · rw [t, o4.same k (by omega), hu.same k (by omega) (by omega), nb.same k (by omega), n2.same k (by omega), n1.same k (by omega)]
      · omega
theorem trial_ok (b S : Nat) (Ls : Nat → List Nat) (h : Heap) (hx : RkOk h b S Ls) :
    CallsH Try.prog 19 [.pointer (some ⟨b, 0, none⟩)] h fun v h' => ∃ a c, v = .slice a (Ls 0).length c ∧ OwnH h' h.size 3 1 a (Ls 0).length c (ints (Ls 0)) ∧ New h h' := by
  refine fun_ok hm' Try.func19 (by kernel_rfl) (F19_eq _ _ h) ?_
  unfold F19
  refine call_of (list_ok b 0 S Ls h (by omega) hx) ?_
  rintro v h' ⟨a, c, rfl, ho, hn⟩
  exact ⟨(a, (Ls 0).length, c), rfl, a, c, rfl, ho, hn⟩
theorem kept_ok (b S : Nat) (Ls : Nat → List Nat) (h : Heap) (hx : RkOk h b S Ls) :
    CallsH Try.prog 20 [.pointer (some ⟨b, 0, none⟩)] h fun v h' => ∃ a c, v = .slice a (Ls 1).length c ∧ OwnH h' h.size 3 1 a (Ls 1).length c (ints (Ls 1)) ∧ New h h' := by
  refine fun_ok hm' Try.func20 (by kernel_rfl) (F20_eq _ _ h) ?_
  unfold F20
  refine call_of (list_ok b 1 S Ls h (by omega) hx) ?_
  rintro v h' ⟨a, c, rfl, ho, hn⟩
  exact ⟨(a, (Ls 1).length, c), rfl, a, c, rfl, ho, hn⟩
theorem repL_get (n : Nat) (v : Value) (r : List Value) (i : Nat) : (repL n [v] r)[i]? = if i < n then some v else r[i - n]? := by
  have e : (List.replicate n [v]).flatten = List.replicate n v := by
    induction n with
    | zero => rfl
    | succ n ih => rw [List.replicate_succ, List.flatten_cons, ih, List.replicate_succ]; rfl
  simp only [repL, e, List.getElem?_toArray, List.getElem?_append, List.length_replicate, List.getElem?_replicate]
  split <;> rfl
theorem repL_size (n : Nat) (v : Value) (r : List Value) : (repL n [v] r).size = n + r.length := by simp [repL]
theorem new_no (x : Int) (h : Heap) (hx : x < 1 ∨ 64 < x) : CallsH Try.prog 17 [.int .i64 x] h fun v h' => v = .tuple #[.pointer none, .iface 82 (.int .i64 1)] ∧ h' = h := by
  refine fun_ok hm' Try.func17 (by kernel_rfl) (F17_eq _ _ h) ?_
  unfold F17
  refine cut_of (br_of (fun _ => ⟨rfl, rfl⟩) fun h0 => br_of (fun _ => ⟨rfl, rfl⟩) fun h1 => ?_)
  simp at h0 h1; omega
theorem new_ok (S : Nat) (h : Heap) (h1 : 1 ≤ S) (h2 : S ≤ 64) : CallsH Try.prog 17 [.int .i64 S] h fun v h' => v = .tuple #[.pointer (some ⟨h.size, 0, none⟩), .nilIface] ∧ RkOk h' h.size S (fun _ => []) ∧ New h h' := by
  refine fun_ok hm' Try.func17 (by kernel_rfl) (F17_eq _ _ h) ?_
  unfold F17
  refine cut_of (br_f (by simp; omega) (br_f (by simp; omega) fun _ => new_of fun h3 b3 n3 s3 => ?_))
  refine ⟨fun (s : Int) h' => ∃ i : Nat, s = i ∧ i ≤ 66 ∧ Only h.size h3 h' ∧ RkAt h' h.size (fun j => if j < i then j else 0) (fun j => if j < i then j else 0) (fun j => if j < i then 2 else 0) (fun _ => 0) S,
    fun (s : Int) _ => (66 - s).toNat, ⟨0, rfl, by omega, Only.refl _ _, ⟨_, _, b3, ?_⟩⟩, ?_⟩
  · refine ⟨by rw [repL_size]; rfl, fun i hi => ?_, fun i hi => ?_, fun i hi => ?_, fun i hi => ?_, ?_⟩ <;> rw [repL_get] <;> first | (rw [if_pos (by omega)]; rfl) | (rw [if_neg (by omega)]; rfl)
  · rintro s j h4 ⟨i, rfl, hi, o4, a4⟩
    generalize hB : h.size = B at *
    simp only [add_mk, Nat.zero_add]
    refine br_of (fun hlt => ?_) (fun hlt => ?_)
    · have hlt : i < 66 := by simp at hlt; omega
      have upd : ∀ (v : Nat → Nat), (∀ j, (fun j => if j < i + 1 then v j else 0) j = up (fun j => if j < i then v j else 0) i (v i) j) := by
        intro v j
        by_cases e : j = i
        · subst e; rw [up_same]; simp
        · rw [up_ne _ _ e]; simp only []; by_cases hh : j < i <;> simp [hh] <;> omega
      refine ⟨⟨by omega, rfl⟩, ?_⟩
      simp only [Int.toNat_natCast, Nat.mul_one]
      refine st_nx a4 hlt fun h5 a5 o5 => ⟨⟨by omega, rfl⟩, st_bk a5 hlt fun h6 a6 o6 => ⟨⟨by omega, rfl⟩, st_rw (v := 2) a6 hlt fun h7 a7 o7 => ?_⟩⟩
      rw [wr64 (by omega) (by omega)]
      refine ⟨⟨i + 1, by omega, by omega, ((o4.trans o5).trans o6).trans o7, ?_⟩, by omega⟩
      rw [← funext (upd fun j => j), ← funext (upd fun _ => 2)] at a7
      exact a7
    · have hi : i = 66 := by simp at hlt; omega
      subst hi
      refine ⟨by trivial, ⟨_, _, _, _, a4, ⟨h2, fun r hr => ?_, fun r hr => List.nodup_nil, fun r hr x => ?_, fun x hx => ?_⟩, h1, fun r hr => rfl⟩, ?_⟩
      · exact ⟨⟨by simp; omega, by simp; omega⟩, trivial⟩
      · simp only [List.not_mem_nil, false_iff, not_and]; intro hx; rw [if_pos (by omega)]; omega
      · show (if x < 66 then 2 else 0) ≤ 2
        rw [if_pos hx]; omega
      · rw [← hB] at o4; exact o4.upd.new n3 (Nat.le_refl _)
end Go.Proofs.Ytfanjfbenhocnaa.Lru
