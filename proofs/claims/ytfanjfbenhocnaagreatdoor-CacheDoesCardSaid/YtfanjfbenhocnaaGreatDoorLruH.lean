/-
  Rankings: who goes first, told by a queue; plain laws behind a touch.
-/
import Derived.Test.YtfanjfbenhocnaaGreatDoorLruN
import Derived.Test.YtfanjfbenhocnaaGreatDoorArr
namespace Go.Proofs.YtfanjfbenhocnaaGreatDoor.Lru
open Go.Pl Go.Pl.Lru Go.Proofs.YtfanjfbenhocnaaGreatDoor.W
abbrev vI (xs : List Int) : List Value := xs.map (Value.int .i64)
def nI (l : List Nat) : List Int := l.map fun (x : Nat) => (x : Int)
theorem ints_eq (l : List Nat) : ints l = vI (nI l) := by simp [ints, vI, nI]
theorem vic_que {Ls : Nat → List Nat} {x : Nat} {r : List Nat} (h : que Ls = x :: r) : vicL Ls = some x := by
  unfold que at h
  unfold vicL
  by_cases h0 : Ls 0 = []
  · rw [if_neg (by simp [h0])]
    rw [h0] at h
    simp only [List.reverse_nil, List.nil_append] at h
    have e : Ls 1 = r.reverse ++ [x] := by rw [← List.reverse_reverse (Ls 1), h]; simp
    rw [if_pos (by rw [e]; simp), e]; simp
  · rw [if_pos h0]
    obtain ⟨l, y, e⟩ : ∃ l y, Ls 0 = l ++ [y] := ⟨(Ls 0).dropLast, (Ls 0).getLast h0, (List.dropLast_concat_getLast h0).symm⟩
    rw [e] at h ⊢
    simp at h
    simp [h.1]
theorem vic_nil {Ls : Nat → List Nat} (h : que Ls = []) : vicL Ls = none := by
  unfold que at h; unfold vicL
  rw [List.append_eq_nil_iff] at h
  simp at h; simp [h]
theorem del_que {Ls : Nat → List Nat} {x : Nat} {r : List Nat} (h : que Ls = x :: r) (hn : (que Ls).Nodup) : que (del Ls x) = r := by
  rw [que_del, h, List.filter_cons_of_neg (by simp)]
  rw [h] at hn
  exact List.filter_eq_self.2 fun a ha => by simp; exact fun e => (List.nodup_cons.1 hn).1 (e ▸ ha)
theorem RkOk.que {h : Heap} {b S : Nat} {Ls : Nat → List Nat} (hx : RkOk h b S Ls) : (que Ls).Nodup ∧ (que Ls).length ≤ 64 := by
  obtain ⟨_, _, _, _, _, hrk, _⟩ := hx
  have hle := hrk.le
  refine ⟨hrk.que, ?_⟩
  have := nodup_le S _ hrk.que fun x hx => hrk.in_small (mem_que.1 hx)
  omega
theorem vic_head (Ls : Nat → List Nat) : vicL Ls = (que Ls).head? := by
  cases h : que Ls with
  | nil => rw [vic_nil h]; rfl
  | cons x r => rw [vic_que h]; rfl
theorem filter_ne_len {l : List Nat} {x : Nat} (hn : l.Nodup) (hx : x ∈ l) : (l.filter fun y => y != x).length + 1 = l.length := by
  obtain ⟨a, b, rfl⟩ := List.append_of_mem hx
  rw [filter_mid hn]; simp; omega
theorem que_len (Ls : Nat → List Nat) : (que Ls).length = (Ls 0).length + (Ls 1).length := by simp [que]
theorem que_up1 (Ls : Nat → List Nat) (n : Nat) : que (upL Ls 1 (n :: Ls 1)) = que Ls ++ [n] := by simp [que, upL]
theorem que_up0 (Ls : Nat → List Nat) (n : Nat) : que (upL Ls 0 (n :: Ls 0)) = (Ls 0).reverse ++ n :: (Ls 1).reverse := by simp [que, upL]
theorem que_nd0 {Ls : Nat → List Nat} (h : (que Ls).Nodup) : (Ls 0).Nodup ∧ (Ls 1).Nodup := by
  unfold que at h
  rw [List.nodup_append] at h
  exact ⟨by have := nodup_rev h.1; rwa [List.reverse_reverse] at this, by have := nodup_rev h.2.1; rwa [List.reverse_reverse] at this⟩
theorem del_not (Ls : Nat → List Nat) (n : Nat) : n ∉ que (del Ls n) := by rw [que_del]; simp
theorem del_nd {Ls : Nat → List Nat} (h : (que Ls).Nodup) (n : Nat) : (que (del Ls n)).Nodup := by rw [que_del]; exact h.sublist List.filter_sublist
theorem del_len {Ls : Nat → List Nat} (h : (que Ls).Nodup) {n : Nat} (hn : n ∈ que Ls) : (que (del Ls n)).length + 1 = (que Ls).length := by rw [que_del]; exact filter_ne_len h hn
/-- Behind a touch. -/
theorem tou_facts {S n : Nat} {Ls : Nat → List Nat} (h : (que Ls).Nodup) (hn : n ∈ que Ls) (hk : (Ls 1).length ≤ S / 2) :
    (que (touL S Ls n)).length = (que Ls).length ∧ (touL S Ls n 1).length ≤ S / 2 ∧ (1 < (que Ls).length → 1 < S → vicL (touL S Ls n) ≠ some n) := by
  have hd := del_len h hn
  have hnd := del_nd h n
  have hnot := del_not Ls n
  generalize hL1 : upL (del Ls n) 1 (n :: del Ls n 1) = L1
  have hq1 : que L1 = que (del Ls n) ++ [n] := by rw [← hL1, que_up1]
  have hq1nd : (que L1).Nodup := by
    rw [hq1, List.nodup_append]
    exact ⟨hnd, by simp, fun a ha b hb e => by rw [List.mem_singleton] at hb; subst hb; exact hnot (e ▸ ha)⟩
  have hT : touL S Ls n = if S / 2 < (L1 1).length then upL (del L1 ((L1 1).getLastD 65)) 0 ((L1 1).getLastD 65 :: del L1 ((L1 1).getLastD 65) 0) else L1 := by rw [← hL1]; rfl
  have h11 : L1 1 = n :: del Ls n 1 := by rw [← hL1]; simp [upL]
  have h10 : L1 0 = del Ls n 0 := by rw [← hL1]; simp [upL]
  have hdl : (del Ls n 1).length ≤ (Ls 1).length := List.length_filter_le _ _
  have hl1 : (que L1).length = (que Ls).length := by rw [hq1, List.length_append, List.length_singleton]; omega
  rw [hT]
  by_cases hg : S / 2 < (L1 1).length
  · rw [if_pos hg]
    have hne : L1 1 ≠ [] := by rw [h11]; simp
    have hmem : (L1 1).getLastD 65 ∈ L1 1 := getLastD_mem hne
    have hzn : 1 < S → (L1 1).getLastD 65 ≠ n := by
      intro hS
      have h2 : 2 ≤ (L1 1).length := by omega
      have hne2 : del Ls n 1 ≠ [] := by intro e; rw [h11, e] at h2; simp at h2
      have : (L1 1).getLastD 65 ∈ del Ls n 1 := by
        rw [h11, List.getLastD_cons, getLastD_any hne2 (e := 65)]
        exact getLastD_mem hne2
      intro e
      rw [e] at this
      exact hnot (by simp [que, this])
    generalize (L1 1).getLastD 65 = z at hmem hzn ⊢
    have hzq : z ∈ que L1 := by simp [que, hmem]
    have hdz := del_len hq1nd hzq
    refine ⟨?_, ?_, fun _ hS => ?_⟩
    · rw [que_up0]
      have := que_len (del L1 z)
      simp at this ⊢; omega
    · have h1n := (que_nd0 hq1nd).2
      have := filter_ne_len h1n hmem
      have e : upL (del L1 z) 0 (z :: del L1 z 0) 1 = (L1 1).filter fun y => y != z := by simp [upL, del]
      rw [e]
      have : (L1 1).length ≤ S / 2 + 1 := by rw [h11, List.length_cons]; omega
      omega
    · rw [vic_head, que_up0]
      cases hc : (del L1 z 0).reverse with
      | nil => simp; exact hzn hS
      | cons y r =>
        simp
        intro e; subst e
        have : y ∈ del L1 z 0 := by rw [← List.mem_reverse, hc]; simp
        have : y ∈ L1 0 := (List.mem_filter.1 this).1
        rw [h10] at this
        exact hnot (by simp [que, this])
  · rw [if_neg hg]
    refine ⟨hl1, by omega, fun h2 _ => ?_⟩
    rw [vic_head, hq1]
    cases hc : que (del Ls n) with
    | nil => rw [hc] at hd; simp at hd; omega
    | cons y r =>
      simp
      intro e; subst e
      exact hnot (by rw [hc]; simp)
theorem filter_last {l : List Nat} {z : Nat} (hn : l.Nodup) (hne : l ≠ []) (hz : l.getLastD 65 = z) : (l.filter fun y => y != z) = l.dropLast := by
  obtain ⟨a, y, rfl⟩ : ∃ a y, l = a ++ [y] := ⟨l.dropLast, l.getLast hne, (List.dropLast_concat_getLast hne).symm⟩
  have : z = y := by rw [← hz]; simp
  subst this
  rw [filter_mid (l2 := []) hn, List.dropLast_concat, List.append_nil]
end Go.Proofs.YtfanjfbenhocnaaGreatDoor.Lru
