/-
  Reference 08 told by the rows of slots as the program has them, and with where its rows lie.
-/
import Derived.Test.YtfanjfbenhocnaaGreatDoorLruH
import Derived.Test.YtfanjfbenhocnaaGreatDoorR8P
import Derived.Test.YtfanjfbenhocnaaGreatDoorWSame8
namespace Go.Proofs.YtfanjfbenhocnaaGreatDoor.R8M
open Go.Pl Go.Pl.Lru Go.Proofs.YtfanjfbenhocnaaGreatDoor.W Go.Proofs.YtfanjfbenhocnaaGreatDoor.Lru Go.Proofs.YtfanjfbenhocnaaGreatDoor.R8P
theorem mem_nI {x : Int} {l : List Nat} : x ∈ nI l ↔ 0 ≤ x ∧ x.toNat ∈ l := by
  unfold nI
  rw [List.mem_map]
  constructor
  · rintro ⟨n, hn, rfl⟩
    exact ⟨by omega, by simpa using hn⟩
  · rintro ⟨h0, hm⟩
    exact ⟨x.toNat, hm, by omega⟩
theorem in_nI {Ls : Nat → List Nat} {x : Int} : (x ∈ nI (Ls 0) ∨ x ∈ nI (Ls 1)) ↔ inI Ls x = true := by
  rw [mem_nI, mem_nI]
  unfold inI inL
  simp only [Bool.and_eq_true, Bool.or_eq_true, decide_eq_true_iff]
  constructor
  · rintro (⟨a, b⟩ | ⟨a, b⟩)
    · exact ⟨a, .inl b⟩
    · exact ⟨a, .inr b⟩
  · rintro ⟨a, b | b⟩
    · exact .inl ⟨a, b⟩
    · exact .inr ⟨a, b⟩
theorem nI_len (l : List Nat) : (nI l).length = l.length := List.length_map ..
theorem but_nI (n : Nat) (l : List Nat) : but (n : Int) (nI l) = nI (l.filter fun y => y != n) := by
  unfold but nI
  rw [List.filter_map]
  congr 1
  refine List.filter_congr fun y _ => ?_
  show ((y : Int) != (n : Int)) = (y != n)
  rw [Bool.eq_iff_iff]
  simp only [bne_iff_ne, ne_eq]
  omega
theorem nI_last {l : List Nat} : (nI l).getLast? = l.getLast?.map fun (x : Nat) => (x : Int) := by unfold nI; exact List.getLast?_map ..
theorem lastB_vic (Ls : Nat → List Nat) : lastB (nI (Ls 0)) (nI (Ls 1)) = (vicL Ls).map fun (x : Nat) => (x : Int) := by
  have key : ∀ {l : List Nat}, l ≠ [] → (nI l).getLast? = some ((l.getLastD 0 : Nat) : Int) := fun {l} hn => by
    rw [nI_last]
    cases l with
    | nil => exact (hn rfl).elim
    | cons a l => rw [List.getLastD_eq_getLast?, List.getLast?_cons]; rfl
  unfold lastB vicL
  rw [nI_len]
  by_cases h0 : Ls 0 = []
  · rw [if_pos (by rw [h0]; rfl), if_neg (by simp [h0])]
    by_cases h1 : Ls 1 = []
    · rw [if_neg (by simp [h1]), h1]; rfl
    · rw [if_pos h1, key h1]; rfl
  · rw [if_neg (fun e => h0 (List.eq_nil_of_length_eq_zero e)), if_pos h0, key h0]; rfl
/-- What Touch does, told of the rows of the reference. -/
theorem tou_rows {S n : Nat} {Ls : Nat → List Nat} (h : (que Ls).Nodup) (B2 : List Int) (hB : B2 = (n : Int) :: but (n : Int) (nI (Ls 1))) (hl : B2.length - 1 < B2.length) :
    if (B2.length : Int) > (S : Int) / 2 then B2[B2.length - 1] :: but (n : Int) (nI (Ls 0)) = nI (touL S Ls n 0) ∧ B2.take (B2.length - 1) = nI (touL S Ls n 1) else but (n : Int) (nI (Ls 0)) = nI (touL S Ls n 0) ∧ B2 = nI (touL S Ls n 1) := by
  have hnd := del_nd h n
  have hnot := del_not Ls n
  generalize hL1 : upL (del Ls n) 1 (n :: del Ls n 1) = L1
  have hq1 : que L1 = que (del Ls n) ++ [n] := by rw [← hL1, que_up1]
  have hq1nd : (que L1).Nodup := by
    rw [hq1, List.nodup_append]
    exact ⟨hnd, by simp, fun a ha b hb e => by rw [List.mem_singleton] at hb; subst hb; exact hnot (e ▸ ha)⟩
  have hT : touL S Ls n = if S / 2 < (L1 1).length then upL (del L1 ((L1 1).getLastD 65)) 0 ((L1 1).getLastD 65 :: del L1 ((L1 1).getLastD 65) 0) else L1 := by rw [← hL1]; rfl
  have h11 : L1 1 = n :: (Ls 1).filter fun y => y != n := by rw [← hL1]; simp [upL, del]
  have h10 : L1 0 = (Ls 0).filter fun y => y != n := by rw [← hL1]; simp [upL, del]
  have hB2 : B2 = nI (L1 1) := by rw [hB, but_nI, h11]; rfl
  have hA2 : but (n : Int) (nI (Ls 0)) = nI (L1 0) := by rw [but_nI, h10]
  rw [hT, hA2]
  have hlen : B2.length = (L1 1).length := by rw [hB2, nI_len]
  by_cases hg : S / 2 < (L1 1).length
  · rw [if_pos hg, if_pos (by omega)]
    have hne : L1 1 ≠ [] := by rw [h11]; simp
    have e1 : upL (del L1 ((L1 1).getLastD 65)) 0 ((L1 1).getLastD 65 :: del L1 ((L1 1).getLastD 65) 0) 1 = (L1 1).filter fun y => y != (L1 1).getLastD 65 := by simp [upL, del]
    have e0 : upL (del L1 ((L1 1).getLastD 65)) 0 ((L1 1).getLastD 65 :: del L1 ((L1 1).getLastD 65) 0) 0 = (L1 1).getLastD 65 :: (L1 0).filter fun y => y != (L1 1).getLastD 65 := by simp [upL, del]
    have hmem : (L1 1).getLastD 65 ∈ L1 1 := getLastD_mem hne
    have hno : (L1 1).getLastD 65 ∉ L1 0 := fun hm => by
      have := hq1nd
      unfold que at this
      rw [List.nodup_append] at this
      exact this.2.2 _ (List.mem_reverse.2 hm) _ (List.mem_reverse.2 hmem) rfl
    have hf : ((L1 0).filter fun y => y != (L1 1).getLastD 65) = L1 0 := List.filter_eq_self.2 fun a ha => by
      have : a ≠ (L1 1).getLastD 65 := fun e => hno (e ▸ ha)
      simpa using this
    rw [e0, e1, hf, filter_last (que_nd0 hq1nd).2 hne rfl, List.dropLast_eq_take]
    have hg2 : B2[B2.length - 1] = (((L1 1).getLastD 65 : Nat) : Int) := by
      have : B2[B2.length - 1]? = some (((L1 1).getLastD 65 : Nat) : Int) := by
        rw [← List.getLast?_eq_getElem?, hB2, nI_last]
        cases hc : L1 1 with
        | nil => exact (hne hc).elim
        | cons a l => rw [List.getLastD_eq_getLast?, List.getLast?_cons]; rfl
      rw [List.getElem?_eq_getElem hl] at this
      exact Option.some.inj this
    rw [hg2]
    refine ⟨rfl, ?_⟩
    rw [hlen, hB2]
    unfold nI
    rw [List.map_take]
  · rw [if_neg hg, if_neg (by omega)]
    exact ⟨rfl, hB2⟩
abbrev RKL (P : Nat → Prop) (h : Heap) (q : Nat) (Ls : Nat → List Nat) (S : Nat) : Prop := RK P h q (nI (Ls 0)) (nI (Ls 1)) (S : Int)
section
variable {P : Nat → Prop} {h : Heap} {q S : Nat} {Ls : Nat → List Nat}
theorem in8L (s : Int) (hl : (que Ls).length ≤ 64) (hx : RKL P h q Ls S) : CallsH Tryz.prog 54 [.pointer (some ⟨q, 0, none⟩), .int .i64 s] h fun v h' => v = .bool (inI Ls s) ∧ h' = h := by
  have ql := que_len Ls
  refine (in8_ok h q s S _ _ (by rw [nI_len]; omega) (by rw [nI_len]; omega) hx).mono ?_
  rintro v h' ⟨rfl, hh⟩
  refine ⟨?_, hh⟩
  congr 1
  rw [Bool.eq_iff_iff, decide_eq_true_iff, in_nI]
theorem ins8L (s : Int) (hl : (que Ls).length ≤ 64) (hx : RKL P h q Ls S) :
    CallsH Tryz.prog 55 [.pointer (some ⟨q, 0, none⟩), .int .i64 s] h fun v h' => v = .bool (insL S Ls s).1 ∧ RKL (fun g => P g ∨ (h.size ≤ g ∧ g < h'.size)) h' q (insL S Ls s).2 S ∧ Upd q h h' := by
  have ql := que_len Ls
  refine (insert8_ok h q s S _ _ (by rw [nI_len]; omega) (by rw [nI_len]; omega) hx).mono ?_
  rw [in_nI]
  unfold insL
  rintro v h2 (⟨hc, rfl, hh⟩ | ⟨hc, rfl, u2, r2⟩)
  · subst hh
    rw [if_neg (by simpa using hc)]
    exact ⟨rfl, hx.mono fun _ => .inl, Upd.refl _ _⟩
  · rw [if_pos (by simpa using hc)]
    refine ⟨rfl, ?_, u2⟩
    have e : (s : Int) = ((s.toNat : Nat) : Int) := by omega
    have : RK (fun g => P g ∨ (h.size ≤ g ∧ g < h2.size)) h2 q (nI (s.toNat :: Ls 0)) (nI (Ls 1)) S := by
      show RK (fun g => P g ∨ (h.size ≤ g ∧ g < h2.size)) h2 q (((s.toNat : Nat) : Int) :: nI (Ls 0)) (nI (Ls 1)) S
      rw [← e]; exact r2
    simpa [RKL, upL] using this
theorem tou8L (s : Int) (hS : S ≤ 64) (hn : (que Ls).Nodup) (hl : (que Ls).length ≤ 64) (hx : RKL P h q Ls S) :
    CallsH Tryz.prog 53 [.pointer (some ⟨q, 0, none⟩), .int .i64 s] h fun v h' => v = .bool (inI Ls s) ∧ RKL (fun g => P g ∨ (h.size ≤ g ∧ g < h'.size)) h' q (if inI Ls s = true then touL S Ls s.toNat else Ls) S ∧ Upd q h h' := by
  have ql := que_len Ls
  obtain ⟨B2, hB2⟩ : ∃ B2 : List Int, B2 = s :: but s (nI (Ls 1)) := ⟨_, rfl⟩
  have hLG : B2.length - 1 < B2.length := by rw [hB2]; simp
  refine (touch8_ok h q s S _ _ (by rw [nI_len]; omega) (by rw [nI_len]; omega) ⟨by omega, by omega⟩ hx B2 hB2 hLG).mono ?_
  rw [in_nI]
  rintro v h2 (⟨hc, rfl, hh⟩ | ⟨hc, rfl, u2, r2⟩)
  · subst hh
    rw [if_neg hc]
    refine ⟨?_, hx.mono fun _ => .inl, Upd.refl _ _⟩
    cases hi : inI Ls s with
    | false => rfl
    | true => exact (hc hi).elim
  · rw [if_pos hc, hc]
    refine ⟨rfl, ?_, u2⟩
    have h0 : 0 ≤ s := by unfold inI at hc; simp at hc; exact hc.1
    obtain ⟨n, rfl⟩ := Int.eq_ofNat_of_zero_le h0
    have T := tou_rows (S := S) (n := n) hn B2 hB2 hLG
    show RK (fun g => P g ∨ (h.size ≤ g ∧ g < h2.size)) h2 q (nI (touL S Ls n 0)) (nI (touL S Ls n 1)) S
    by_cases hg : (B2.length : Int) > (S : Int) / 2
    · rw [if_pos hg] at r2 T
      rw [← T.1, ← T.2]; exact r2
    · rw [if_neg hg] at r2 T
      rw [← T.1, ← T.2]; exact r2
theorem rem8L (s : Int) (hl : (que Ls).length ≤ 64) (hx : RKL P h q Ls S) :
    CallsH Tryz.prog 56 [.pointer (some ⟨q, 0, none⟩), .int .i64 s] h fun v h' => v = .bool (inI Ls s) ∧ RKL (fun g => P g ∨ (h.size ≤ g ∧ g < h'.size)) h' q (if inI Ls s = true then del Ls s.toNat else Ls) S ∧ Upd q h h' := by
  have ql := que_len Ls
  refine (remove8_ok h q s S _ _ (by rw [nI_len]; omega) (by rw [nI_len]; omega) hx).mono ?_
  rw [in_nI]
  rintro v h2 (⟨hc, rfl, hh⟩ | ⟨hc, rfl, u2, r2⟩)
  · subst hh
    rw [if_neg hc]
    refine ⟨?_, hx.mono fun _ => .inl, Upd.refl _ _⟩
    cases hi : inI Ls s with
    | false => rfl
    | true => exact (hc hi).elim
  · rw [if_pos hc, hc]
    refine ⟨rfl, ?_, u2⟩
    have h0 : 0 ≤ s := by unfold inI at hc; simp at hc; exact hc.1
    obtain ⟨n, rfl⟩ := Int.eq_ofNat_of_zero_le h0
    rw [but_nI, but_nI] at r2
    exact r2
theorem vic8L (hl : (que Ls).length ≤ 64) (hx : RKL P h q Ls S) :
    CallsH Tryz.prog 41 [.pointer (some ⟨q, 0, none⟩)] h fun v h' => v = .tuple #[.int .i64 (((vicL Ls).getD 0 : Nat) : Int), .bool (vicL Ls).isSome] ∧ h' = h := by
  have ql := que_len Ls
  refine (victim8_ok h q S _ _ (by rw [nI_len]; omega) (by rw [nI_len]; omega) hx).mono ?_
  rintro v h' ⟨rfl, hh⟩
  refine ⟨?_, hh⟩
  rw [lastB_vic]
  cases vicL Ls <;> rfl
end
/-- Who goes first stands in a row. -/
theorem vic_in {Ls : Nat → List Nat} {x : Nat} (hv : vicL Ls = some x) : inI Ls (x : Int) = true := by
  have : x ∈ que Ls := by
    rw [vic_head] at hv
    cases hq : que Ls with
    | nil => rw [hq] at hv; cases hv
    | cons y r => rw [hq] at hv; injection hv with hv; simp [hv]
  have := mem_que.1 this
  simp [inI, this]
theorem new8_ok (x : Int) (h : Heap) : CallsH Tryz.prog 28 [.int .i64 x] h fun v h' => ((x < 1 ∨ 64 < x) ∧ v = .tuple #[.pointer none, .int .i64 1] ∧ h' = h) ∨ (∃ S : Nat, x = S ∧ 1 ≤ S ∧ S ≤ 64 ∧ v = .tuple #[.pointer (some ⟨h.size, 0, none⟩), .int .i64 0] ∧ RKL (fun _ => False) h' h.size (fun _ => []) S ∧ New h h') := by
  refine fun_ok Lru.hm' Tryz.func28 (by kernel_rfl) (F28_eq x _ h) ?_
  unfold F28
  refine cut_q (ts := [.sc .bool]) (fun (s : Bool) h' => h' = h ∧ s = decide (x < 1 ∨ 64 < x)) ?_ ?_
  rotate_left
  · intro K hK
    refine br_of (fun h3 => hK _ _ ⟨rfl, ?_⟩) fun h3 => hK _ _ ⟨rfl, ?_⟩
    · have h3 : x < 1 := of_decide_eq_true h3
      rw [decide_eq_true (.inl h3)]
    · have h3 : ¬ x < 1 := of_decide_eq_false h3
      show decide (x > 64) = _
      rw [decide_eq_decide]
      omega
  rintro s h' ⟨hh, hs⟩ _; subst h'
  have hs : s = decide (x < 1 ∨ 64 < x) := hs
  subst hs
  refine br_of (fun h3 => .inl ⟨of_decide_eq_true h3, rfl, rfl⟩) fun h3 => ?_
  have h3 : ¬ (x < 1 ∨ 64 < x) := of_decide_eq_false h3
  obtain ⟨S, rfl⟩ := Int.eq_ofNat_of_zero_le (show 0 ≤ x by omega)
  exact new_of fun h3 b3 n3 s3 => .inr ⟨S, rfl, by omega, by omega, rfl, ⟨none, 0, none, 0, _, b3, RowS.nil h3 TI 1, RowS.nil h3 TI 1, (fun g e => by cases e), (fun g e => by cases e)⟩, n3⟩
theorem same8 (a b : Option Addr) (n m ca cb : Nat) (h : Heap) (xs ys : List Int) (hx : n = xs.length) (hy : m = ys.length) (hn : n ≤ 1000000) (ra : Ar .i64 h a xs) (rb : Ar .i64 h b ys) :
    CallsH Tryz.prog 16 [.slice a n ca, .slice b m cb] h fun v h' => v = .bool (decide (xs = ys)) ∧ h' = h := by
  refine fun_ok Lru.hm' Tryz.func16 (by kernel_rfl) (F16_eq _ _ _ _ _ _ _ h) ?_
  unfold F16
  subst hx; subst hy
  refine br_of (fun hne => ?_) (fun heq => ?_)
  · have : xs ≠ ys := fun e => by subst e; simp at hne
    exact ⟨by simp [this], rfl⟩
  have hl : xs.length = ys.length := by simp at heq; omega
  refine ⟨fun (s : Int) h' => h' = h ∧ ∃ i : Nat, s = i ∧ i ≤ xs.length ∧ xs.take i = ys.take i, fun (s : Int) _ => (xs.length - s).toNat, ⟨rfl, 0, rfl, by omega, rfl⟩, ?_⟩
  rintro s j h' ⟨hh, i, rfl, hi, hpre⟩
  subst h'
  refine br_of (fun hlt => ?_) (fun hlt => ?_)
  · have hlt : i < xs.length := by simp at hlt; omega
    refine ix_ld ra hlt (by omega) (ix_ld rb (by omega) (by omega) (br_of (fun hd => ?_) (fun hd => ?_)))
    · have hd : xs[i] ≠ ys[i] := by simpa using hd
      have : xs ≠ ys := fun e => by subst e; exact hd rfl
      exact ⟨by simp [this], rfl⟩
    · have hd : xs[i] = ys[i] := by simpa using hd
      refine ⟨⟨rfl, i + 1, (by first | (rw [wr64 (by omega) (by omega)]; omega) | (simp only [IntKind.wrap_i64]; omega)), hlt, ?_⟩, (by dsimp only; first | (rw [wr64 (by omega) (by omega)]; omega) | (rw [wr64 (by omega) (by omega), wr64 (by omega) (by omega)]; omega) | (simp only [IntKind.wrap_i64]; omega))⟩
      rw [← List.take_append_getElem hlt, ← List.take_append_getElem (show i < ys.length by omega), hpre, hd]
  · have hlt : ¬ (i : Int) < (xs.length : Int) := of_decide_eq_false hlt
    have : i = xs.length := by omega
    subst this
    rw [List.take_length, List.take_of_length_le (by omega)] at hpre
    exact ⟨by simp [hpre], rfl⟩
end Go.Proofs.YtfanjfbenhocnaaGreatDoor.R8M
