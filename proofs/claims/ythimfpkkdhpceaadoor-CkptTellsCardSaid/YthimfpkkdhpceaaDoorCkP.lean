/-
  Checkpoints as plain data: their blocks, and back. Plain laws.
-/
import Derived.Test.YthimfpkkdhpceaaDoorHead
import Derived.Test.YthimfpkkdhpceaaDoorGeo
namespace Go.Proofs.YthimfpkkdhpceaaDoor.Ck
open Go.Pl Go.Proofs.YthimfpkkdhpceaaDoor.Byts Go.Proofs.YthimfpkkdhpceaaDoor.Four Go.Proofs.YthimfpkkdhpceaaDoor.Adl Go.Proofs.YthimfpkkdhpceaaDoor.Head Go.Proofs.YthimfpkkdhpceaaDoor.Geo
structure Chk where
  num : Int
  ses : Int
  seq : Int
  z : Int
  p : Int
  b : Int
  dir : List Int
def ck0 : Chk := ⟨0, 0, 0, 0, 0, 0, []⟩
def U32 (x : Int) : Prop := 0 ≤ x ∧ x < 4294967296
structure ChkOk (c : Chk) : Prop where
  num : U32 c.num
  ses : U32 c.ses
  seq : U32 c.seq
  dir : ∀ x ∈ c.dir, U32 x
def tabN (b : Int) : Nat := ((b + 3) / 4).toNat
def rightC (c : Chk) : Bool := rightB c.z c.p c.b && decide ((c.dir.length : Int) = (c.b + 3) / 4)
def numsC (c : Chk) : List Int := [c.num, c.ses, c.seq, c.z, c.p, c.b] ++ c.dir
def fullC (c : Chk) : List Int := fours (numsC c) ++ four (sumL (fours (numsC c)))
def lenN (b : Int) : Nat := 24 + 4 * tabN b
def manyN (b : Int) : Nat := (lenN b + 4 + 15) / 16
def bytesC (c : Chk) : List Int := fullC c ++ List.replicate (manyN c.b * 16 - (fullC c).length) 0
def chunks (n : Nat) (xs : List Int) : List (List Int) := (List.range n).map fun i => (xs.drop (16 * i)).take 16
def blocksC (c : Chk) : List (List Int) × Int := if rightC c = false then ([], 1) else (chunks (manyN c.b) (bytesC c), 0)
def chkOf (b : List Int) : Chk := ⟨wordAt b 0, wordAt b 4, wordAt b 8, wordAt b 12, wordAt b 16, wordAt b 20, (List.range (tabN (wordAt b 20))).map fun i => wordAt b (4 * (6 + i))⟩
def readC (l : List (List Int)) : Chk × Int :=
  if l.length < 2 ∨ l.any (fun b => decide (b.length ≠ 16)) = true then (ck0, 3)
  else if rightB (wordAt l.flatten 12) (wordAt l.flatten 16) (wordAt l.flatten 20) = false then (ck0, 2)
  else if l.length ≠ manyN (wordAt l.flatten 20) then (ck0, 3)
  else if sumL (l.flatten.take (lenN (wordAt l.flatten 20))) ≠ wordAt l.flatten (lenN (wordAt l.flatten 20)) then (ck0, 4)
  else if (l.flatten.drop (lenN (wordAt l.flatten 20) + 4)).any (fun x => decide (x ≠ 0)) = true then (ck0, 2)
  else (chkOf l.flatten, 0)
theorem fours_cons (x : Int) (l : List Int) : fours (x :: l) = four x ++ fours l := rfl
theorem fours_app (l m : List Int) : fours (l ++ m) = fours l ++ fours m := by simp [fours]
theorem word_fours : ∀ (ls ys : List Int), (∀ x ∈ ls, U32 x) → ∀ (i : Nat) (hi : i < ls.length), wordAt (fours ls ++ ys) (4 * i) = ls[i]
  | [], _, _, i, hi => by simp at hi
  | x :: l, ys, h, i, hi => by
    rw [fours_cons, List.append_assoc]
    cases i with
    | zero => exact wordAt_four (h x (by simp)) _
    | succ i =>
      have e : (4 : Nat) * (i + 1) = 4 + 4 * i := by omega
      rw [e, ← wordAt_drop, List.drop_left' (four_len x)]
      exact word_fours l ys (fun y hy => h y (by simp [hy])) i (by simpa using hi)
theorem fours_words {xs : List Int} (h : Byt xs) : ∀ n : Nat, 4 * n ≤ xs.length → fours ((List.range n).map fun i => wordAt xs (4 * i)) = xs.take (4 * n)
  | 0, _ => by simp [fours]
  | n + 1, hn => by
    rw [List.range_succ, List.map_append, fours_app, fours_words h n (by omega)]
    have e : fours (List.map (fun i => wordAt xs (4 * i)) [n]) = four (wordAt xs (4 * n)) := by simp [fours]
    rw [e, four_wordAt h (by omega), show 4 * (n + 1) = 4 * n + 4 by omega, List.take_add]
theorem chunks_len (n : Nat) (xs : List Int) : (chunks n xs).length = n := by simp [chunks]
theorem chunks_flat : ∀ (n : Nat) (xs : List Int), xs.length = 16 * n → (chunks n xs).flatten = xs
  | 0, xs, h => by
    have : xs = [] := List.eq_nil_of_length_eq_zero (by omega)
    subst this; simp [chunks]
  | n + 1, xs, h => by
    have e : chunks (n + 1) xs = xs.take 16 :: chunks n (xs.drop 16) := by
      unfold chunks
      rw [List.range_succ_eq_map, List.map_cons, List.map_map]
      congr 1
      apply List.map_congr_left
      intro i _
      simp only [Function.comp, List.drop_drop]
      rw [show 16 * (i + 1) = 16 + 16 * i by omega]
    rw [e, List.flatten_cons, chunks_flat n (xs.drop 16) (by rw [List.length_drop]; omega), List.take_append_drop]
theorem chunks_each {n : Nat} {xs : List Int} (h : xs.length = 16 * n) : ∀ b ∈ chunks n xs, b.length = 16 := fun b hb => by
  unfold chunks at hb
  obtain ⟨i, hi, rfl⟩ := List.mem_map.1 hb
  rw [List.mem_range] at hi
  rw [List.length_take, List.length_drop]; omega
theorem flat_len : ∀ (l : List (List Int)), (∀ b ∈ l, b.length = 16) → l.flatten.length = 16 * l.length
  | [], _ => rfl
  | b :: l, h => by
    rw [List.flatten_cons, List.length_append, h b (by simp), flat_len l fun x hx => h x (by simp [hx]), List.length_cons]; omega
theorem chunks_of : ∀ (l : List (List Int)), (∀ b ∈ l, b.length = 16) → chunks l.length l.flatten = l
  | [], _ => rfl
  | b :: l, h => by
    have hb := h b (by simp)
    have e : chunks (l.length + 1) (b ++ l.flatten) = (b ++ l.flatten).take 16 :: chunks l.length ((b ++ l.flatten).drop 16) := by
      unfold chunks
      rw [List.range_succ_eq_map, List.map_cons, List.map_map]
      congr 1
      apply List.map_congr_left
      intro i _
      simp only [Function.comp, List.drop_drop]
      rw [show 16 * (i + 1) = 16 + 16 * i by omega]
    rw [List.flatten_cons, List.length_cons, e, List.take_left' hb, List.drop_left' hb, chunks_of l fun x hx => h x (by simp [hx])]
theorem right_c {c : Chk} (h : rightC c = true) : rightB c.z c.p c.b = true ∧ (11 ≤ c.z ∧ c.z ≤ 24) ∧ (4 ≤ c.p ∧ c.p ≤ 16) ∧ (1 ≤ c.b ∧ c.b ≤ 64) ∧ c.dir.length = tabN c.b := by
  unfold rightC at h
  rw [Bool.and_eq_true] at h
  obtain ⟨h1, h2⟩ := h
  obtain ⟨a, b, d, e⟩ := right_facts h1
  have h2 := of_decide_eq_true h2
  exact ⟨h1, a, b, ⟨d, e⟩, by unfold tabN; omega⟩
theorem full_len (c : Chk) : (fullC c).length = 28 + 4 * c.dir.length := by
  unfold fullC numsC
  rw [List.length_append, fours_len, four_len]; simp; omega
theorem bytes_len {c : Chk} (h : rightC c = true) : (bytesC c).length = 16 * manyN c.b := by
  obtain ⟨_, _, _, _, hd⟩ := right_c h
  unfold bytesC
  rw [List.length_append, List.length_replicate, full_len, hd]
  unfold manyN lenN; omega
theorem nums_u32 {c : Chk} (o : ChkOk c) (h : rightC c = true) : ∀ x ∈ numsC c, U32 x := fun x hx => by
  obtain ⟨_, hz, hp, hb, _⟩ := right_c h
  unfold numsC at hx
  simp only [List.cons_append, List.nil_append, List.mem_cons] at hx
  rcases hx with rfl | rfl | rfl | rfl | rfl | rfl | hx
  · exact o.num
  · exact o.ses
  · exact o.seq
  · unfold U32; omega
  · unfold U32; omega
  · unfold U32; omega
  · exact o.dir x hx
theorem words_c {c : Chk} (o : ChkOk c) (h : rightC c = true) (i : Nat) (hi : i < (numsC c).length) : wordAt (bytesC c) (4 * i) = (numsC c)[i] := by
  unfold bytesC fullC
  rw [List.append_assoc]
  exact word_fours _ _ (nums_u32 o h) i hi
theorem sum_c {c : Chk} (h : rightC c = true) : (bytesC c).take (lenN c.b) = fours (numsC c) ∧ wordAt (bytesC c) (lenN c.b) = sumL (fours (numsC c)) ∧ ∀ x ∈ (bytesC c).drop (lenN c.b + 4), x = 0 := by
  obtain ⟨_, _, _, _, hd⟩ := right_c h
  have hl : (fours (numsC c)).length = lenN c.b := by unfold numsC lenN; rw [fours_len, ← hd]; simp; omega
  unfold bytesC fullC
  rw [List.append_assoc]
  refine ⟨List.take_left' hl, ?_, fun x hx => ?_⟩
  · have : wordAt (fours (numsC c) ++ (four (sumL (fours (numsC c))) ++ List.replicate (manyN c.b * 16 - (fours (numsC c) ++ four (sumL (fours (numsC c)))).length) 0)) (lenN c.b + 0) = sumL (fours (numsC c)) := by
      rw [← wordAt_drop, List.drop_left' hl]; exact wordAt_four (sumL_range _) _
    exact this
  · rw [← List.drop_drop, List.drop_left' hl, List.drop_left' (four_len _)] at hx
    exact List.eq_of_mem_replicate hx
/-- A checkpoint comes back from its blocks. -/
theorem back_c {c : Chk} (o : ChkOk c) (h : rightC c = true) : readC (blocksC c).1 = (c, 0) := by
  obtain ⟨hr, hz, hp, hb, hd⟩ := right_c h
  have hbl : blocksC c = (chunks (manyN c.b) (bytesC c), 0) := by unfold blocksC; rw [if_neg (by rw [h]; simp)]
  have hlen := bytes_len h
  have hfl := chunks_flat _ _ hlen
  have hnl : (numsC c).length = 6 + tabN c.b := by unfold numsC; rw [← hd]; simp; omega
  have w : ∀ i (hi : i < 6 + tabN c.b), wordAt (bytesC c) (4 * i) = (numsC c)[i]'(by omega) := fun i hi => words_c o h i (by omega)
  have w0 : wordAt (bytesC c) 0 = c.num := w 0 (by omega)
  have w1 : wordAt (bytesC c) 4 = c.ses := w 1 (by omega)
  have w2 : wordAt (bytesC c) 8 = c.seq := w 2 (by omega)
  have w3 : wordAt (bytesC c) 12 = c.z := w 3 (by omega)
  have w4 : wordAt (bytesC c) 16 = c.p := w 4 (by omega)
  have w5 : wordAt (bytesC c) 20 = c.b := w 5 (by omega)
  obtain ⟨s1, s2, s3⟩ := sum_c h
  rw [hbl]
  unfold readC
  simp only [hfl, chunks_len, w3, w4, w5]
  have hm : 2 ≤ manyN c.b := by unfold manyN lenN; omega
  rw [if_neg (by
    rintro (h1 | h1)
    · omega
    · rw [List.any_eq_true] at h1
      obtain ⟨x, hx, h2⟩ := h1
      exact (of_decide_eq_true h2) (chunks_each hlen x hx)), if_neg (by rw [hr]; simp), if_neg (by simp), if_neg (by rw [s1, s2]; simp), if_neg (by
    intro h1
    rw [List.any_eq_true] at h1
    obtain ⟨x, hx, h2⟩ := h1
    exact (of_decide_eq_true h2) (s3 x hx))]
  unfold chkOf
  rw [w0, w1, w2, w3, w4, w5]
  have hdir : (List.range (tabN c.b)).map (fun i => wordAt (bytesC c) (4 * (6 + i))) = c.dir := by
    apply List.ext_getElem
    · simp [hd]
    · intro i h1 h2
      have hi : i < tabN c.b := by simpa using h1
      simp only [List.getElem_map, List.getElem_range]
      rw [w (6 + i) (by omega)]
      unfold numsC
      rw [List.getElem_append_right (by simp)]
      simp
  rw [hdir]
/- WHAT IS READ. -/
theorem readC_cases (l : List (List Int)) : ((readC l).2 ≠ 0 ∧ (readC l).1 = ck0) ∨
    ((readC l) = (chkOf l.flatten, 0) ∧ 2 ≤ l.length ∧ (∀ b ∈ l, b.length = 16) ∧ rightB (wordAt l.flatten 12) (wordAt l.flatten 16) (wordAt l.flatten 20) = true ∧ l.length = manyN (wordAt l.flatten 20) ∧ sumL (l.flatten.take (lenN (wordAt l.flatten 20))) = wordAt l.flatten (lenN (wordAt l.flatten 20)) ∧ ∀ x ∈ l.flatten.drop (lenN (wordAt l.flatten 20) + 4), x = 0) := by
  unfold readC
  split
  · exact .inl ⟨by decide, rfl⟩
  rename_i h1
  split
  · exact .inl ⟨by decide, rfl⟩
  rename_i h2
  split
  · exact .inl ⟨by decide, rfl⟩
  rename_i h3
  split
  · exact .inl ⟨by decide, rfl⟩
  rename_i h4
  split
  · exact .inl ⟨by decide, rfl⟩
  rename_i h5
  refine .inr ⟨rfl, Nat.le_of_not_lt fun h => h1 (.inl h), fun b hb => Classical.not_not.1 fun h => h1 (.inr (List.any_eq_true.2 ⟨b, hb, decide_eq_true h⟩)), by simpa using h2, Classical.not_not.1 h3, Classical.not_not.1 h4, fun x hx => Classical.not_not.1 fun h => h5 (List.any_eq_true.2 ⟨x, hx, decide_eq_true h⟩)⟩
theorem flat_byt {l : List (List Int)} (h : ∀ b ∈ l, Byt b) : Byt l.flatten := fun x hx => by
  obtain ⟨b, hb, hx⟩ := List.mem_flatten.1 hx
  exact h b hb x hx
theorem range_add (a b : Nat) : List.range (a + b) = List.range a ++ (List.range b).map (a + ·) := by
  apply List.ext_getElem?
  intro i
  rw [List.getElem?_append]
  simp only [List.length_range]
  by_cases h : i < a
  · rw [if_pos h, List.getElem?_range (by omega), List.getElem?_range h]
  · rw [if_neg h, List.getElem?_map]
    by_cases h2 : i - a < b
    · rw [List.getElem?_range h2, List.getElem?_range (by omega)]; simp; omega
    · rw [List.getElem?_eq_none (by simp; omega), List.getElem?_eq_none (by simp; omega)]; rfl
theorem nums_of (B : List Int) : numsC (chkOf B) = (List.range (6 + tabN (wordAt B 20))).map fun i => wordAt B (4 * i) := by
  rw [range_add, List.map_append, List.map_map]
  rfl
/-- What comes back has just those blocks. -/
theorem of_read {l : List (List Int)} (hb : ∀ b ∈ l, Byt b) (h : (readC l).2 = 0) : rightC (readC l).1 = true ∧ ChkOk (readC l).1 ∧ blocksC (readC l).1 = (l, 0) := by
  rcases readC_cases l with ⟨h1, _⟩ | ⟨e, h2, h16, hr, hm, hs, hp⟩
  · exact (h1 h).elim
  rw [e]
  simp only []
  have hB := flat_byt hb
  have hlen := flat_len l h16
  generalize hBB : l.flatten = B at *
  obtain ⟨_, _, hn1, hn2⟩ := right_facts hr
  have hrc : rightC (chkOf B) = true := by
    unfold rightC chkOf
    simp only [List.length_map, List.length_range]
    rw [hr, Bool.true_and, decide_eq_true_iff]
    unfold tabN; omega
  have hlN : lenN (wordAt B 20) + 4 ≤ B.length := by rw [hlen, hm]; unfold manyN; omega
  have hf : fours (numsC (chkOf B)) = B.take (lenN (wordAt B 20)) := by
    rw [nums_of, fours_words hB _ (by unfold lenN at hlN; omega)]
    congr 1
    unfold lenN; omega
  have hfull : fullC (chkOf B) = B.take (lenN (wordAt B 20) + 4) := by
    unfold fullC
    rw [hf, hs, four_wordAt hB hlN, ← List.take_add]
  have hbb : bytesC (chkOf B) = B := by
    unfold bytesC
    rw [hfull]
    have hz : List.replicate (manyN (chkOf B).b * 16 - (B.take (lenN (wordAt B 20) + 4)).length) 0 = B.drop (lenN (wordAt B 20) + 4) := by
      symm
      rw [List.eq_replicate_iff]
      refine ⟨?_, hp⟩
      rw [List.length_drop, List.length_take, Nat.min_eq_left hlN, hlen, hm, Nat.mul_comm]
      rfl
    rw [hz, List.take_append_drop]
  refine ⟨hrc, ⟨wordAt_range hB _, wordAt_range hB _, wordAt_range hB _, fun x hx => ?_⟩, ?_⟩
  · obtain ⟨i, _, rfl⟩ := List.mem_map.1 hx
    exact wordAt_range hB _
  · unfold blocksC
    rw [if_neg (by rw [hrc]; simp), hbb]
    have e2 : manyN (chkOf B).b = l.length := hm.symm
    rw [e2, ← hBB, chunks_of l h16]
/- OF BLOCKS OF WHICH ONE BYTE IS ANOTHER ONE. -/
theorem low_range : ∀ (xs : List Int), Byt xs → 0 ≤ low xs ∧ low xs ≤ 255 * xs.length
  | [], _ => by simp [low]
  | x :: l, h => by
    have h1 := low_range l fun y hy => h y (by simp [hy])
    have h2 := h x (by simp)
    have e := low_one [] l x
    simp only [List.nil_append] at e
    have e0 : low [] = 0 := rfl
    rw [e, e0, List.length_cons]; omega
theorem sum_ne {xs : List Int} (h : Byt xs) (hl : xs.length ≤ 200) : sumL xs ≠ 0 := by
  have h1 := adl_low xs (1, 0)
  have h2 := adl_in xs _ in10
  have h3 := low_range xs h
  unfold sumL enc
  generalize adl (1, 0) xs = s at h1 h2
  obtain ⟨⟨a, b⟩, c, d⟩ := h2
  simp only [] at h1
  omega
theorem word_zero {xs : List Int} {i : Nat} (h : ∀ j, j < 4 → bys xs (i + j) = 0) : wordAt xs i = 0 := by
  unfold wordAt
  have h0 := h 0 (by omega)
  rw [Nat.add_zero] at h0
  rw [h0, h 1 (by omega), h 2 (by omega), h 3 (by omega)]; rfl
theorem word_ext {xs ys : List Int} {i : Nat} (h : ∀ j, j < 4 → bys xs (i + j) = bys ys (i + j)) : wordAt xs i = wordAt ys i := by
  unfold wordAt
  have h0 := h 0 (by omega)
  rw [Nat.add_zero] at h0
  rw [h0, h 1 (by omega), h 2 (by omega), h 3 (by omega)]
theorem bys_set (xs : List Int) (k : Nat) (b : Int) (i : Nat) (h : i ≠ k) : bys (xs.set k b) i = bys xs i := by
  unfold bys
  rw [List.getD_eq_getElem?_getD, List.getD_eq_getElem?_getD, List.getElem?_set_ne (Ne.symm h)]
theorem pad_bys {xs : List Int} {n i : Nat} (h : ∀ x ∈ xs.drop n, x = 0) (hi : n ≤ i) : bys xs i = 0 := by
  unfold bys
  rw [List.getD_eq_getElem?_getD]
  cases hx : xs[i]? with
  | none => rfl
  | some x => exact h x (List.mem_of_getElem? (i := i - n) (by rw [List.getElem?_drop, show n + (i - n) = i by omega]; exact hx))
/-- Two readings that may be, and differ in one byte, are none. -/
theorem one_byte {B : List Int} {k : Nat} {b : Int} (hB : Byt B) (hb : 0 ≤ b ∧ b < 256) (hk : k < B.length) (hne : bys B k ≠ b)
    {n m : Int} (hn : 1 ≤ n ∧ n ≤ 64) (hm : 1 ≤ m ∧ m ≤ 64) (en : n = wordAt B 20) (em : m = wordAt (B.set k b) 20) (ln : lenN n + 4 ≤ B.length) (_lm : lenN m + 4 ≤ B.length)
    (s1 : sumL (B.take (lenN n)) = wordAt B (lenN n)) (s2 : sumL ((B.set k b).take (lenN m)) = wordAt (B.set k b) (lenN m))
    (p1 : ∀ x ∈ B.drop (lenN n + 4), x = 0) (p2 : ∀ x ∈ (B.set k b).drop (lenN m + 4), x = 0) : False := by
  have tn : lenN n ≤ 88 := by unfold lenN tabN; omega
  have tm : lenN m ≤ 88 := by unfold lenN tabN; omega
  have t24 : 24 ≤ lenN n ∧ 24 ≤ lenN m := by unfold lenN; omega
  have hB' : Byt (B.set k b) := fun x hx => by
    rcases List.mem_or_eq_of_mem_set hx with h | h
    · exact hB x h
    · rw [h]; exact hb
  have k24 : lenN n ≠ lenN m → 20 ≤ k ∧ k < 24 := fun h => by
    refine Classical.byContradiction fun hc => h ?_
    have : wordAt (B.set k b) 20 = wordAt B 20 := word_ext fun j hj => bys_set _ _ _ _ (by omega)
    rw [en, em, this]
  rcases Nat.lt_trichotomy (lenN n) (lenN m) with hlt | heq | hlt
  · obtain ⟨_, hk2⟩ := k24 (by omega)
    have h4 : lenN n + 4 ≤ lenN m := by unfold lenN at hlt ⊢; omega
    exact sum_ne (hB'.take _) (by rw [List.length_take]; omega) (s2.trans (word_zero fun j hj => by rw [bys_set _ _ _ _ (by omega)]; exact pad_bys p1 (by omega)))
  · rw [← heq] at s2 p2
    by_cases h1 : k < lenN n
    · have e1 : B.take (lenN n) = B.take k ++ bys B k :: (B.take (lenN n)).drop (k + 1) := by
        have h2 : k < (B.take (lenN n)).length := by rw [List.length_take]; omega
        have := List.take_append_drop k (B.take (lenN n))
        rw [List.drop_eq_getElem_cons h2, List.take_take, Nat.min_eq_left (by omega)] at this
        have e : (B.take (lenN n))[k] = bys B k := by rw [bys_get hk]; simp
        rw [← e]; exact this.symm
      have e2 : (B.set k b).take (lenN n) = B.take k ++ b :: (B.take (lenN n)).drop (k + 1) := by
        rw [List.take_set]
        have h2 : k < (B.take (lenN n)).length := by rw [List.length_take]; omega
        rw [List.set_eq_take_append_cons_drop, if_pos h2, List.take_take, Nat.min_eq_left (by omega)]
      have e3 : wordAt (B.set k b) (lenN n) = wordAt B (lenN n) := word_ext fun j hj => bys_set _ _ _ _ (by omega)
      rw [e3, ← s1, e1, e2] at s2
      exact sum_changed hb (hB.get k) (Ne.symm hne) s2
    · by_cases h2 : k < lenN n + 4
      · have e2 : (B.set k b).take (lenN n) = B.take (lenN n) := by rw [List.take_set, List.set_eq_of_length_le (by rw [List.length_take]; omega)]
        rw [e2, s1] at s2
        have f1 := four_wordAt hB (i := lenN n) ln
        have f2 := four_wordAt hB' (i := lenN n) (by rw [List.length_set]; exact ln)
        rw [← s2, f1] at f2
        have f3 : bys ((B.drop (lenN n)).take 4) (k - lenN n) = bys (((B.set k b).drop (lenN n)).take 4) (k - lenN n) := by rw [f2]
        rw [bys_take (by omega), bys_take (by omega), bys_drop, bys_drop, show lenN n + (k - lenN n) = k by omega] at f3
        refine hne (f3.trans ?_)
        rw [bys_get (by rw [List.length_set]; exact hk)]; simp
      · have f1 := pad_bys p1 (show lenN n + 4 ≤ k by omega)
        have f2 := pad_bys p2 (show lenN n + 4 ≤ k by omega)
        rw [bys_get (by rw [List.length_set]; exact hk)] at f2
        simp at f2
        exact hne (by rw [f1, f2])
  · obtain ⟨_, hk2⟩ := k24 (by omega)
    have h4 : lenN m + 4 ≤ lenN n := by unfold lenN at hlt ⊢; omega
    exact sum_ne (hB.take _) (by rw [List.length_take]; omega) (s1.trans (word_zero fun j hj => by
      have := pad_bys (i := lenN n + j) p2 (by omega)
      rwa [bys_set _ _ _ _ (by omega)] at this))
theorem flat_set : ∀ (l : List (List Int)), (∀ b ∈ l, b.length = 16) → ∀ (i : Nat) (hi : i < l.length) (at_ : Nat), at_ < 16 → ∀ (b : Int), (l.set i (l[i].set at_ b)).flatten = l.flatten.set (16 * i + at_) b
  | [], _, i, hi, _, _, _ => by simp at hi
  | x :: l, h, i, hi, at_, ha, b => by
    have hx := h x (by simp)
    cases i with
    | zero =>
      simp only [List.set_cons_zero, List.getElem_cons_zero, List.flatten_cons, Nat.mul_zero, Nat.zero_add]
      rw [List.set_append_left _ _ (by omega)]
    | succ i =>
      simp only [List.set_cons_succ, List.getElem_cons_succ, List.flatten_cons]
      rw [flat_set l (fun y hy => h y (by simp [hy])) i (by simpa using hi) at_ ha b, List.set_append_right _ _ (by omega)]
      congr 2; omega
theorem flat_bys : ∀ (l : List (List Int)), (∀ b ∈ l, b.length = 16) → ∀ (i : Nat) (hi : i < l.length) (at_ : Nat), at_ < 16 → bys l.flatten (16 * i + at_) = bys l[i] at_
  | [], _, i, hi, _, _ => by simp at hi
  | x :: l, h, i, hi, at_, ha => by
    have hx := h x (by simp)
    cases i with
    | zero =>
      simp only [List.getElem_cons_zero, List.flatten_cons, Nat.mul_zero, Nat.zero_add]
      exact bys_left (by omega)
    | succ i =>
      simp only [List.getElem_cons_succ, List.flatten_cons]
      rw [show 16 * (i + 1) + at_ = x.length + (16 * i + at_) by omega, bys_right]
      exact flat_bys l (fun y hy => h y (by simp [hy])) i (by simpa using hi) at_ ha
theorem bytes_byt (c : Chk) : Byt (bytesC c) := by
  unfold bytesC fullC
  refine ((fours_byt _).app (four_byt _)).app fun x hx => ?_
  rw [List.eq_of_mem_replicate hx]; omega
/-- Blocks of which one byte is another one are none. -/
theorem changed_c {c : Chk} (o : ChkOk c) (h : rightC c = true) {i at_ : Nat} {b : Int} (ha : at_ < 16) (hb : 0 ≤ b ∧ b < 256) (hl : i < (blocksC c).1.length) (hne : bys (blocksC c).1[i] at_ ≠ b) : (readC ((blocksC c).1.set i ((blocksC c).1[i].set at_ b))).2 ≠ 0 := by
  intro hz
  have hbl : blocksC c = (chunks (manyN c.b) (bytesC c), 0) := by unfold blocksC; rw [if_neg (by rw [h]; simp)]
  have hlen := bytes_len h
  have h16 := chunks_each hlen
  have hfl := chunks_flat _ _ hlen
  have hbk := back_c o h
  rw [hbl] at hbk
  simp only [hbl] at hz hl hne
  generalize hL : chunks (manyN c.b) (bytesC c) = L at *
  have hB := bytes_byt c
  have hLl : L.length = manyN c.b := by rw [← hL, chunks_len]
  have hk : 16 * i + at_ < L.flatten.length := by rw [hfl, hlen]; omega
  rcases readC_cases L with ⟨h1, _⟩ | ⟨_, _, _, hr, hm, hs, hp⟩
  · rw [hbk] at h1; exact (h1 rfl).elim
  rcases readC_cases (L.set i (L[i].set at_ b)) with ⟨h1, _⟩ | ⟨_, _, _, hr', hm', hs', hp'⟩
  · exact h1 hz
  rw [flat_set L h16 i hl at_ ha b] at hr' hm' hs' hp'
  rw [List.length_set] at hm'
  obtain ⟨_, _, n1, n2⟩ := right_facts hr
  obtain ⟨_, _, m1, m2⟩ := right_facts hr'
  have hFl : L.flatten.length = 16 * L.length := flat_len L h16
  have hBB : Byt L.flatten := by rw [hfl]; exact hB
  refine one_byte hBB hb hk (by rw [flat_bys L h16 i hl at_ ha]; exact hne) ⟨n1, n2⟩ ⟨m1, m2⟩ rfl rfl ?_ ?_ hs hs' hp hp'
  · rw [hFl, hm]; unfold manyN; omega
  · rw [hFl, hm']; unfold manyN; omega
/-- One block less: none. -/
theorem short_c {c : Chk} (o : ChkOk c) (h : rightC c = true) : (readC ((blocksC c).1.take ((blocksC c).1.length - 1))).2 ≠ 0 := by
  intro hz
  have hbl : blocksC c = (chunks (manyN c.b) (bytesC c), 0) := by unfold blocksC; rw [if_neg (by rw [h]; simp)]
  have hlen := bytes_len h
  have h16 := chunks_each hlen
  have hfl := chunks_flat _ _ hlen
  have hbk := back_c o h
  rw [hbl] at hbk
  simp only [hbl] at hz
  have hLl := chunks_len (manyN c.b) (bytesC c)
  generalize chunks (manyN c.b) (bytesC c) = L at *
  rcases readC_cases L with ⟨h1, _⟩ | ⟨_, _, _, hr, hm, _⟩
  · rw [hbk] at h1; exact (h1 rfl).elim
  rcases readC_cases (L.take (L.length - 1)) with ⟨h1, _⟩ | ⟨_, h2, _, hr', hm', _⟩
  · exact h1 hz
  rw [List.length_take] at h2 hm'
  have hF : L.flatten = (L.take (L.length - 1)).flatten ++ (L.drop (L.length - 1)).flatten := by rw [← List.flatten_append, List.take_append_drop]
  have hTl : (L.take (L.length - 1)).flatten.length = 16 * (L.length - 1) := by
    rw [flat_len _ fun b hb => h16 b (List.mem_of_mem_take hb), List.length_take]; omega
  have e : wordAt L.flatten 20 = wordAt (L.take (L.length - 1)).flatten 20 := by
    rw [hF]
    exact word_ext fun j hj => bys_left (by omega)
  rw [← e, ← hm] at hm'
  omega
/-- Two are the same just if their blocks are. -/
theorem alike_c {c d : Chk} (o : ChkOk c) (h : rightC c = true) (o' : ChkOk d) (h' : rightC d = true) : (blocksC c).1 = (blocksC d).1 ↔ c = d := by
  constructor
  · intro e
    have h1 := back_c o h
    rw [e, back_c o' h'] at h1
    exact (Prod.mk.inj h1).1.symm
  · rintro rfl; rfl
end Go.Proofs.YthimfpkkdhpceaaDoor.Ck
