/-
  Pages and their heads: plain laws; heads compared.
-/
import Derived.Test.YtgohecjnjadnpaaDoorHead
import Derived.LaidEql
namespace Go.Proofs.YtgohecjnjadnpaaDoor.HdP
open Go.Pl Go.Proofs.YtgohecjnjadnpaaDoor.W Go.Proofs.YtgohecjnjadnpaaDoor.Four Go.Proofs.YtgohecjnjadnpaaDoor.Byts Go.Proofs.YtgohecjnjadnpaaDoor.Adl Go.Proofs.YtgohecjnjadnpaaDoor.As Go.Proofs.YtgohecjnjadnpaaDoor.Head
theorem pageL_len (x : Hd) {bs : List Int} (h : bs.length = 16) : (pageL x bs).length = 33 := by simp [pageL, headL_len, four_len, h]
theorem pageL_byt {x : Hd} {bs : List Int} (hx : HdOk x) (hb : Byt bs) : Byt (pageL x bs) := ((headL_byt hx).app (four_byt _)).app hb
theorem pageL_take (x : Hd) (bs : List Int) : (pageL x bs).take 13 = headL x := by
  unfold pageL; rw [List.append_assoc, List.take_append_of_le_length (by rw [headL_len]; omega), List.take_of_length_le (by rw [headL_len]; omega)]
theorem pageL_drop (x : Hd) (bs : List Int) : (pageL x bs).drop 17 = bs := by
  unfold pageL
  have : (headL x ++ four (sumL (headL x ++ bs))).length = 17 := by rw [List.length_append, headL_len, four_len]
  rw [← this, List.drop_left]
theorem pageL_drop13 (x : Hd) (bs : List Int) : (pageL x bs).drop 13 = four (sumL (headL x ++ bs)) ++ bs := by
  unfold pageL
  rw [List.append_assoc, ← headL_len x, List.drop_left]
theorem pageL_sum (x : Hd) (bs : List Int) : wordAt (pageL x bs) 13 = sumL (headL x ++ bs) := by
  have := wordAt_drop (pageL x bs) 13 0
  rw [pageL_drop13, wordAt_four (sumL_range _)] at this
  rw [this]
theorem bys_headL (x : Hd) (bs : List Int) {i : Nat} (hi : i < 13) : bys (pageL x bs) i = bys (headL x) i := by
  rw [← bys_take (xs := pageL x bs) hi, pageL_take]
theorem hdOf_pageL {x : Hd} (hx : HdOk x) (bs : List Int) : hdOf (pageL x bs) = x := by
  obtain ⟨k, s, i, q⟩ := x
  obtain ⟨h0, h1, h2, h3⟩ := hx
  simp only [] at h0 h1 h2 h3
  have e0 : bys (pageL (k, s, i, q) bs) 0 = k := by rw [bys_headL _ _ (by omega)]; rfl
  have w : ∀ (j : Nat), j < 10 → wordAt (pageL (k, s, i, q) bs) j = wordAt (headL (k, s, i, q)) j := fun j hj => by
    simp only [wordAt, bys_headL _ _ (show j < 13 by omega), bys_headL _ _ (show j + 1 < 13 by omega), bys_headL _ _ (show j + 2 < 13 by omega), bys_headL _ _ (show j + 3 < 13 by omega)]
  have e1 : wordAt (pageL (k, s, i, q) bs) 1 = s := by rw [w 1 (by omega)]; exact back_four h1
  have e2 : wordAt (pageL (k, s, i, q) bs) 5 = i := by rw [w 5 (by omega)]; exact back_four h2
  have e3 : wordAt (pageL (k, s, i, q) bs) 9 = q := by rw [w 9 (by omega)]; exact back_four h3
  simp only [hdOf, e0, e1, e2, e3]
theorem read_page {x : Hd} (hx : HdOk x) {bs : List Int} (h : bs.length = 16) (hr : isR x = true) : readF (pageL x bs) = (x, bs, 0) := by
  unfold readF
  rw [if_neg (by rw [pageL_len x h]; omega), if_neg (by rw [pageL_take, pageL_drop, pageL_sum]; simp), if_neg (by rw [hdOf_pageL hx, hr]; simp), hdOf_pageL hx, pageL_drop]
theorem bytesF_cases (x : Hd) (bs : List Int) : ((bytesF x bs).2 = 0 ∧ isR x = true ∧ bs.length = 16 ∧ bytesF x bs = (pageL x bs, 0)) ∨ ((bytesF x bs).2 ≠ 0 ∧ (bytesF x bs).1 = [] ∧ ¬ (isR x = true ∧ bs.length = 16)) := by
  unfold bytesF
  split
  · rename_i h; exact .inr ⟨by simp, rfl, fun e => by rw [e.1] at h; cases h⟩
  · rename_i h
    split
    · rename_i h2; exact .inr ⟨by simp, rfl, fun e => h2 e.2⟩
    · rename_i h2; exact .inl ⟨rfl, by cases e : isR x <;> simp_all, Classical.not_not.1 h2, rfl⟩
theorem readF_bad {p : List Int} (h : (readF p).2.2 ≠ 0) : (readF p).1 = (0, 0, 0, 0) ∧ (readF p).2.1 = [] := by
  unfold readF at h ⊢
  split
  · exact ⟨rfl, rfl⟩
  · rename_i h1
    rw [if_neg h1] at h
    split
    · exact ⟨rfl, rfl⟩
    · rename_i h2
      rw [if_neg h2] at h
      split
      · exact ⟨rfl, rfl⟩
      · rename_i h3
        rw [if_neg h3] at h; exact (h rfl).elim
theorem hd_eq (x y : Hd) : ∀ w, (Op.equal 24 (hdV x) (hdV y)).run Tryd.prog w = .ok (decide (x = y)) w := by
  intro w
  obtain ⟨x0, x1, x2, x3⟩ := x
  obtain ⟨y0, y1, y2, y3⟩ := y
  have hS : Tryd.prog.underlying 24 = some (.struct (Tryd.prog.fieldsOf 24)) := by kernel_rfl
  have hp : Tryd.prog.stoodInHeld 24 = false := by kernel_rfl
  have u3 := Tryd.underlying5
  have a3 := Tryd.isAgg5
  have z3 := Tryd.sizeOf5
  have u4 := Tryd.underlying22
  have a4 := Tryd.isAgg22
  have z4 := Tryd.sizeOf22
  show ((Op.equalIn (9999 + 1) 24 (.agg _) (.agg _)).run _ _) = _
  rw [run_equalIn_agg w 9999 24 _ _ hS hp]
  simp only [Program.fieldsOf, Tryd.underlying24]
  go_simp
  by_cases h1 : x0 = y0 <;> by_cases h2 : x1 = y1 <;> by_cases h3 : x2 = y2 <;> by_cases h4 : x3 = y3 <;> simp [h1, h2, h3, h4]
end Go.Proofs.YtgohecjnjadnpaaDoor.HdP
