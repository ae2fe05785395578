/-
  What the laws of layer 5 (body) come to.
-/
import Derived.Test.YtogeildomhahjaaDoorWL5
import Derived.Test.YtogeildomhahjaaDoorR5
import Derived.Test.YtogeildomhahjaaDoorSame3
namespace Go.Proofs.YtogeildomhahjaaDoor.L5
open Go.Pl Go.Proofs.YtogeildomhahjaaDoor.W Go.Proofs.YtogeildomhahjaaDoor.Four Go.Proofs.YtogeildomhahjaaDoor.As Go.Proofs.YtogeildomhahjaaDoor.Body Go.Proofs.YtogeildomhahjaaDoor.R5
theorem placesF_back {l : Pls} (h : PlsOk l) : placesF (plsB l) = (l, 0) := by
  rw [placesF, if_pos (plsB_len l), plsOf_plsB h]
theorem okOf {a b c d : Int} (ha : 0 ≤ a ∧ a < 4294967296) (hb : 0 ≤ b ∧ b < 4294967296) (hc : 0 ≤ c ∧ c < 4294967296) (hd : 0 ≤ d ∧ d < 4294967296) : PlsOk (a, b, c, d) := by
  intro j
  match j with
  | 0 => exact ha
  | 1 => exact hb
  | 2 => exact hc
  | n + 3 => exact hd
theorem trimOk {m : Int} (h : 0 ≤ m ∧ m < 4294967296) : PlsOk (m, 0, 0, 0) := okOf h (by decide) (by decide) (by decide)
theorem trimF_back {m : Int} (h : 0 ≤ m ∧ m < 4294967296) : trimF (plsB (m, 0, 0, 0)) = if m = 0 then (0, 2) else (m, 0) := by
  have e := plsOf_plsB (trimOk h)
  have e0 : wordOf (plsB (m, 0, 0, 0)) 0 = m := congrArg Prod.fst e
  rw [trimF, if_neg (by rw [plsB_len]; omega), e, e0]
  by_cases hm : m = 0
  · rw [if_pos (.inl hm), if_pos hm]
  · rw [if_neg (by simp [hm]), if_neg hm]
theorem pOk1 : PlsOk (1, 0, 258, 0) := okOf (by decide) (by decide) (by decide) (by decide)
theorem awake_ok (h : Heap) (hg : Laid h) : CallsH Tryd.prog 12 [] h fun v h' => v = .bool true ∧ New h h' := by
  refine fun_ok hm' Tryd.func12 (by kernel_rfl) (F12_eq _ h) ?_
  unfold F12
  refine call_of (Body.ofPlaces_ok (1, 0, 258, 0) h) ?_
  rintro v h1 ⟨a, c, rfl, o1, n1⟩
  refine ⟨(a, (plsB (1, 0, 258, 0)).length, c), rfl, call_of (bPlaces_ok a c (plsB (1, 0, 258, 0)) h1 (plsB_byt _) (Ar.own o1)) ?_⟩
  rintro v h2 ⟨rfl, n2⟩
  rw [placesF_back pOk1]
  refine ⟨(((1, 0, 258, 0) : Pls), errV 0), rfl, new_stL (by rw [Body.zeroP]; rfl) fun h3 b3 n3 s3 => ?_⟩
  refine call_of (ofTrim_ok 7 h3) ?_
  rintro v h4 ⟨a4, c4, rfl, o4, n4⟩
  refine ⟨(a4, (plsB (7, 0, 0, 0)).length, c4), rfl, call_of (R5.bTrim_ok a4 c4 (plsB (7, 0, 0, 0)) h4 (plsB_byt _) (Ar.own o4)) ?_⟩
  rintro v h5 ⟨rfl, n5⟩
  rw [trimF_back (by decide), if_neg (by decide)]
  refine ⟨((7 : Int), errV 0), rfl, call_of (ofTrim_ok 0 h5) ?_⟩
  rintro v h6 ⟨a6, c6, rfl, o6, n6⟩
  refine ⟨(a6, (plsB (0, 0, 0, 0)).length, c6), rfl, call_of (R5.bTrim_ok a6 c6 (plsB (0, 0, 0, 0)) h6 (plsB_byt _) (Ar.own o6)) ?_⟩
  rintro v h7 ⟨rfl, n7⟩
  rw [trimF_back (by decide), if_pos rfl]
  refine ⟨((0 : Int), errV 2), rfl, new_of fun h8 b8 n8 s8 => ?_⟩
  have n38 := (((n4.trans n5).trans n6).trans n7).trans n8
  have n08 := ((n1.trans n2).trans n3).trans n38
  refine call_of (Same3.same_ok _ _ _ _ _ _ h8 (plsB (1, 0, 258, 0)) [1, 0, 0, 0, 0, 0, 0, 0, 2, 1, 0, 0, 0, 0, 0, 0] rfl rfl (show (16 : Nat) ≤ 9223372036854775806 by omega) ((Ar.own o1).new ((n2.trans n3).trans n38)) (Ar.blk b8)) ?_
  rintro v h' ⟨rfl, hh⟩
  subst h'
  refine ⟨true, by rw [decide_eq_true (by decide)]; rfl, br_t rfl (ldAgg_blk ((1, 0, 258, 0) : Pls) (b3.new n38) ⟨rfl, rfl, rfl, rfl, trivial⟩ ⟨_, pls_eq (1, 0, 258, 0) (1, 0, 258, 0), br_t (by simp) ⟨errV_if 0, br_t rfl (br_t rfl ⟨errV_if 0, br_t rfl (call_of (code_err 2 h8 (hg.new n08)) ?_)⟩)⟩⟩)⟩
  rintro v h9 ⟨rfl, n9⟩
  exact ⟨(2 : Int), rfl, rfl, n08.trans n9⟩
theorem tells_law (h : Heap) (v0 v1 v2 : Value) (l : Pls) (m : Int) (xs : List Int) (r0 : ReadsV h (.pair (.int .u32) (.pair (.int .u32) (.pair (.int .u32) (.int .u32)))) v0 l) (r1 : ReadsV h (.int .u32) v1 m) (r2 : ReadsV h (.slice (.int .u8)) v2 xs) (hg : Laid h) :
    CallsH Tryd.prog 3 [v0, v1, v2] h fun v h' => v = .bool true ∧ New h h' := by
  obtain ⟨cs, rfl, c1, d1, rfl, ⟨rfl, w1⟩, c2, d2, rfl, ⟨rfl, w2⟩, c3, d3, rfl, ⟨rfl, w3⟩, ⟨rfl, w4⟩⟩ := r0
  obtain ⟨cs, hcs, e1, wm⟩ := r1
  simp only at hcs; subst hcs; injection e1 with e1; subst e1
  obtain ⟨a, c, rfl, hlc, hcm, hnil, ar, hwf⟩ := Ar.reads r2
  have hb := Byt.wf hwf
  have hl : PlsOk l := okOf (u32_wf w1) (u32_wf w2) (u32_wf w3) (u32_wf w4)
  have hm := u32_wf wm
  refine fun_ok hm' Tryd.func3 (by kernel_rfl) (F3_eq l.1 l.2.1 l.2.2.1 l.2.2.2 m a xs.length c _ h) ?_
  unfold F3
  refine new_of fun h1 b1 n1 s1 => call_of (awake_ok h1 (hg.new n1)) ?_
  rintro v h2 ⟨rfl, n2⟩
  refine ⟨true, rfl, br_f rfl (br_of (fun _ => ⟨rfl, n1.trans n2⟩) fun hlen => ?_)⟩
  have hlen : xs.length ≤ 1000 := by simp at hlen; omega
  refine call_of (bPlaces_ok a c xs h2 hb (ar.new (n1.trans n2))) ?_
  rintro v h3 ⟨rfl, n3⟩
  refine ⟨((placesF xs).1, errV (placesF xs).2), rfl, new_stL (by rw [Body.zeroP]; rfl) fun h4 b4 n4 s4 => ?_⟩
  have n04 := ((n1.trans n2).trans n3).trans n4
  refine call_of (R5.toPlaces_ok a c xs h4 hb (ar.new n04)) ?_
  rintro v h5 ⟨rfl, n5⟩
  refine ⟨((placesF xs).1, (placesF xs).2), rfl, new_stL (by rw [wordsZ]; rfl) fun h6 b6 n6 s6 => ?_⟩
  have n06 := (n04.trans n5).trans n6
  refine call_of (R5.bTrim_ok a c xs h6 hb (ar.new n06)) ?_
  rintro v h7 ⟨rfl, n7⟩
  refine ⟨((trimF xs).1, errV (trimF xs).2), rfl, call_of (R5.toTrim_ok a c xs h7 hb (ar.new (n06.trans n7))) ?_⟩
  rintro v h8 ⟨rfl, n8⟩
  have n68 := n7.trans n8
  have n08 := n06.trans n68
  have n18 : New h1 h8 := ((((n2.trans n3).trans n4).trans n5).trans n6).trans n68
  refine ⟨((trimF xs).1, (trimF xs).2), rfl, ldAgg_blk l (b1.new n18) ⟨rfl, rfl, rfl, rfl, trivial⟩ (ldAgg_blk l (b1.new n18) ⟨rfl, rfl, rfl, rfl, trivial⟩ (call_of (Body.ofPlaces_ok l h8) ?_))⟩
  rintro v h9 ⟨a9, c9, rfl, o9, n9⟩
  refine ⟨(a9, (plsB l).length, c9), rfl, call_of (R5.ofPlaces_ok l hl h9) ?_, n9.ext⟩
  rintro v h10 ⟨a10, c10, rfl, o10, n10⟩
  refine ⟨(a10, (plsB l).length, c10), rfl, Same3.same_q _ _ _ _ _ _ h10 (plsB l) (plsB l) rfl rfl (by rw [plsB_len]; omega) ((Ar.own o9).new n10) (Ar.own o10) ?_, n10.ext⟩
  refine br_t (by simp) (call_of (ofTrim_ok m h10) ?_)
  rintro v h11 ⟨a11, c11, rfl, o11, n11⟩
  refine ⟨(a11, (plsB (m, 0, 0, 0)).length, c11), rfl, call_of (R5.ofPlaces_ok (m, 0, 0, 0) (trimOk hm) h11) ?_, n11.ext⟩
  rintro v h12 ⟨a12, c12, rfl, o12, n12⟩
  refine ⟨(a12, (plsB (m, 0, 0, 0)).length, c12), rfl, Same3.same_q _ _ _ _ _ _ h12 (plsB (m, 0, 0, 0)) (plsB (m, 0, 0, 0)) rfl rfl (by rw [plsB_len]; omega) ((Ar.own o11).new n12) (Ar.own o12) ?_, n12.ext⟩
  have n812 := ((n9.trans n10).trans n11).trans n12
  have n012 := n08.trans n812
  refine br_t (by simp) (ldAgg_blk (placesF xs).1 (b4.new (((n5.trans n6).trans n68).trans n812)) ⟨rfl, rfl, rfl, rfl, trivial⟩ (ldAgg_blk (placesF xs).1 (b6.new (n68.trans n812)) ⟨rfl, rfl, rfl, rfl, trivial⟩ ⟨_, pls_eq (placesF xs).1 (placesF xs).1, br_t (by simp) (call_of (code_err (placesF xs).2 h12 (hg.new n012)) ?_)⟩))
  rintro v h13 ⟨rfl, n13⟩
  refine ⟨(placesF xs).2, rfl, br_t (by simp) (br_t (by simp) (call_of (code_err (trimF xs).2 h13 (hg.new (n012.trans n13))) ?_)), n13.ext⟩
  rintro v h14 ⟨rfl, n14⟩
  exact ⟨(trimF xs).2, rfl, ⟨by simp, n012.trans (n13.trans n14)⟩, n14.ext⟩
theorem backPls {xs : List Int} (hb : Byt xs) : PlsOk (placesF xs).1 := by
  unfold placesF; split
  · exact plsOf_ok hb
  · exact okOf (by decide) (by decide) (by decide) (by decide)
theorem trim_range {xs : List Int} (hb : Byt xs) : 0 ≤ (trimF xs).1 ∧ (trimF xs).1 < 4294967296 := by
  have := plsOf_ok hb 0
  unfold trimF
  split
  · exact ⟨by decide, by decide⟩
  · split
    · exact ⟨by decide, by decide⟩
    · exact this
theorem back_law (h : Heap) (v0 v1 v2 : Value) (l : Pls) (m : Int) (xs : List Int) (r0 : ReadsV h (.pair (.int .u32) (.pair (.int .u32) (.pair (.int .u32) (.int .u32)))) v0 l) (r1 : ReadsV h (.int .u32) v1 m) (r2 : ReadsV h (.slice (.int .u8)) v2 xs) (hg : Laid h) :
    CallsH Tryd.prog 4 [v0, v1, v2] h fun v h' => v = .bool true ∧ New h h' := by
  obtain ⟨cs, rfl, c1, d1, rfl, ⟨rfl, w1⟩, c2, d2, rfl, ⟨rfl, w2⟩, c3, d3, rfl, ⟨rfl, w3⟩, ⟨rfl, w4⟩⟩ := r0
  obtain ⟨cs, hcs, e1, wm⟩ := r1
  simp only at hcs; subst hcs; injection e1 with e1; subst e1
  obtain ⟨a, c, rfl, hlc, hcm, hnil, ar, hwf⟩ := Ar.reads r2
  have hb := Byt.wf hwf
  have hl : PlsOk l := okOf (u32_wf w1) (u32_wf w2) (u32_wf w3) (u32_wf w4)
  have hm := u32_wf wm
  refine fun_ok hm' Tryd.func4 (by kernel_rfl) (F4_eq l.1 l.2.1 l.2.2.1 l.2.2.2 m a xs.length c _ h) ?_
  unfold F4
  refine new_of fun h1 b1 n1 s1 => call_of (awake_ok h1 (hg.new n1)) ?_
  rintro v h2 ⟨rfl, n2⟩
  refine ⟨true, rfl, br_f rfl (br_of (fun _ => ⟨rfl, n1.trans n2⟩) fun hlen => ?_)⟩
  have hlen : xs.length ≤ 1000 := by simp at hlen; omega
  refine ldAgg_blk l (b1.new n2) ⟨rfl, rfl, rfl, rfl, trivial⟩ (call_of (Body.ofPlaces_ok l h2) ?_)
  rintro v h3 ⟨a3, c3, rfl, o3, n3⟩
  refine ⟨(a3, (plsB l).length, c3), rfl, call_of (bPlaces_ok a3 c3 (plsB l) h3 (plsB_byt l) (Ar.own o3)) ?_⟩
  rintro v h4 ⟨rfl, n4⟩
  rw [placesF_back hl]
  refine ⟨(l, errV 0), rfl, new_stL (by rw [Body.zeroP]; rfl) fun h5 b5 n5 s5 => ?_⟩
  have n15 : New h1 h5 := ((n2.trans n3).trans n4).trans n5
  refine cut_q (ts := []) (fun _ h' => New h5 h') ?_ ?_
  rotate_left
  · intro K hK
    refine ldAgg_blk l b5 ⟨rfl, rfl, rfl, rfl, trivial⟩ (ldAgg_blk l (b1.new n15) ⟨rfl, rfl, rfl, rfl, trivial⟩ ⟨_, pls_eq l l, br_f (by simp) ⟨errV_if 0, br_f rfl (ldAgg_blk l (b1.new n15) ⟨rfl, rfl, rfl, rfl, trivial⟩ (call_of (Body.ofPlaces_ok l h5) ?_))⟩⟩)
    rintro v h6 ⟨a6, c6, rfl, o6, n6⟩
    exact ⟨(a6, (plsB l).length, c6), rfl, br_f (by rw [plsB_len]; rfl) (hK () h6 n6)⟩
  rintro _ h6 n6 _
  have n16 := n15.trans n6
  refine call_of (ofTrim_ok m h6) ?_
  rintro v h7 ⟨a7, c7, rfl, o7, n7⟩
  refine ⟨(a7, (plsB (m, 0, 0, 0)).length, c7), rfl, call_of (R5.bTrim_ok a7 c7 (plsB (m, 0, 0, 0)) h7 (plsB_byt _) (Ar.own o7)) ?_⟩
  rintro v h8 ⟨rfl, n8⟩
  rw [trimF_back hm]
  have n18 := (n16.trans n7).trans n8
  refine ⟨((if m = 0 then ((0 : Int), (2 : Int)) else (m, 0)).1, errV (if m = 0 then ((0 : Int), (2 : Int)) else (m, 0)).2), rfl, ?_⟩
  refine cut_q (ts := []) (fun _ h' => h' = h8) ?_ ?_
  rotate_left
  · intro K hK
    by_cases h0 : m = 0
    · subst h0
      exact br_f (by decide) (br_t rfl ⟨errV_if 2, br_f rfl (hK () _ rfl)⟩)
    · rw [if_neg h0]
      exact br_t (decide_eq_true (by omega)) (br_f (by simp) ⟨errV_if 0, br_f rfl (br_f (by simp [h0]) (hK () _ rfl))⟩)
  rintro _ h' hh _
  subst h'
  refine call_of (bPlaces_ok a c xs h8 hb (ar.new (n1.trans n18))) ?_
  rintro v h9 ⟨rfl, n9⟩
  refine ⟨((placesF xs).1, errV (placesF xs).2), rfl, new_stL (by rw [Body.zeroP]; rfl) fun h10 b10 n10 s10 => ⟨errV_if _, ?_⟩⟩
  have n110 := (n18.trans n9).trans n10
  rw [errV_nil]
  by_cases hx : ¬ xs.length = 16
  · have e : placesF xs = ((0, 0, 0, 0), 3) := if_neg hx
    rw [e] at b10 ⊢
    refine br_t rfl (cut_q (ts := [.sc .bool]) (fun (t : Bool) h' => t = true ∧ h' = h10) ?_ ?_)
    · rintro t h' ⟨rfl, hh⟩ _
      subst h'
      exact ⟨rfl, n1.trans n110⟩
    · intro K hK
      exact br_t (by simp; omega) (ldAgg_blk ((0, 0, 0, 0) : Pls) b10 ⟨rfl, rfl, rfl, rfl, trivial⟩ ⟨_, pls_eq (0, 0, 0, 0) (0, 0, 0, 0), hK _ _ ⟨rfl, rfl⟩⟩)
  have hx : xs.length = 16 := Classical.not_not.1 hx
  have e : placesF xs = (plsOf xs, 0) := if_pos hx
  rw [e] at b10 ⊢
  have b10 : Blk h10 h9.size (wordsA (word (plsOf xs))) 24 := b10
  refine br_f rfl (call_of (R5.bTrim_ok a c xs h10 hb (ar.new (n1.trans n110))) ?_)
  rintro v h11 ⟨rfl, n11⟩
  refine ⟨((trimF xs).1, errV (trimF xs).2), rfl, ldAgg_blk (plsOf xs) (b10.new n11) ⟨rfl, rfl, rfl, rfl, trivial⟩ (call_of (Body.ofPlaces_ok (plsOf xs) h11) ?_)⟩
  rintro v h12 ⟨a12, c12, rfl, o12, n12⟩
  have n112 := (n110.trans n11).trans n12
  have b12 := (b10.new n11).new n12
  have cl : ∀ {F : Int → Prop} {h' : Heap}, New h12 h' → F (wordOf xs 0) → idxW (0 : Int) 4 true (ldW (.int .u32) (Addr.add ⟨h9.size, 0, none⟩ (Int.toNat (0 : Int) * 1)) F h') := fun n hF =>
      ⟨⟨by omega, rfl⟩, ld_of (c := .int .u32) (word (plsOf xs) 0) (by rw [show Int.toNat (0 : Int) * 1 = 0 from rfl, add_mk, cellH_blk (b12.new n)]; rfl) hF⟩
  have hback := plsB_plsOf hb hx
  refine ⟨(a12, (plsB (plsOf xs)).length, c12), rfl, Same3.same_q _ _ _ _ _ _ h12 (plsB (plsOf xs)) xs rfl rfl (show (plsB _).length ≤ 9223372036854775806 by rw [plsB_len]; omega) (Ar.own o12) (ar.new (n1.trans n112)) ?_, n12.ext⟩
  refine br_t (decide_eq_true hback) ⟨errV_if _, cl (New.refl _) ?_⟩
  rw [errV_nil]
  have ht : trimF xs = if wordOf xs 0 = 0 ∨ plsOf xs ≠ (wordOf xs 0, 0, 0, 0) then (0, 2) else (wordOf xs 0, 0) := if_neg (by omega)
  refine br_of (fun h0 => ?_) (fun h0 => ?_)
  · have h0 : wordOf xs 0 ≠ 0 := by simpa using h0
    refine ldAgg_blk (plsOf xs) b12 ⟨rfl, rfl, rfl, rfl, trivial⟩ (cl (New.refl _) ⟨_, pls_eq (plsOf xs) (wordOf xs 0, 0, 0, 0), ?_⟩)
    by_cases hp : plsOf xs = (wordOf xs 0, 0, 0, 0)
    · have et : trimF xs = (wordOf xs 0, 0) := by rw [ht, if_neg (by simp [h0, hp])]
      rw [et]
      refine br_t (by simp [hp]) ⟨errV_if 0, br_f rfl (cl (New.refl _) (br_t (by simp) (call_of (ofTrim_ok (wordOf xs 0) h12) ?_)))⟩
      rintro v h13 ⟨a13, c13, rfl, o13, n13⟩
      refine ⟨(a13, (plsB (wordOf xs 0, 0, 0, 0)).length, c13), rfl, Same3.same_q _ _ _ _ _ _ h13 (plsB (wordOf xs 0, 0, 0, 0)) xs rfl rfl (show (plsB _).length ≤ 9223372036854775806 by rw [plsB_len]; omega) (Ar.own o13) (ar.new ((n1.trans n112).trans n13)) ?_, n13.ext⟩
      exact ⟨by rw [← hp, hback]; simp, (n1.trans n112).trans n13⟩
    · have et : trimF xs = (0, 2) := by rw [ht, if_pos (.inr hp)]
      rw [et]
      exact br_t (by simp [hp]) ⟨errV_if 2, br_t rfl ⟨rfl, n1.trans n112⟩⟩
  · have h0 : wordOf xs 0 = 0 := by simpa using h0
    have et : trimF xs = (0, 2) := by rw [ht, if_pos (.inl h0)]
    rw [et]
    exact br_t rfl ⟨errV_if 2, br_t rfl ⟨rfl, n1.trans n112⟩⟩
end Go.Proofs.YtogeildomhahjaaDoor.L5
