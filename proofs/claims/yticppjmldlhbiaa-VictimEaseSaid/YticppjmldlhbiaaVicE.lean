/-
  VictimEase of layer 12.
-/
import Derived.Test.YticppjmldlhbiaaVicL
namespace Go.Proofs.Yticppjmldlhbiaa.VicE
open Go.Pl Go.Proofs.Yticppjmldlhbiaa.W Go.Proofs.Yticppjmldlhbiaa.Vic Go.Proofs.Yticppjmldlhbiaa.VicW Go.Proofs.Yticppjmldlhbiaa.VicS Go.Proofs.Yticppjmldlhbiaa.VicT Go.Proofs.Yticppjmldlhbiaa.VicL
open Go.Proofs.Yticppjmldlhbiaa.So (hm' encL TE)
/- PLAIN. -/
theorem sumV_perm {a b : List Z} (h : a.Perm b) : sumV a = sumV b := perm_sum (h.map fun z : Z => z.2.1)
theorem minsum : ∀ {s t rest : List Z}, s.Pairwise (fun a b => a.2.1 ≤ b.2.1) → (t ++ rest).Perm s → sumV (s.take t.length) ≤ sumV t
  | [], t, rest, _, h => by
    have h0 := h.length_eq
    rw [List.length_append, List.length_nil] at h0
    have : t = [] := List.eq_nil_of_length_eq_zero (by omega)
    subst this; simp
  | a :: s, t, rest, hs, h => by
    have hs' := List.pairwise_cons.1 hs
    cases t with
    | nil => simp
    | cons y t =>
      have ha : a ∈ (y :: t) ++ rest := h.mem_iff.2 (by simp)
      by_cases hat : a ∈ y :: t
      · have hp := List.perm_cons_erase hat
        have hl : ((y :: t).erase a).length = t.length := by have := hp.length_eq; simp at this ⊢; omega
        have h2 : ((y :: t).erase a ++ rest).Perm s := by
          have : (a :: ((y :: t).erase a ++ rest)).Perm (a :: s) := by
            refine List.Perm.trans ?_ h
            exact (hp.symm.append_right rest)
          exact List.Perm.cons_inv this
        have ih := minsum hs'.2 h2
        rw [hl] at ih
        rw [sumV_perm hp, sumV_cons, List.length_cons, List.take_succ_cons, sumV_cons]
        omega
      · have har : a ∈ rest := by
          rcases List.mem_append.1 ha with h | h
          · exact (hat h).elim
          · exact h
        have hp := List.perm_cons_erase har
        have h2 : (t ++ (y :: rest.erase a)).Perm s := by
          have : (a :: (t ++ (y :: rest.erase a))).Perm (a :: s) := by
            refine List.Perm.trans ?_ h
            have e1 : (a :: (t ++ (y :: rest.erase a))).Perm (a :: y :: (t ++ rest.erase a)) := List.Perm.cons a List.perm_middle
            have e2 : (a :: y :: (t ++ rest.erase a)).Perm (y :: a :: (t ++ rest.erase a)) := List.Perm.swap _ _ _
            have e3 : (y :: a :: (t ++ rest.erase a)).Perm (y :: (t ++ (a :: rest.erase a))) := List.Perm.cons y List.perm_middle.symm
            have e4 : (y :: (t ++ (a :: rest.erase a))).Perm (y :: (t ++ rest)) := List.Perm.cons y (List.Perm.append_left t hp.symm)
            exact e1.trans (e2.trans (e3.trans e4))
          exact List.Perm.cons_inv this
        have ih := minsum hs'.2 h2
        have hy := hs'.1 y (h2.mem_iff.1 (by simp))
        rw [List.length_cons, List.take_succ_cons, sumV_cons, sumV_cons]
        omega
theorem perm_lift {α β : Type} {f : β → α} {l1 l2 : List α} (h : l1.Perm l2) : ∀ q2 : List β, q2.map f = l2 → ∃ q1 : List β, q1.Perm q2 ∧ q1.map f = l1 := by
  induction h with
  | nil => intro q2 h; exact ⟨q2, List.Perm.refl _, h⟩
  | cons x _ ih =>
    intro q2 h
    cases q2 with
    | nil => cases h
    | cons b q =>
      simp only [List.map_cons, List.cons.injEq] at h
      obtain ⟨q1, h1, h2⟩ := ih q h.2
      exact ⟨b :: q1, List.Perm.cons b h1, by simp [h.1, h2]⟩
  | swap x y l =>
    intro q2 h
    match q2, h with
    | b1 :: b2 :: q, h =>
      simp only [List.map_cons, List.cons.injEq] at h
      exact ⟨b2 :: b1 :: q, List.Perm.swap _ _ _, by simp [h.1, h.2.1, h.2.2]⟩
  | trans _ _ ih1 ih2 =>
    intro q2 h
    obtain ⟨q1, h1, h2⟩ := ih2 q2 h
    obtain ⟨q0, h3, h4⟩ := ih1 q1 h2
    exact ⟨q0, h3.trans h1, h4⟩
/-- Zones with fewer live pages. -/
def fewL : List Z → List Int → List Z
  | [], _ => []
  | z :: zs, [] => z :: zs
  | z :: zs, f :: fs => (if 0 < f then (z.1, max (z.2.1 - min f 16) 0, z.2.2) else z) :: fewL zs fs
theorem fewL_len : ∀ (zs : List Z) (fs : List Int), (fewL zs fs).length = zs.length
  | [], fs => by cases fs <;> rfl
  | z :: zs, [] => rfl
  | z :: zs, f :: fs => by simp [fewL, fewL_len zs fs]
theorem fewL_ids : ∀ (zs : List Z) (fs : List Int), (fewL zs fs).map Prod.fst = zs.map Prod.fst
  | [], fs => by cases fs <;> rfl
  | z :: zs, [] => rfl
  | z :: zs, f :: fs => by
    simp only [fewL, List.map_cons, fewL_ids zs fs]
    split <;> rfl
theorem fewL_get : ∀ (zs : List Z) (fs : List Int) (i : Nat) (z : Z), zs[i]? = some z → (fewL zs fs)[i]? = some (match fs[i]? with | some f => if 0 < f then (z.1, max (z.2.1 - min f 16) 0, z.2.2) else z | none => z)
  | [], fs, i, z, h => by simp at h
  | z' :: zs, [], i, z, h => by simpa [fewL] using h
  | z' :: zs, f :: fs, 0, z, h => by simp at h; subst h; simp [fewL]
  | z' :: zs, f :: fs, i + 1, z, h => by
    have := fewL_get zs fs i z (by simpa using h)
    simpa [fewL] using this
theorem fewL_ok {p : Int} {zs : List Z} {fs : List Int} (h : Goods p zs) : Goods p (fewL zs fs) := by
  refine ⟨fun z hz => ?_, by rw [fewL_ids]; exact h.ids⟩
  obtain ⟨i, hi⟩ := List.mem_iff_getElem?.1 hz
  have hil : i < zs.length := by have := (List.getElem?_eq_some_iff.1 hi).1; rw [fewL_len] at this; exact this
  have := fewL_get zs fs i _ (List.getElem?_eq_getElem hil)
  rw [hi] at this; injection this with this
  have ho := h.ok zs[i] (List.getElem_mem hil)
  have h1 := ho.v0; have h2 := ho.v1; have h3 := ho.a0; have h4 := ho.a1
  rw [this]
  split
  · split
    · exact ⟨by show 0 ≤ max _ _; omega, by show max _ _ ≤ p; omega, h3, h4⟩
    · exact ho
  · exact ho
theorem fewL_le {p : Int} {zs : List Z} {fs : List Int} (h : Goods p zs) : ∀ x ∈ zs.zip (fewL zs fs), x.2.2.1 ≤ x.1.2.1 := by
  intro x hx
  obtain ⟨i, hi⟩ := List.mem_iff_getElem?.1 hx
  rw [List.getElem?_zip_eq_some] at hi
  have hg := fewL_get zs fs i _ hi.1
  rw [hi.2] at hg; injection hg with hg
  have hil : i < zs.length := (List.getElem?_eq_some_iff.1 hi.1).1
  have ho := h.ok x.1 (List.mem_iff_getElem?.2 ⟨i, hi.1⟩)
  have h1 := ho.v0
  rw [hg]
  split
  · split
    · show max _ _ ≤ _; omega
    · exact Int.le_refl _
  · exact Int.le_refl _
theorem sum_pairs : ∀ {q : List (Z × Z)}, (∀ x ∈ q, x.2.2.1 ≤ x.1.2.1) → sumV (q.map Prod.snd) ≤ sumV (q.map Prod.fst)
  | [], _ => by simp
  | x :: q, h => by
    have h1 := h x (by simp)
    have h2 := sum_pairs (q := q) fun y hy => h y (by simp [hy])
    rw [List.map_cons, List.map_cons, sumV_cons, sumV_cons]; omega
theorem needB_le {p a b : Int} {i : Nat} (hp : 1 ≤ p) (h : b ≤ a) (hn : needB p a i = true) : needB p b i = true := by
  unfold needB at *
  have hn := of_decide_eq_true hn
  have := Int.ediv_le_ediv (show 0 < p by omega) (show b + p - 1 ≤ a + p - 1 by omega)
  exact decide_eq_true (by omega)
theorem ease {p extra : Int} {zs : List Z} {fs : List Int} (hp : 1 ≤ p) (hg : Goods p zs) (hne : (chosen 0 p extra zs).length ≠ 0) : 0 < (chosen 0 p extra (fewL zs fs)).length ∧ (chosen 0 p extra (fewL zs fs)).length ≤ (chosen 0 p extra zs).length := by
  have hgm := fewL_ok (fs := fs) hg
  have hlen := fewL_len zs fs
  have pz := sortZ_perm 0 p zs
  have pm := sortZ_perm 0 p (fewL zs fs)
  cases hk : pick p 0 extra (sortZ 0 p zs) with
  | none => exact (hne (by unfold chosen; rw [hk]; rfl)).elim
  | some k =>
    obtain ⟨k1, k2, k3⟩ := pick_some hk
    rw [Nat.sub_zero] at k3
    rw [Nat.zero_add] at k2
    have e1 : chosen 0 p extra zs = (sortZ 0 p zs).take k := by unfold chosen; rw [hk]
    have hzip : (zs.zip (fewL zs fs)).map Prod.fst = zs := by rw [List.map_fst_zip]; omega
    have hzip2 : (zs.zip (fewL zs fs)).map Prod.snd = fewL zs fs := by rw [List.map_snd_zip]; omega
    obtain ⟨q, q1, q2⟩ := perm_lift pz _ hzip
    have hql : q.length = zs.length := by rw [← pz.length_eq, ← q2]; simp
    have hle : ∀ x ∈ q.take k, x.2.2.1 ≤ x.1.2.1 := fun x hx => fewL_le hg x (q1.mem_iff.1 (List.mem_of_mem_take hx))
    have hs1 := sum_pairs hle
    have hm : ((q.take k).map Prod.snd ++ (q.drop k).map Prod.snd).Perm (sortZ 0 p (fewL zs fs)) := by
      rw [← List.map_append, List.take_append_drop]
      refine List.Perm.trans ?_ pm.symm
      rw [← hzip2]; exact q1.map _
    have hs2 := minsum (srt_least (sortZ_srt hgm)) hm
    have hkl : ((q.take k).map Prod.snd).length = k := by rw [List.length_map, List.length_take]; have := pz.length_eq; omega
    rw [hkl] at hs2
    have e2 : (q.take k).map Prod.fst = (sortZ 0 p zs).take k := by rw [List.map_take, q2]
    rw [e2] at hs1
    have hml : k ≤ (sortZ 0 p (fewL zs fs)).length := by rw [pm.length_eq, hlen, ← pz.length_eq]; exact k2
    obtain ⟨k', hk', hk2⟩ := pick_le (p := p) (i := 0) (live := extra) (zs := sortZ 0 p (fewL zs fs)) (k - 1) (by omega) (by
      rw [show k - 1 + 1 = k by omega, Nat.zero_add]
      exact needB_le hp (by omega) k3)
    have hk3 := pick_some hk'
    have e3 : chosen 0 p extra (fewL zs fs) = (sortZ 0 p (fewL zs fs)).take k' := by unfold chosen; rw [hk']
    rw [e1, e3, List.length_take, List.length_take]
    omega
/- THE LAW. -/
theorem ap60 : apB Try.prog 60 TE 3 24 = true := by kernel_rfl
theorem take_few {zs : List Z} {fs : List Int} {i : Nat} (hi : i < zs.length) : ((fewL zs fs).take i ++ zs.drop i).set i ((fewL zs fs)[i]'(by rw [fewL_len]; exact hi)) = (fewL zs fs).take (i + 1) ++ zs.drop (i + 1) := by
  have hl := fewL_len zs fs
  apply List.ext_getElem?
  intro m
  rw [List.getElem?_set]
  by_cases e : i = m
  · subst e
    rw [if_pos rfl, if_pos (by simp; omega), List.getElem?_append_left (by simp; omega), List.getElem?_take, if_pos (by omega), List.getElem?_eq_getElem]
  · rw [if_neg e]
    by_cases hm : m < i
    · rw [List.getElem?_append_left (by simp; omega), List.getElem?_append_left (by simp; omega), List.getElem?_take, List.getElem?_take, if_pos hm, if_pos (by omega)]
    · rw [List.getElem?_append_right (by simp; omega), List.getElem?_append_right (by simp; omega), List.getElem?_drop, List.getElem?_drop]
      congr 1
      simp; omega
theorem zv_set {zs : List Z} {i : Nat} {z : Z} {v : Int} (hi : zs[i]? = some z) : (zv zs).set (i * 3 + 1) (.int .i64 v) = zv (zs.set i (z.1, v, z.2.2)) := by
  have hil := (List.getElem?_eq_some_iff.1 hi).1
  apply List.ext_getElem?
  intro m
  have hm3 : m = m / 3 * 3 + m % 3 := by omega
  by_cases hml : m < zs.length * 3
  · have hmi : m / 3 < zs.length := by omega
    rw [List.getElem?_set, zv_len]
    have hs : (zs.set i (z.1, v, z.2.2))[m / 3]? = some (if i = m / 3 then (z.1, v, z.2.2) else zs[m / 3]) := by
      rw [List.getElem?_set]
      split
      · rfl
      · rw [List.getElem?_eq_getElem hmi]
    have h1 := zv_get hs (show m % 3 < 3 by omega)
    rw [← hm3] at h1
    rw [h1]
    by_cases e : i = m / 3
    · rw [if_pos e]
      have h2 := zv_get hi (show m % 3 < 3 by omega)
      rw [e, ← hm3] at h2
      by_cases e1 : m % 3 = 1
      · rw [if_pos (by omega), if_pos (by omega), e1]; rfl
      · rw [if_neg (by omega), h2]
        rcases (show m % 3 = 0 ∨ m % 3 = 2 by omega) with e2 | e2 <;> rw [e2] <;> rfl
    · rw [if_neg e, if_neg (by omega)]
      have h2 := zv_get (List.getElem?_eq_getElem hmi) (show m % 3 < 3 by omega)
      rw [← hm3] at h2; exact h2
  · rw [List.getElem?_eq_none (by rw [List.length_set, zv_len]; omega), List.getElem?_eq_none (by rw [zv_len, List.length_set]; omega)]
theorem ease_law (h : Heap) (v0 v1 v2 v3 : Value) (p extra : Int) (zs : List Z) (fs : List Int) (r0 : ReadsV h (.int .i64) v0 p) (r1 : ReadsV h (.int .i64) v1 extra) (r2 : ReadsV h (.slice ZS) v2 zs) (r3 : ReadsV h (.slice (.int .i64)) v3 fs) :
    CallsH Try.prog 9 [v0, v1, v2, v3] h fun v h' => v = .bool true ∧ New h h' := by
  obtain ⟨rfl⟩ : v0 = .int .i64 p := by obtain ⟨cs, hcs, e, _⟩ := r0; simp only at hcs; subst hcs; injection e
  obtain ⟨rfl⟩ : v1 = .int .i64 extra := by obtain ⟨cs, hcs, e, _⟩ := r1; simp only at hcs; subst hcs; injection e
  obtain ⟨la, lc, rfl, hcap, _, _, sl⟩ := SlAt.reads r2
  obtain ⟨fa, fc, rfl, _, _, _, sf⟩ := SlAt.reads r3
  obtain ⟨rz, hage⟩ := zr_of sl
  have rf : Ar .i64 h fa fs := fun i x hi => by
    obtain ⟨b, o, es, e1, hb, hel, hc, ⟨e2, _⟩⟩ := sf i x hi
    subst e2
    have := hc 0 Nat.one_pos
    exact ⟨b, o, e1, hb, by simpa [Sh.n] using this⟩
  refine fun_ok hm' Try.func9 (by kernel_rfl) (F9_eq p extra la zs.length lc fa fs.length fc _ h) ?_
  unfold F9
  refine call_of (awake_ok h) ?_
  rintro v h1 ⟨rfl, n1⟩
  refine ⟨true, rfl, br_f rfl (cut_q (ts := []) (fun _ h' => New h h' ∧ outB p zs = false ∧ 0 ≤ extra ∧ extra ≤ 16 ∧ fs.length ≤ 60) ?_ ?_)⟩
  rotate_left
  · intro K hK
    refine call_of (out_ok h1 p la lc zs (rz.new n1)) ?_
    rintro v h2 ⟨rfl, n2⟩
    refine ⟨_, rfl, br_of (fun _ => ⟨rfl, n1.trans n2⟩) fun ho => br_of (fun _ => ⟨rfl, n1.trans n2⟩) fun h3 => br_of (fun _ => ⟨rfl, n1.trans n2⟩) fun h4 => br_of (fun _ => ⟨rfl, n1.trans n2⟩) fun h5 => hK () _ ⟨n1.trans n2, ho, ?_, ?_, ?_⟩⟩
    · have := of_decide_eq_false h3; omega
    · have := of_decide_eq_false h4; omega
    · have h5 : ¬ (fs.length : Int) > 60 := of_decide_eq_false h5; omega
  rintro _ h2 ⟨n2, ho, he0, he1, hfl⟩ _
  obtain ⟨hp, hg, hl⟩ := out_facts ho hage
  refine new_of fun h3 b3 n3 s3 => ?_
  have n03 := n2.trans n3
  have hr0 : ∀ b : Nat, blkOf (some (⟨h2.size, 0, none⟩ : Addr)) = some b → h2.size ≤ b := fun b e => by injection e with e; change h2.size = b at e; omega
  refine Grow.zs ap60 (xs := []) (Grow.start (RowS.nil' h3 TE 3 (some ⟨h2.size, 0, none⟩))) (rz.new n03) rfl (by simp; omega) (by omega) fun a4 c4 h4 g4 ow4 => ?_
  have n24 : New h2 h4 := g4.upd.grow n3 hr0
  rw [List.nil_append] at g4 ow4
  rw [List.nil_append]
  -- an empty list
  by_cases hz : zs = []
  · subst hz
    have ec : chosen 0 p extra [] = [] := by unfold chosen; rfl
    refine ⟨fun (s : Int) h' => s = (0 : Int) ∧ New h2 h', fun _ _ => 0, ⟨rfl, n24⟩, ?_⟩
    rintro s j h5 ⟨hs, n5⟩
    have hs : s = (0 : Int) := hs
    subst hs
    refine br_f (by simp) (call_of (choose_ok (pol := 0) hp ⟨he0, he1⟩ h5 la lc [] hg (by simp) (fun i z hi => by simp at hi)) ?_)
    rintro v h6 ⟨a6, c6, rfl, q6⟩
    refine ⟨(a6, _, c6), rfl, call_of (choose_ok (pol := 0) hp ⟨he0, he1⟩ h6 a4 c4 [] hg (by simp) (fun i z hi => by simp at hi)) ?_⟩
    rintro v h7 ⟨a7, c7, rfl, q7⟩
    refine ⟨(a7, _, c7), rfl, br_t rfl ⟨rfl, n2.trans (n5.trans (q6.new.trans q7.new))⟩⟩
  have ow4 := ow4 hz
  obtain ⟨g, e4⟩ : ∃ g, a4 = some ⟨g, 0, none⟩ := by
    rcases ow4.row.2 with ⟨_, h0, _⟩ | ⟨g, cur, e, _⟩
    · exact (hz (List.eq_nil_of_length_eq_zero h0)).elim
    · exact ⟨g, e⟩
  subst e4
  have hgl := (ow4.blk_ge g rfl).2
  have hgg : h2.size ≤ g := by
    rcases g4.at_ with e | ⟨b, e, hb⟩
    · injection e with e; change g = h2.size at e; omega
    · injection e with e; change g = b at e; have := n3.size; omega
  have n04 := n2.trans n24
  have hs02 := n2.size
  refine ⟨fun (s : Int) h' => ∃ i : Nat, s = i ∧ i ≤ zs.length ∧ New h2 h' ∧ OwnH h' 0 TE 3 (some ⟨g, 0, none⟩) zs.length c4 (zv ((fewL zs fs).take i ++ zs.drop i)), fun (s : Int) _ => ((zs.length : Int) - s).toNat, ⟨0, rfl, Nat.zero_le _, n24, by rw [List.take_zero, List.drop_zero]; exact ow4⟩, ?_⟩
  rintro s j h5 ⟨i, rfl, hi, n5, ow5⟩
  have rf5 := rf.new (n2.trans n5)
  refine br_of (fun hlt => ?_) (fun hlt => ?_)
  · have hlt : (i : Int) < (zs.length : Int) := of_decide_eq_true hlt
    have hiL : i < zs.length := by omega
    have hcur : ((fewL zs fs).take i ++ zs.drop i)[i]? = some zs[i] := by
      rw [List.getElem?_append_right (by simp [fewL_len]; omega), List.getElem?_drop]
      simp [fewL_len, Nat.min_eq_left (Nat.le_of_lt hiL), hiL]
    have hset := take_few (fs := fs) hiL
    have hfg := fewL_get zs fs i _ (List.getElem?_eq_getElem hiL)
    have hv := hg.ok zs[i] (List.getElem_mem hiL)
    have hv0 := hv.v0; have hv1 := hv.v1
    have ez : IntKind.wrap .i64 ((i : Int) + 1) = ((i + 1 : Nat) : Int) := (by first | (rw [wr64 (by omega) (by omega)]; omega) | (simp only [IntKind.wrap_i64]; omega))
    refine cut_q (ts := [.sc .bool]) (fun (s : Bool) h' => h' = h5 ∧ ((s = true ∧ ∃ hf : i < fs.length, 0 < fs[i]) ∨ (s = false ∧ (fewL zs fs)[i]? = some zs[i]))) ?_ ?_
    rotate_left
    · intro K hK
      refine br_of (fun hf => ?_) (fun hf => hK _ _ ⟨rfl, .inr ⟨rfl, ?_⟩⟩)
      · have hf : (i : Int) < (fs.length : Int) := of_decide_eq_true hf
        have hfi : i < fs.length := by omega
        refine ix_ld rf5 hfi hfi (hK _ _ ⟨rfl, ?_⟩)
        rw [List.getElem?_eq_getElem hfi] at hfg
        by_cases h0 : 0 < fs[i]
        · exact .inl ⟨decide_eq_true h0, hfi, h0⟩
        · refine .inr ⟨decide_eq_false h0, ?_⟩
          rw [hfg]
          show some (if 0 < fs[i] then _ else _) = _
          rw [if_neg h0]
      · have hf : ¬ (i : Int) < (fs.length : Int) := of_decide_eq_false hf
        rw [List.getElem?_eq_none (show fs.length ≤ i by omega)] at hfg
        exact hfg
    rintro s h' ⟨hh, hs⟩ _; subst h'
    rcases hs with ⟨hs, hfi, hf0⟩ | ⟨hs, hfe⟩
    · have hs : s = true := hs
      subst hs
      rw [List.getElem?_eq_getElem hfi] at hfg
      have hfg : (fewL zs fs)[i]? = some (zs[i].1, max (zs[i].2.1 - min fs[i] 16) 0, zs[i].2.2) := by rw [hfg]; show some (if 0 < fs[i] then _ else _) = _; rw [if_pos hf0]
      have hlz : i < ((fewL zs fs).take i ++ zs.drop i).length := (List.getElem?_eq_some_iff.1 hcur).1
      have hgc : ((fewL zs fs).take i ++ zs.drop i)[i] = zs[i] := by rw [List.getElem?_eq_getElem hlz] at hcur; exact Option.some.inj hcur
      refine br_t rfl (Zr.ld1 (c := .int .i64) (k := 1) (x := zs[i].2.1) (Zr.own ow5) hlz hiL (by rw [hgc]; rfl) (ix_ld rf5 hfi hfi (ptr_of (VicW.ix_of hiL ?_))))
      rw [add_mk, add_mk, Int.toNat_natCast, Nat.zero_add, ez, mm2_min, mm2_max]
      obtain ⟨ol, ⟨e, _⟩ | ⟨g', cap, cur, e1, hb0, hgb, hnc, hcm, hcs, htk⟩⟩ := ow5
      · cases e
      injection e1 with e1 e2 e3
      injection e1 with e1; injection e1 with e1; subst e1; subst e3
      refine st_blk hgb (by omega) fun h6 b6 o6 => ⟨⟨i + 1, rfl, hiL, o6.upd.new n5 hgg, ?_⟩, (by first | omega | (dsimp only; omega) | (simp only []; omega))⟩
      have ew : IntKind.wrap .i64 (zs[i].2.1 - min fs[i] 16) = zs[i].2.1 - min fs[i] 16 := wr64 (by omega) (by omega)
      have hlf : i < (fewL zs fs).length := by rw [fewL_len]; exact hiL
      have hge : (fewL zs fs)[i] = (zs[i].1, max (zs[i].2.1 - min fs[i] 16) 0, zs[i].2.2) := by rw [List.getElem?_eq_getElem hlf] at hfg; exact Option.some.inj hfg
      rw [← hset, hge, ← zv_set hcur, ← ew]
      refine ⟨by rw [List.length_set, zv_len]; simp [fewL_len]; omega, .inr ⟨g, c4, _, rfl, hb0, b6, hnc, hcm, by simpa using hcs, ?_⟩⟩
      have e : (cur.setIfInBounds (i * 3 + 1) (.int .i64 (max (IntKind.wrap .i64 (zs[i].2.1 - min fs[i] 16)) 0))).toList = cur.toList.set (i * 3 + 1) (.int .i64 (max (IntKind.wrap .i64 (zs[i].2.1 - min fs[i] 16)) 0)) := by simp
      rw [e, List.take_set, htk]
    · have hs : s = false := hs
      subst hs
      rw [ez]
      refine br_f rfl ⟨⟨i + 1, rfl, hiL, n5, ?_⟩, (by first | omega | (dsimp only; omega) | (simp only []; omega))⟩
      have hlf : i < (fewL zs fs).length := by rw [fewL_len]; exact hiL
      have hge : (fewL zs fs)[i] = zs[i] := by rw [List.getElem?_eq_getElem hlf] at hfe; exact Option.some.inj hfe
      rw [← hset, hge]
      have : ((fewL zs fs).take i ++ zs.drop i).set i zs[i] = (fewL zs fs).take i ++ zs.drop i := by
        apply List.ext_getElem?
        intro m
        rw [List.getElem?_set]
        by_cases e : i = m
        · subst e; rw [if_pos rfl, if_pos (List.getElem?_eq_some_iff.1 hcur).1, hcur]
        · rw [if_neg e]
      rw [this]; exact ow5
  · have hlt : ¬ (i : Int) < (zs.length : Int) := of_decide_eq_false hlt
    have : i = zs.length := by omega
    subst this
    rw [List.drop_length, List.append_nil, List.take_of_length_le (by rw [fewL_len]; omega)] at ow5
    refine call_of (choose_ok (pol := 0) hp ⟨he0, he1⟩ h5 la lc zs hg (by omega) (rz.new (n2.trans n5))) ?_
    rintro v h6 ⟨a6, c6, rfl, q6⟩
    have hfl2 := fewL_len zs fs
    have key := choose_ok (pol := 0) hp ⟨he0, he1⟩ h6 (some ⟨g, 0, none⟩) c4 (fewL zs fs) (fewL_ok (fs := fs) hg) (by omega) ((Zr.own ow5).new q6.new)
    rw [hfl2] at key
    refine ⟨(a6, _, c6), rfl, call_of key ?_⟩
    rintro v h7 ⟨a7, c7, rfl, q7⟩
    have n07 := n2.trans (n5.trans (q6.new.trans q7.new))
    rw [List.length_map, List.length_map]
    refine ⟨(a7, _, c7), rfl, br_of (fun _ => ⟨rfl, n07⟩) fun hne => ?_⟩
    have hne : (((chosen 0 p extra zs).length : Nat) : Int) ≠ 0 := by simpa using hne
    obtain ⟨k1, k2⟩ := ease (fs := fs) (extra := extra) hp.1 hg (by omega)
    refine br_t (by simpa using k1) ⟨?_, n07⟩
    show Value.bool (decide _) = _
    rw [decide_eq_true (Int.ofNat_le.2 k2)]
end Go.Proofs.Yticppjmldlhbiaa.VicE
