/-
  Package victim: zones sorted, their Ids, and the choice.
-/
import Derived.Test.YticppjmldlhbiaaVicS
import Derived.Test.YticppjmldlhbiaaOwn
namespace Go.Proofs.Yticppjmldlhbiaa.VicT
open Go.Pl Go.Proofs.Yticppjmldlhbiaa.W Go.Sort Go.Proofs.Yticppjmldlhbiaa.Vic Go.Proofs.Yticppjmldlhbiaa.VicW Go.Proofs.Yticppjmldlhbiaa.VicS
open Go.Proofs.Yticppjmldlhbiaa.So (hm' encL El TE lt CmpOk Rw swo pdq_ok)
theorem els {p : Int} : ∀ {zs : List Z}, (∀ z ∈ zs, okZ p z) → ∃ l : List (El p), l.map Subtype.val = zs
  | [], _ => ⟨[], rfl⟩
  | z :: zs, h => by
    obtain ⟨l, hl⟩ := els (zs := zs) fun y hy => h y (by simp [hy])
    exact ⟨⟨z, h z (by simp)⟩ :: l, by simp [hl]⟩
theorem getD_val {p : Int} [Inhabited (El p)] {l : List (El p)} {i : Nat} (hi : i < l.length) : (l.toArray[i]!).1 = (l.map Subtype.val)[i]'(by simpa using hi) := by
  rw [getElem!_pos l.toArray i (by simpa using hi)]; simp
/-- An empty slice. -/
theorem sort0_ok (h : Heap) (a : Option Addr) (c : Nat) (cm : Value) : CallsH Try.prog 77 [.slice a 0 c, cm] h fun v h' => v = .tuple #[] ∧ h' = h := by
  refine fun_ok hm' Try.func77 (by kernel_rfl) (F77_eq _ _ _ _ _ h) ?_
  unfold F77
  rw [show IntKind.wrap .u64 ((0 : Nat) : Int) = ((0 : Nat) : Int) by decide]
  refine call_of (Len.len_ok 0 (by omega) h) ?_
  rintro v h' ⟨hh, t, rfl, _⟩; subst h'
  refine ⟨(t : Int), rfl, call_of (R := fun v h' => v = .tuple #[] ∧ h' = h) ?_ ?_⟩
  · refine fun_ok hm' Try.func82 (by kernel_rfl) (F82_eq _ _ _ _ _ _ _ _ h) ?_
    unfold F82
    refine ⟨fun (s : Int × Int × Int × Bool × Bool) h' => h' = h ∧ s.1 = 0 ∧ s.2.1 = 0, fun _ _ => 0, ⟨rfl, rfl, rfl⟩, ?_⟩
    rintro ⟨s1, s2, s3, s4, s5⟩ j h' ⟨hh, e1, e2⟩; subst h'
    have e1 : s1 = (0 : Int) := e1
    have e2 : s2 = (0 : Int) := e2
    subst e1; subst e2
    refine br_t (by show decide (IntKind.wrap .i64 ((0 : Int) - 0) ≤ 12) = true; decide) (call_of (R := fun v h' => v = .tuple #[] ∧ h' = h) ?_ ?_)
    · refine fun_ok hm' Try.func84 (by kernel_rfl) (F84_eq _ _ _ _ _ _ _ h) ?_
      unfold F84
      refine ⟨fun (s : Int) h' => h' = h ∧ s = 1, fun _ _ => 0, ⟨rfl, by show IntKind.wrap .i64 ((0 : Int) + 1) = 1; decide⟩, ?_⟩
      rintro s j h' ⟨hh, e1⟩; subst h'
      have e1 : s = (1 : Int) := e1
      subst e1
      exact br_f (by show decide ((1 : Int) < 0) = false; decide) ⟨rfl, rfl⟩
    · rintro v h' ⟨rfl, hh⟩; subst h'
      exact ⟨(), rfl, rfl, rfl⟩
  · rintro v h' ⟨rfl, hh⟩; subst h'
    exact ⟨(), rfl, rfl, rfl⟩
theorem sort_ok {pol p : Int} [Inhabited (El p)] {h : Heap} {base g c : Nat} {zs : List Z} {cm : Value} (hg : Goods p zs) (hl : zs.length < 256) (ow : OwnH h base TE 3 (some ⟨g, 0, none⟩) zs.length c (zv zs)) (hC : CmpOk pol p h g cm) :
    CallsH Try.prog 77 [.slice (some ⟨g, 0, none⟩) zs.length c, cm] h fun v h' => v = .tuple #[] ∧ OwnH h' base TE 3 (some ⟨g, 0, none⟩) zs.length c (zv (sortZ pol p zs)) ∧ Upd g h h' := by
  refine fun_ok hm' Try.func77 (by kernel_rfl) (F77_eq _ _ _ _ _ h) ?_
  unfold F77
  rw [wrU (by omega) (by omega)]
  refine call_of (Len.len_ok zs.length hl h) ?_
  rintro v h' ⟨hh, t, rfl, ht, _⟩; subst h'
  obtain ⟨l, hlz⟩ := els hg.ok
  have hll : l.length = zs.length := by rw [← hlz]; simp
  obtain ⟨ol, ⟨e, _⟩ | ⟨g', cap, cur, e1, hb0, hgb, hnc, hcm, hcs, htk⟩⟩ := ow
  · cases e
  injection e1 with e1 e2 e3
  injection e1 with e1; injection e1 with e1; subst e1; subst e3
  have H : Rw p h h g zs.length c l.toArray := by
    refine ⟨⟨cur, hgb, hcs, fun i hi j hj => ?_⟩, by simpa using hll, hnc, Upd.refl _ _, by omega⟩
    have hz : zs[i]? = some l.toArray[i]!.1 := by
      rw [getD_val (by omega), List.getElem?_eq_getElem hi]
      simp [hlz]
    have := zv_get hz hj
    rw [← htk, List.getElem?_take, if_pos (by omega)] at this
    simpa using this
  refine ⟨(t : Int), rfl, call_of (pdq_ok hC hl (zs.length + 1) 0 zs.length t l.toArray h (by omega) H (by omega) (by omega) (Or.inl rfl) (by omega)) ?_⟩
  rintro v h' ⟨rfl, d', p1, p2, H'⟩
  refine ⟨(), rfl, rfl, ?_, H'.upd⟩
  have hsz := H'.size
  have hy : d'.toList.map Subtype.val = sortZ pol p zs := by
    refine sortZ_eq ?_ hg ?_
    · have e1 := p1.2.2
      have x1 : (d'.extract 0 zs.length).toList = d'.toList := by rw [← hsz]; simp
      have x2 : (l.toArray.extract 0 zs.length).toList = l := by rw [← hll]; simp
      rw [x1, x2] at e1
      rw [← hlz]; exact e1.map _
    · unfold Srt
      rw [List.pairwise_map, List.pairwise_iff_getElem]
      intro i j hi hj hij
      have hi' : i < d'.size := by simpa using hi
      have hj' : j < d'.size := by simpa using hj
      have := p2 i j (by omega) hij (by omega)
      rw [getElem!_pos d' i hi', getElem!_pos d' j hj'] at this
      have hperm : (d'.toList.map Subtype.val).Perm zs := by
        have e1 := p1.2.2
        have x1 : (d'.extract 0 zs.length).toList = d'.toList := by rw [← hsz]; simp
        have x2 : (l.toArray.extract 0 zs.length).toList = l := by rw [← hll]; simp
        rw [x1, x2] at e1
        rw [← hlz]; exact e1.map _
      have hnd := (hg.perm hperm).ids
      rw [List.nodup_iff_pairwise_ne, List.pairwise_iff_getElem] at hnd
      have hne := hnd i j (by simpa using hi) (by simpa using hj) hij
      simp only [List.getElem_map, Array.getElem_toList] at hne ⊢
      rw [ahead_total hne]
      have this : aheadB pol p d'[j].1 d'[i].1 = false := this
      rw [this]; rfl
  obtain ⟨A, hA, hAs, hAc⟩ := H'.blk
  have hlen : (sortZ pol p zs).length = zs.length := (sortZ_perm pol p zs).length_eq
  refine ⟨by rw [zv_len, hlen], .inr ⟨g, c, A, rfl, hb0, hA, hnc, hcm, hAs, ?_⟩⟩
  apply List.ext_getElem?
  intro m
  rw [List.getElem?_take]
  by_cases hm : m < zs.length * 3
  · rw [if_pos hm]
    have hmi : m / 3 < zs.length := by omega
    have e3 : m = m / 3 * 3 + m % 3 := by omega
    have hz : (sortZ pol p zs)[m / 3]? = some d'[m / 3]!.1 := by
      rw [← hy, getElem!_pos d' (m / 3) (by omega)]
      simp [show m / 3 < d'.size by omega]
    have := zv_get hz (show m % 3 < 3 by omega)
    rw [← e3] at this
    rw [this, ← hAc (m / 3) hmi (m % 3) (by omega), ← e3]; simp
  · rw [if_neg hm, List.getElem?_eq_none (by rw [zv_len, hlen]; omega)]
theorem zeroF : (zeroC Try.prog 114).size = 1 := by kernel_rfl
theorem inh {p : Int} (hp : 0 ≤ p) : Nonempty (Inhabited (El p)) := ⟨⟨⟨(0, 0, 0), ⟨Int.le_refl _, hp, Int.le_refl _, by decide⟩⟩⟩⟩
theorem ordered_ok {pol p : Int} (hp : 1 ≤ p ∧ p ≤ 16) (h : Heap) (a : Option Addr) (c : Nat) (zs : List Z) (hg : Goods p zs) (hl : zs.length < 256) (r : Zr h a zs) :
    CallsH Try.prog 57 [.int .i64 pol, .int .i64 p, .slice a zs.length c] h fun v h' => ∃ a' c', v = .slice a' zs.length c' ∧ OwnH h' h.size TE 3 a' zs.length c' (zv (sortZ pol p zs)) ∧ New h h' := by
  obtain ⟨inst⟩ := inh (p := p) (by omega)
  refine fun_ok hm' Try.func57 (by kernel_rfl) (F57_eq _ _ _ _ _ _ h) ?_
  unfold F57
  refine new_of fun h1 b1 n1 s1 => new_of fun h2 b2 n2 s2 => new_of fun h3 b3 n3 s3 => ?_
  refine st_blk b3 (by rw [zeroF]; omega) fun h4 b4 o4 => ?_
  have b4 : Blk h4 h2.size #[.func (.func 66) #[] #[.pointer (some ⟨h1.size, 0, none⟩)]] 114 := by
    have e : (zeroC Try.prog 114).setIfInBounds 0 (.func (.func 66) #[] #[.pointer (some ⟨h1.size, 0, none⟩)]) = #[.func (.func 66) #[] #[.pointer (some ⟨h1.size, 0, none⟩)]] := by
      have hz := zeroF
      generalize zeroC Try.prog 114 = Z0 at hz
      apply Array.ext
      · simpa using hz
      · intro i h1 h2
        have : i = 0 := by simp at h2; omega
        subst this; simp
    exact e ▸ b4
  have n24 : New h2 h4 := o4.upd.new n3 (Nat.le_refl _)
  have n04 := (n1.trans n2).trans n24
  have b1' := (b1.new n2).new n24
  have b2' := b2.new n24
  have hz4 := o4.size
  refine call_of (R := fun v h5 => ∃ q, v = .func (.func 78) #[] #[.pointer (some ⟨q, 0, none⟩)] ∧ Blk h5 q #[.slice a zs.length c] 60 ∧ New h4 h5) ?_ ?_
  · refine fun_ok hm' Try.func68 (by kernel_rfl) (F68_eq _ _ _ _ h4) ?_
    unfold F68
    exact new_of fun h5 b5 n5 s5 => ⟨h4.size, rfl, b5, n5⟩
  rintro v h5 ⟨q, rfl, b5, n5⟩
  refine ⟨_, rfl, call_of (R := fun v h' => ∃ a' c', v = .slice a' zs.length c' ∧ OwnH h' h5.size TE 3 a' zs.length c' (zv (sortZ pol p zs)) ∧ New h5 h') ?_ ?_⟩
  · refine fun_ok hm' Try.func67 (by kernel_rfl) (F67_eq _ _ _ h5) ?_
    unfold F67
    refine call_of (R := fun v h' => ∃ a' c', v = .slice a' zs.length c' ∧ OwnH h' h5.size TE 3 a' zs.length c' (zv zs) ∧ New h5 h') ?_ ?_
    · refine fun_ok hm' Try.func76 (by kernel_rfl) (F76_eq _ _ h5) ?_
      unfold F76
      refine call_of (append_ok h5 q a c zs (by omega) b5 (r.new (n04.trans n5))) ?_
      rintro v h6 ⟨a', c', rfl, ow, n6⟩
      exact ⟨(a', zs.length, c'), rfl, a', c', rfl, ow, n6⟩
    rintro v h6 ⟨a', c', rfl, ow, n6⟩
    refine ⟨(a', zs.length, c'), rfl, ?_⟩
    cases ha : a' with
    | none =>
      subst ha
      have h0 : zs.length = 0 := by
        rcases ow.row.2 with ⟨_, h0, _⟩ | ⟨_, _, e, _⟩
        · exact h0
        · cases e
      have hz : zs = [] := List.eq_nil_of_length_eq_zero h0
      subst hz
      refine call_of (sort0_ok h6 none c' _) ?_
      rintro v h' ⟨rfl, hh⟩; subst h'
      exact ⟨(), rfl, none, c', rfl, ow, n6⟩
    | some a'' =>
      subst ha
      obtain ⟨g, rfl, hgb, hgl⟩ : ∃ g, a'' = ⟨g, 0, none⟩ ∧ h5.size ≤ g ∧ g < h6.size := by
        rcases ow.row.2 with ⟨e, _⟩ | ⟨g, cur, e, hb, hbl, _⟩
        · cases e
        · injection e with e; exact ⟨g, e, hb, hbl.lt⟩
      have n46 := n5.trans n6
      have l1 := b1'.lt; have l2 := b2'.lt; have l4 := b4.lt
      have s5 := n5.size
      refine call_of (sort_ok (pol := pol) hg hl ow (cmp_ok hp.2 (b1'.new n46) (b4.new n46) (b2'.new n46) (by omega) (by omega) (by omega))) ?_
      rintro v h7 ⟨rfl, ow7, u7⟩
      exact ⟨(), rfl, _, c', rfl, ow7, u7.new n6 (by omega)⟩
  rintro v h6 ⟨a', c', rfl, ow, n6⟩
  have s5 := n5.size
  have s04 := n04.size
  exact ⟨(a', zs.length, c'), rfl, a', c', rfl, ow.low (by omega), n04.trans (n5.trans n6)⟩
theorem ids_ok (h : Heap) (a : Option Addr) (c n : Nat) (zs : List Z) (hn : n = zs.length) (hl : zs.length ≤ 1000) (r : Zr h a zs) :
    CallsH Try.prog 56 [.slice a n c] h fun v h' => ∃ a' c', v = .slice a' (zs.map Prod.fst).length c' ∧ Got .i64 TI h h' a' c' (zs.map Prod.fst) := by
  subst hn
  refine fun_ok hm' Try.func56 (by kernel_rfl) (F56_eq _ _ _ _ h) ?_
  unfold F56
  refine ⟨fun (s : (Option Addr × Nat × Nat) × Int) h' => ∃ i : Nat, s.2 = i ∧ i ≤ zs.length ∧ s.1.2.1 = ((zs.take i).map Prod.fst).length ∧ Grow h none h' TI 1 s.1.1 s.1.2.1 s.1.2.2 (((zs.take i).map Prod.fst).map (Value.int .i64)), fun (s : (Option Addr × Nat × Nat) × Int) _ => ((zs.length : Int) - s.2).toNat, ⟨0, rfl, Nat.zero_le _, rfl, Grow.start (a := none) (RowS.nil h TI 1)⟩, ?_⟩
  rintro ⟨⟨oa, on, oc⟩, s⟩ j h1 ⟨i, hs, hi, hon, g1⟩
  simp only [] at hs hon g1
  subst hs; subst hon
  have q1 := g1.got (New.refl h) (fun b e => by cases e)
  refine br_of (fun hlt => ?_) (fun hlt => ?_)
  · have hlt : (i : Int) < (zs.length : Int) := of_decide_eq_true hlt
    have hiL : i < zs.length := by omega
    have htk : zs.take (i + 1) = zs.take i ++ [zs[i]] := (List.take_append_getElem hiL).symm
    refine (r.new q1.new).ld hiL hiL (new_stL (by rw [zeroZ]; rfl) fun h2 b2 n2 s2 => ?_)
    have b2 : Blk h2 h1.size (encL zs[i]).toArray TE := b2
    refine ld_of (c := .int .i64) zs[i].1 (by rw [add_mk, cellH_blk b2]; rfl) ?_
    refine Grow.push apI (v := .int .i64 zs[i].1) (g1.new n2) rfl (by simp; omega) (by omega) fun a3 c3 h3 g3 => ?_
    rw [wr64 (by omega) (by omega)]
    have e3 : (zs.take (i + 1)).map Prod.fst = (zs.take i).map Prod.fst ++ [zs[i].1] := by rw [htk, List.map_append]; rfl
    refine ⟨⟨i + 1, rfl, hiL, by rw [e3, List.length_append]; rfl, ?_⟩, (by first | omega | (dsimp only; omega) | (simp only []; omega))⟩
    rw [e3, List.map_append]; exact g3
  · have hlt : ¬ (i : Int) < (zs.length : Int) := of_decide_eq_false hlt
    have : i = zs.length := by omega
    subst this
    rw [List.take_length] at q1 ⊢
    exact ⟨oa, oc, rfl, q1⟩
theorem order_ok {pol p : Int} (hp : 1 ≤ p ∧ p ≤ 16) (h : Heap) (a : Option Addr) (c : Nat) (zs : List Z) (hg : Goods p zs) (hl : zs.length < 256) (r : Zr h a zs) :
    CallsH Try.prog 37 [.int .i64 pol, .int .i64 p, .slice a zs.length c] h fun v h' => ∃ a' c', v = .slice a' ((sortZ pol p zs).map Prod.fst).length c' ∧ Got .i64 TI h h' a' c' ((sortZ pol p zs).map Prod.fst) := by
  refine fun_ok hm' Try.func37 (by kernel_rfl) (F37_eq _ _ _ _ _ _ h) ?_
  unfold F37
  refine call_of (ordered_ok hp h a c zs hg hl r) ?_
  rintro v h1 ⟨a1, c1, rfl, ow, n1⟩
  have hlen := (sortZ_perm pol p zs).length_eq
  refine ⟨(a1, zs.length, c1), rfl, call_of (ids_ok h1 a1 c1 zs.length (sortZ pol p zs) hlen.symm (by omega) (Zr.own ow)) ?_⟩
  rintro v h2 ⟨a2, c2, rfl, q2⟩
  exact ⟨(a2, _, c2), rfl, a2, c2, rfl, q2.before n1⟩
theorem sumV_bound {p : Int} {l : List Z} (h : ∀ z ∈ l, okZ p z) (hp : p ≤ 16) : 0 ≤ sumV l ∧ sumV l ≤ 16 * (l.length : Int) := by
  induction l with
  | nil => simp [sumV]
  | cons z l ih =>
    have h1 := h z (by simp)
    have h2 := ih fun y hy => h y (by simp [hy])
    have := h1.v0; have := h1.v1
    rw [sumV_cons, List.length_cons]; omega
theorem sumV_take {l : List Z} {i : Nat} (hi : i < l.length) : sumV (l.take (i + 1)) = sumV (l.take i) + l[i].2.1 := by
  rw [← List.take_append_getElem hi, sumV_app]; simp [sumV]
/-- The choice among zones that stand in their order: or the rest of the call. -/
theorem pick_loop {pol p extra : Int} (hp : 1 ≤ p ∧ p ≤ 16) (he : 0 ≤ extra ∧ extra ≤ 16) {a3 : Option Addr} {l3 c3 : Nat} {h h1 : Heap} {a : Option Addr} {c : Nat} {os : List Z} (hok : ∀ z ∈ os, okZ p z) (hl : os.length ≤ 256) (hc : os.length ≤ c) (r : Zr h1 a os) (n01 : New h h1)
    {K : Value → Heap → Prop} (hsome : ∀ k h' a' c', pick p 0 extra os = some k → Got .i64 TI h h' a' c' ((os.take k).map Prod.fst) → K (.slice a' ((os.take k).map Prod.fst).length c') h') (hnone : ∀ h', pick p 0 extra os = none → New h h' → br (pol != (0 : Int))
      (callT Try.prog 40 [.int .i64 0, .int .i64 p, .int .i64 extra, .slice a3 l3 c3] [.sc .slice] (fun (r17 : (Option Addr × Nat × Nat)) h18 => K (.slice r17.1 r17.2.1 r17.2.2) h18) h')
      (K (.slice none 0 0) h')) :
    loopT [.sc (.int .i64), .sc (.int .i64)] (fun (s4 : Int × Int) _ (K3 : (Int × Int) → Heap → Prop) h5 =>
  br (decide (s4.2 < (((os.length : Nat) : Int))))
  (ptrW a (fun a6 =>
  idxW s4.2 os.length true (ldAggW [.int .i64, .int .i64, .int .u32] (Addr.add a6 (Int.toNat s4.2 * 3)) (fun (x7 : Int × Int × Int) =>
  newW (.cells (zeroC Try.prog TE) TE) (fun a8 h9 =>
  stLW a8 [.int .i64 x7.1, .int .i64 x7.2.1, .int .u32 x7.2.2] (fun h10 =>
  ldW (.int .i64) (Addr.add a8 1) (fun (x11 : Int) =>
  ckB (!decide (p = 0)) (br (decide ((IntKind.wrap .i64 (Int.tdiv (IntKind.wrap .i64 ((IntKind.wrap .i64 ((IntKind.wrap .i64 (s4.1 + x11)) + p)) - (1 : Int))) p)) ≤ (mm2 false s4.2 (3 : Int))))
  (slW a c 3 (0 : Int) (IntKind.wrap .i64 (s4.2 + (1 : Int))) (((c : Nat) : Int)) (fun b12 n13 c14 =>
  callT Try.prog 56 [.slice b12 n13 c14] [.sc .slice] (fun (r15 : (Option Addr × Nat × Nat)) h16 =>
  K (.slice r15.1 r15.2.1 r15.2.2) h16) h10))
  (K3 ((IntKind.wrap .i64 (s4.1 + x11)), (IntKind.wrap .i64 (s4.2 + (1 : Int)))) h10))) h10) h9) h5) h5)))
  (br (pol != (0 : Int))
  (callT Try.prog 40 [.int .i64 0, .int .i64 p, .int .i64 extra, .slice a3 l3 c3] [.sc .slice] (fun (r17 : (Option Addr × Nat × Nat)) h18 =>
  K (.slice r17.1 r17.2.1 r17.2.2) h18) h5)
  (K (.slice none 0 0) h5))) (extra, (0 : Int)) h1 := by
  obtain ⟨G, hG⟩ : ∃ G, pick p 0 extra os = G := ⟨_, rfl⟩
  refine ⟨fun (s : Int × Int) h' => ∃ i : Nat, s = (extra + sumV (os.take i), (i : Int)) ∧ i ≤ os.length ∧ New h1 h' ∧ pick p i (extra + sumV (os.take i)) (os.drop i) = G, fun (s : Int × Int) _ => ((os.length : Int) - s.2).toNat, ⟨0, by rw [List.take_zero, sumV_nil, Int.add_zero]; rfl, Nat.zero_le _, New.refl _, by rw [List.take_zero, sumV_nil, Int.add_zero, List.drop_zero]; exact hG⟩, ?_⟩
  rintro s j h2 ⟨i, rfl, hi, n2, hpk⟩
  refine br_of (fun hlt => ?_) (fun hlt => ?_)
  · have hlt : (i : Int) < (os.length : Int) := of_decide_eq_true hlt
    have hiL : i < os.length := by omega
    have hb := sumV_bound (p := p) (l := os.take (i + 1)) (fun z hz => hok z (List.mem_of_mem_take hz)) hp.2
    have hb0 := sumV_bound (p := p) (l := os.take i) (fun z hz => hok z (List.mem_of_mem_take hz)) hp.2
    have ht := sumV_take hiL
    have hl1 : (os.take (i + 1)).length ≤ 256 := by rw [List.length_take]; omega
    have hl0 : (os.take i).length ≤ 256 := by rw [List.length_take]; omega
    rw [List.drop_eq_getElem_cons hiL] at hpk
    unfold pick at hpk
    refine (r.new n2).ld hiL hiL (new_stL (by rw [zeroZ]; rfl) fun h3 b3 n3 s3 => ?_)
    have b3 : Blk h3 h2.size (encL os[i]).toArray TE := b3
    have n13 := n2.trans n3
    have hv0 := (hok os[i] (List.getElem_mem hiL)).v0
    generalize hV : os[i].2.1 = V at *
    refine ld_of (c := .int .i64) V (by rw [add_mk, cellH_blk b3, ← hV]; rfl) (ck_t (by simp; omega) ?_)
    have e1 : IntKind.wrap .i64 (extra + sumV (os.take i) + V) = extra + sumV (os.take (i + 1)) := by rw [wr64 (by omega) (by omega)]; omega
    have e2 : IntKind.wrap .i64 ((i : Int) + 1) = ((i + 1 : Nat) : Int) := (by first | (rw [wr64 (by omega) (by omega)]; omega) | (simp only [IntKind.wrap_i64]; omega))
    dsimp only
    rw [e1, e2, mm2_min, wr64 (n := extra + sumV (os.take (i + 1)) + p) (by omega) (by omega), wr64 (n := extra + sumV (os.take (i + 1)) + p - 1) (by omega) (by omega), Int.tdiv_eq_ediv_of_nonneg (by omega)]
    have hd0 : 0 ≤ (extra + sumV (os.take (i + 1)) + p - 1) / p := Int.ediv_nonneg (by omega) (by omega)
    have hd1 : (extra + sumV (os.take (i + 1)) + p - 1) / p ≤ extra + sumV (os.take (i + 1)) + p - 1 := Int.ediv_le_self _ (by omega)
    have hD : IntKind.wrap .i64 ((extra + sumV (os.take (i + 1)) + p - 1) / p) = (extra + sumV (os.take (i + 1)) + p - 1) / p := by
      generalize (extra + sumV (os.take (i + 1)) + p - 1) / p = D at hd0 hd1 ⊢
      exact wr64 (by omega) (by omega)
    rw [hD]
    have e3 : extra + sumV (os.take i) + V = extra + sumV (os.take (i + 1)) := by omega
    rw [e3] at hpk
    refine br_of (fun hn => ?_) (fun hn => ?_)
    · have hn : needB p (extra + sumV (os.take (i + 1))) i = true := hn
      rw [if_pos hn] at hpk
      refine pre_of (by omega) (call_of (ids_ok h3 _ c (i + 1) (os.take (i + 1)) (by rw [List.length_take]; omega) (by omega) ((r.new n13).take c (i + 1) hc)) ?_)
      rintro v h4 ⟨a4, c4, rfl, q4⟩
      exact ⟨(a4, _, c4), rfl, hsome (i + 1) h4 a4 c4 (hG.trans hpk.symm) (q4.before (n01.trans n13))⟩
    · have hn : ¬ needB p (extra + sumV (os.take (i + 1))) i = true := by
        have hn : needB p (extra + sumV (os.take (i + 1))) i = false := hn
        rw [hn]; simp
      rw [if_neg hn] at hpk
      exact ⟨⟨i + 1, rfl, hiL, n13, hpk⟩, (by first | omega | (dsimp only; omega) | (simp only []; omega))⟩
  · have hlt : ¬ (i : Int) < (os.length : Int) := of_decide_eq_false hlt
    have : i = os.length := by omega
    subst this
    rw [List.drop_length] at hpk
    exact hnone h2 (hG.trans hpk.symm) (n01.trans n2)
theorem chooseG_ok {p extra : Int} (hp : 1 ≤ p ∧ p ≤ 16) (he : 0 ≤ extra ∧ extra ≤ 16) (h : Heap) (a : Option Addr) (c : Nat) (zs : List Z) (hg : Goods p zs) (hl : zs.length < 256) (r : Zr h a zs) :
    CallsH Try.prog 40 [.int .i64 0, .int .i64 p, .int .i64 extra, .slice a zs.length c] h fun v h' => ∃ a' c', v = .slice a' ((chosen 0 p extra zs).map Prod.fst).length c' ∧ Got .i64 TI h h' a' c' ((chosen 0 p extra zs).map Prod.fst) := by
  refine fun_ok hm' Try.func40 (by kernel_rfl) (F40_eq _ _ _ _ _ _ _ h) ?_
  unfold F40
  refine call_of (ordered_ok hp h a c zs hg hl r) ?_
  rintro v h1 ⟨a1, c1, rfl, ow, n1⟩
  have hperm := sortZ_perm 0 p zs
  have hlen := hperm.length_eq
  have hcap := ow.cap
  refine ⟨(a1, zs.length, c1), rfl, ?_⟩
  have key := pick_loop (pol := 0) hp he (c := c1) (a3 := a) (l3 := zs.length) (c3 := c) (K := fun v h' => ∃ a' c', v = .slice a' ((chosen 0 p extra zs).map Prod.fst).length c' ∧ Got .i64 TI h h' a' c' ((chosen 0 p extra zs).map Prod.fst)) (hg.perm hperm).ok (by omega) (by omega) (Zr.own ow) n1 ?_ ?_
  · rw [hlen] at key; exact key
  · intro k h' a' c' hk q
    have e : chosen 0 p extra zs = (sortZ 0 p zs).take k := by unfold chosen; rw [hk]
    rw [e]; exact ⟨a', c', rfl, q⟩
  · intro h' hk n
    have e : chosen 0 p extra zs = [] := by unfold chosen; rw [hk]; rfl
    rw [e]
    exact br_f rfl ⟨none, 0, rfl, Got.nil _ _ n⟩
theorem choose_ok {pol p extra : Int} (hp : 1 ≤ p ∧ p ≤ 16) (he : 0 ≤ extra ∧ extra ≤ 16) (h : Heap) (a : Option Addr) (c : Nat) (zs : List Z) (hg : Goods p zs) (hl : zs.length < 256) (r : Zr h a zs) :
    CallsH Try.prog 40 [.int .i64 pol, .int .i64 p, .int .i64 extra, .slice a zs.length c] h fun v h' => ∃ a' c', v = .slice a' ((chosen pol p extra zs).map Prod.fst).length c' ∧ Got .i64 TI h h' a' c' ((chosen pol p extra zs).map Prod.fst) := by
  by_cases hpol : pol = 0
  · subst hpol; exact chooseG_ok hp he h a c zs hg hl r
  refine fun_ok hm' Try.func40 (by kernel_rfl) (F40_eq _ _ _ _ _ _ _ h) ?_
  unfold F40
  refine call_of (ordered_ok hp h a c zs hg hl r) ?_
  rintro v h1 ⟨a1, c1, rfl, ow, n1⟩
  have hperm := sortZ_perm pol p zs
  have hlen := hperm.length_eq
  have hcap := ow.cap
  refine ⟨(a1, zs.length, c1), rfl, ?_⟩
  have key := pick_loop (pol := pol) hp he (c := c1) (a3 := a) (l3 := zs.length) (c3 := c) (K := fun v h' => ∃ a' c', v = .slice a' ((chosen pol p extra zs).map Prod.fst).length c' ∧ Got .i64 TI h h' a' c' ((chosen pol p extra zs).map Prod.fst)) (hg.perm hperm).ok (by omega) (by omega) (Zr.own ow) n1 ?_ ?_
  · rw [hlen] at key; exact key
  · intro k h' a' c' hk q
    have e : chosen pol p extra zs = (sortZ pol p zs).take k := by unfold chosen; rw [hk]
    rw [e]; exact ⟨a', c', rfl, q⟩
  · intro h' hk n
    have e : chosen pol p extra zs = chosen 0 p extra zs := by
      unfold chosen
      rw [hk]
      simp only [if_neg hpol]
      cases pick p 0 extra (sortZ 0 p zs) <;> simp
    rw [e]
    refine br_t (by simpa using hpol) (call_of (chooseG_ok hp he h' a c zs hg hl (r.new n)) ?_)
    rintro v h2 ⟨a2, c2, rfl, q2⟩
    exact ⟨(a2, _, c2), rfl, a2, c2, rfl, q2.before n⟩
end Go.Proofs.Yticppjmldlhbiaa.VicT
