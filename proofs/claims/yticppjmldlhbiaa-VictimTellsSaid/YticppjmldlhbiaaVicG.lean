/-
  VictimGains of layer 12.
-/
import Derived.Test.YticppjmldlhbiaaVicL
namespace Go.Proofs.Yticppjmldlhbiaa.VicG
open Go.Pl Go.Proofs.Yticppjmldlhbiaa.W Go.Proofs.Yticppjmldlhbiaa.Vic Go.Proofs.Yticppjmldlhbiaa.VicW Go.Proofs.Yticppjmldlhbiaa.VicS Go.Proofs.Yticppjmldlhbiaa.VicT Go.Proofs.Yticppjmldlhbiaa.VicL
open Go.Proofs.Yticppjmldlhbiaa.So (hm' encL TE)
/- PLAIN. -/
theorem chosen_sub (pol p extra : Int) (zs : List Z) : ∃ (q k : _), chosen pol p extra zs = (sortZ q p zs).take k ∧ k ≤ zs.length ∧ (q = pol ∨ q = 0) ∧ ((k = 0 ∧ pick p 0 extra (sortZ 0 p zs) = none) ∨ pick p 0 extra (sortZ q p zs) = some k) := by
  have hl := fun q => (sortZ_perm q p zs).length_eq
  unfold chosen
  cases hk : pick p 0 extra (sortZ pol p zs) with
  | some k => exact ⟨pol, k, rfl, by have := (pick_some hk).2.1; have := hl pol; omega, .inl rfl, .inr hk⟩
  | none =>
    simp only []
    split
    · rename_i h0; subst h0; exact ⟨0, 0, rfl, by omega, .inl rfl, .inl ⟨rfl, hk⟩⟩
    · cases hk2 : pick p 0 extra (sortZ 0 p zs) with
      | some k => exact ⟨0, k, rfl, by have := (pick_some hk2).2.1; have := hl 0; omega, .inr rfl, .inr hk2⟩
      | none => exact ⟨0, 0, rfl, by omega, .inr rfl, .inl ⟨rfl, rfl⟩⟩
theorem chosen_len (pol p extra : Int) (zs : List Z) : (chosen pol p extra zs).length ≤ zs.length := by
  obtain ⟨q, k, e, h, _⟩ := chosen_sub pol p extra zs
  rw [e, List.length_take]; omega
theorem chosen_mem {pol p extra : Int} {zs : List Z} {z : Z} (h : z ∈ chosen pol p extra zs) : z ∈ zs := by
  obtain ⟨q, k, e, _⟩ := chosen_sub pol p extra zs
  rw [e] at h
  exact (sortZ_perm q p zs).mem_iff.1 (List.mem_of_mem_take h)
theorem chosen_need {pol p extra : Int} {zs : List Z} (h : (chosen pol p extra zs).length ≠ 0) : needB p (extra + sumV (chosen pol p extra zs)) ((chosen pol p extra zs).length - 1) = true := by
  obtain ⟨q, k, e, hk, _, ⟨k0, _⟩ | hp⟩ := chosen_sub pol p extra zs
  · rw [e, k0] at h; simp at h
  · obtain ⟨k1, k2, k3⟩ := pick_some hp
    have : ((sortZ q p zs).take k).length = k := by rw [List.length_take]; omega
    rw [e, this]
    rw [Nat.sub_zero] at k3; exact k3
theorem chosen_none {pol p extra : Int} {zs : List Z} (hp : 1 ≤ p) (hg : Goods p zs) (he : extra ≤ p) (h4 : 4 ≤ zs.length) (h : (chosen pol p extra zs).length = 0) : (zs.length : Int) * p < 2 * sumV zs := by
  refine Int.not_le.1 fun hs => ?_
  obtain ⟨k, hk⟩ := pick_four hp hg he h4 hs
  obtain ⟨q, k', e, hk', _, ⟨k0, hn⟩ | hp⟩ := chosen_sub pol p extra zs
  · rw [hn] at hk; cases hk
  · obtain ⟨k1, k2, k3⟩ := pick_some hp
    rw [e, List.length_take] at h
    omega
theorem id_inj {zs : List Z} (hd : (zs.map Prod.fst).Nodup) {i j : Nat} (hi : i < zs.length) (hj : j < zs.length) (e : zs[i].1 = zs[j].1) : i = j := by
  rw [List.nodup_iff_pairwise_ne, List.pairwise_map, List.pairwise_iff_getElem] at hd
  rcases Nat.lt_trichotomy i j with h | h | h
  · exact (hd i j hi hj h e).elim
  · exact h
  · exact (hd j i hj hi h e.symm).elim
/- THE LAW. -/
theorem gains_law (h : Heap) (v0 v1 v2 v3 : Value) (pol p extra : Int) (zs : List Z) (r0 : ReadsV h (.int .i64) v0 pol) (r1 : ReadsV h (.int .i64) v1 p) (r2 : ReadsV h (.int .i64) v2 extra) (r3 : ReadsV h (.slice ZS) v3 zs) :
    CallsH Try.prog 7 [v0, v1, v2, v3] h fun v h' => v = .bool true ∧ New h h' := by
  obtain ⟨rfl⟩ : v0 = .int .i64 pol := by obtain ⟨cs, hcs, e, _⟩ := r0; simp only at hcs; subst hcs; injection e
  obtain ⟨rfl⟩ : v1 = .int .i64 p := by obtain ⟨cs, hcs, e, _⟩ := r1; simp only at hcs; subst hcs; injection e
  obtain ⟨rfl⟩ : v2 = .int .i64 extra := by obtain ⟨cs, hcs, e, _⟩ := r2; simp only at hcs; subst hcs; injection e
  obtain ⟨la, lc, rfl, hcap, _, _, sl⟩ := SlAt.reads r3
  obtain ⟨rz, hage⟩ := zr_of sl
  refine fun_ok hm' Try.func7 (by kernel_rfl) (F7_eq pol p extra la zs.length lc _ h) ?_
  unfold F7
  refine call_of (awake_ok h) ?_
  rintro v h1 ⟨rfl, n1⟩
  refine ⟨true, rfl, br_f rfl (cut_q (ts := []) (fun _ h' => New h h' ∧ outB p zs = false ∧ 0 ≤ extra ∧ extra ≤ p) ?_ ?_)⟩
  rotate_left
  · intro K hK
    refine call_of (out_ok h1 p la lc zs (rz.new n1)) ?_
    rintro v h2 ⟨rfl, n2⟩
    refine ⟨_, rfl, br_of (fun _ => ⟨rfl, n1.trans n2⟩) fun ho => br_of (fun _ => ⟨rfl, n1.trans n2⟩) fun h3 => br_of (fun _ => ⟨rfl, n1.trans n2⟩) fun h4 => hK () _ ⟨n1.trans n2, ho, ?_, ?_⟩⟩
    · have := of_decide_eq_false h3; omega
    · have := of_decide_eq_false h4; omega
  rintro _ h2 ⟨n2, ho, he0, he1⟩ _
  obtain ⟨hp, hg, hl⟩ := out_facts ho hage
  refine call_of (choose_ok (pol := pol) hp ⟨he0, by omega⟩ h2 la lc zs hg (by omega) (rz.new n2)) ?_
  rintro v h3 ⟨a3, c3, rfl, q3⟩
  refine ⟨(a3, _, c3), rfl, ?_⟩
  have hclen := chosen_len pol p extra zs
  have hcok : ∀ z ∈ chosen pol p extra zs, okZ p z := fun z hz => hg.ok z (chosen_mem hz)
  have hneed := chosen_need (pol := pol) (p := p) (extra := extra) (zs := zs)
  have hnone := chosen_none (pol := pol) (extra := extra) hp.1 hg he1
  have hmemC : ∀ z ∈ chosen pol p extra zs, z ∈ zs := fun z hz => chosen_mem hz
  generalize chosen pol p extra zs = C at q3 hclen hcok hneed hnone hmemC ⊢
  have hCm : (C.map Prod.fst).length = C.length := by simp
  rw [hCm]
  have n03 := n2.trans q3.new
  -- all the live pages
  refine ⟨fun (s : Int × Int) h' => ∃ i : Nat, s = (sumV (zs.take i), (i : Int)) ∧ i ≤ zs.length ∧ New h3 h', fun (s : Int × Int) _ => ((zs.length : Int) - s.2).toNat, ⟨0, rfl, Nat.zero_le _, New.refl _⟩, ?_⟩
  rintro s j h4 ⟨i, rfl, hi, n4⟩
  refine br_of (fun hlt => ?_) (fun hlt => ?_)
  · have hlt : (i : Int) < (zs.length : Int) := of_decide_eq_true hlt
    have hiL : i < zs.length := by omega
    have ht := sumV_take hiL
    have hb := sumV_bound (p := p) (l := zs.take (i + 1)) (fun z hz => hg.ok z (List.mem_of_mem_take hz)) hp.2
    have hl1 : (zs.take (i + 1)).length ≤ 24 := by rw [List.length_take]; omega
    refine (rz.new (n03.trans n4)).ld hiL hiL (new_stL (by rw [zeroZ]; rfl) fun h5 b5 n5 s5 => ?_)
    have b5 : Blk h5 h4.size (encL zs[i]).toArray TE := b5
    refine ld_of (c := .int .i64) zs[i].2.1 (by rw [add_mk, cellH_blk b5]; rfl) ?_
    have e1 : IntKind.wrap .i64 (sumV (zs.take i) + zs[i].2.1) = sumV (zs.take (i + 1)) := by rw [← ht]; exact wr64 (by omega) (by omega)
    have e2 : IntKind.wrap .i64 ((i : Int) + 1) = ((i + 1 : Nat) : Int) := (by first | (rw [wr64 (by omega) (by omega)]; omega) | (simp only [IntKind.wrap_i64]; omega))
    dsimp only
    rw [e1, e2]
    exact ⟨⟨i + 1, rfl, hiL, n4.trans n5⟩, (by first | omega | (dsimp only; omega) | (simp only []; omega))⟩
  have hlt : ¬ (i : Int) < (zs.length : Int) := of_decide_eq_false hlt
  have : i = zs.length := by omega
  subst this
  rw [List.take_length]
  -- what the chosen zones hold
  refine ⟨fun (s : Int × Int) h' => ∃ i : Nat, s = (extra + sumV (C.take i), (i : Int)) ∧ i ≤ C.length ∧ New h4 h', fun (s : Int × Int) _ => ((C.length : Int) - s.2).toNat, ⟨0, by rw [List.take_zero, sumV_nil, Int.add_zero]; rfl, Nat.zero_le _, New.refl _⟩, ?_⟩
  rintro s j h5 ⟨i, rfl, hi, n5⟩
  have n05 := n03.trans (n4.trans n5)
  have n35 := n4.trans n5
  refine br_of (fun hlt => ?_) (fun hlt => ?_)
  · have hlt : (i : Int) < (C.length : Int) := of_decide_eq_true hlt
    have hiL : i < C.length := by omega
    have hiM : i < (C.map Prod.fst).length := by omega
    have ht := sumV_take hiL
    have hb := sumV_bound (p := p) (l := C.take (i + 1)) (fun z hz => hcok z (List.mem_of_mem_take hz)) hp.2
    have hl1 : (C.take (i + 1)).length ≤ 24 := by rw [List.length_take]; omega
    have hv0 := (hcok C[i] (List.getElem_mem hiL)).v0
    obtain ⟨m, hm, hmz⟩ := List.getElem_of_mem (hmemC C[i] (List.getElem_mem hiL))
    refine ix_ld (q3.ar.new n35) hiM hiL ?_
    rw [List.getElem_map]
    refine ⟨fun (s : Int × Bool × Int) h' => ∃ k : Nat, s = (if k ≤ m then extra + sumV (C.take i) else extra + sumV (C.take (i + 1)), decide (m < k), (k : Int)) ∧ k ≤ zs.length ∧ New h5 h', fun (s : Int × Bool × Int) _ => ((zs.length : Int) - s.2.2).toNat, ⟨0, by rw [if_pos (Nat.zero_le _), decide_eq_false (by omega)]; rfl, Nat.zero_le _, New.refl _⟩, ?_⟩
    rintro s j2 h6 ⟨k, rfl, hk, n6⟩
    have ek : IntKind.wrap .i64 ((k : Int) + 1) = ((k + 1 : Nat) : Int) := (by first | (rw [wr64 (by omega) (by omega)]; omega) | (simp only [IntKind.wrap_i64]; omega))
    refine br_of (fun hlt2 => ?_) (fun hlt2 => ?_)
    · have hlt2 : (k : Int) < (zs.length : Int) := of_decide_eq_true hlt2
      have hkL : k < zs.length := by omega
      refine (rz.new (n05.trans n6)).ld hkL hkL (new_stL (by rw [zeroZ]; rfl) fun h7 b7 n7 s7 => ?_)
      have b7 : Blk h7 h6.size (encL zs[k]).toArray TE := b7
      refine ld_of (c := .int .i64) zs[k].1 (by rw [add_mk, cellH_blk b7]; rfl) (br_of (fun he => ?_) (fun he => ?_))
      · have he : zs[k].1 = C[i].1 := by simpa using he
        have : k = m := id_inj hg.ids hkL hm (by rw [he, hmz])
        subst this
        refine ld_of (c := .int .i64) zs[k].2.1 (by rw [add_mk, cellH_blk b7]; rfl) ?_
        dsimp only
        rw [if_pos (Nat.le_refl _), ek, hmz]
        have e1 : IntKind.wrap .i64 (extra + sumV (C.take i) + C[i].2.1) = extra + sumV (C.take (i + 1)) := by rw [wr64 (by omega) (by omega)]; omega
        rw [e1]
        exact ⟨⟨k + 1, by rw [if_neg (by omega), decide_eq_true (by omega)], hkL, n6.trans n7⟩, (by first | omega | (dsimp only; omega) | (simp only []; omega))⟩
      · have he : zs[k].1 ≠ C[i].1 := by simpa using he
        have hne : k ≠ m := fun e => by subst e; exact he (by rw [hmz])
        dsimp only
        rw [ek]
        refine ⟨⟨k + 1, ?_, hkL, n6.trans n7⟩, (by first | omega | (dsimp only; omega) | (simp only []; omega))⟩
        by_cases hkm : k ≤ m
        · rw [if_pos hkm, if_pos (by omega), decide_eq_false (by omega), decide_eq_false (by omega)]
        · rw [if_neg hkm, if_neg (by omega), decide_eq_true (by omega), decide_eq_true (by omega)]
    · have hlt2 : ¬ (k : Int) < (zs.length : Int) := of_decide_eq_false hlt2
      have ei : IntKind.wrap .i64 ((i : Int) + 1) = ((i + 1 : Nat) : Int) := (by first | (rw [wr64 (by omega) (by omega)]; omega) | (simp only [IntKind.wrap_i64]; omega))
      dsimp only
      rw [if_neg (by omega), decide_eq_true (show m < k by omega), ei]
      exact br_f rfl ⟨⟨i + 1, rfl, hiL, n5.trans n6⟩, (by first | omega | (dsimp only; omega) | (simp only []; omega))⟩
  have hlt : ¬ (i : Int) < (C.length : Int) := of_decide_eq_false hlt
  have : i = C.length := by omega
  subst this
  dsimp only
  rw [List.take_length]
  have hb := sumV_bound (p := p) (l := C) hcok hp.2
  have hbz := sumV_bound (p := p) (l := zs) hg.ok hp.2
  have hd0 : 0 ≤ (extra + sumV C + p - 1) / p := Int.ediv_nonneg (by omega) (by omega)
  have hd1 : (extra + sumV C + p - 1) / p ≤ extra + sumV C + p - 1 := Int.ediv_le_self _ (by omega)
  have hD : IntKind.wrap .i64 ((extra + sumV C + p - 1) / p) = (extra + sumV C + p - 1) / p := by
    generalize (extra + sumV C + p - 1) / p = D at hd0 hd1 ⊢
    exact wr64 (by omega) (by omega)
  rw [wr64 (n := extra + sumV C + p) (by omega) (by omega), wr64 (n := extra + sumV C + p - 1) (by omega) (by omega), Int.tdiv_eq_ediv_of_nonneg (by omega), hD]
  refine ck_t (by simp; omega) (cut_q (ts := []) (fun _ h' => h' = h5) ?_ ?_)
  rotate_left
  · intro K hK
    refine br_of (fun h0 => ?_) fun _ => hK () _ rfl
    have h0 : (C.length : Int) > 0 := of_decide_eq_true h0
    have hn := of_decide_eq_true (hneed (by omega))
    refine br_f (decide_eq_false (by omega)) (br_f (decide_eq_false (by omega)) (br_f (decide_eq_false (by omega)) (hK () _ rfl)))
  rintro _ h' hh _; subst h'
  refine br_of (fun _ => ⟨rfl, n05⟩) fun h0 => br_of (fun _ => ⟨rfl, n05⟩) fun h4 => ⟨?_, n05⟩
  have h0 : ¬ (C.length : Int) > 0 := of_decide_eq_false h0
  have h4 : ¬ (zs.length : Int) < 4 := of_decide_eq_false h4
  have hh := hnone (by omega) (by omega)
  have hub : (zs.length : Int) * p ≤ 24 * 16 := Int.mul_le_mul (by omega) hp.2 (by omega) (by omega)
  have hlb : 0 ≤ (zs.length : Int) * p := Int.mul_nonneg (by omega) (by omega)
  generalize (zs.length : Int) * p = D at hh hub hlb ⊢
  rw [wr64 (n := 2 * sumV zs) (by omega) (by omega), wr64 (n := D) (by omega) (by omega)]
  show Value.bool (decide _) = _
  rw [decide_eq_true hh]
end Go.Proofs.Yticppjmldlhbiaa.VicG
