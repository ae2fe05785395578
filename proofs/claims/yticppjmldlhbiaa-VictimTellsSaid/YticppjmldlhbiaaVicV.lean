/-
  VictimTells of layer 12.
-/
import Derived.Test.YticppjmldlhbiaaVicR
namespace Go.Proofs.Yticppjmldlhbiaa.VicV
open Go.Pl Go.Proofs.Yticppjmldlhbiaa.W Go.Proofs.Yticppjmldlhbiaa.Vic Go.Proofs.Yticppjmldlhbiaa.VicW Go.Proofs.Yticppjmldlhbiaa.VicS Go.Proofs.Yticppjmldlhbiaa.VicT Go.Proofs.Yticppjmldlhbiaa.VicL Go.Proofs.Yticppjmldlhbiaa.VicG Go.Proofs.Yticppjmldlhbiaa.VicO Go.Proofs.Yticppjmldlhbiaa.VicR
open Go.Proofs.Yticppjmldlhbiaa.So (hm' encL TE)
theorem ceil_eq {p L s : Int} (hp : 1 ≤ p) (h0 : 0 ≤ L) (h1 : s = 0 ∨ (s - 1) * p < L) (h2 : L ≤ s * p) : (L + p - 1) / p = s := by
  refine Int.le_antisymm ?_ ?_
  · have : (L + p - 1) / p < s + 1 := Int.ediv_lt_of_lt_mul (by omega) (by rw [Int.add_mul, Int.one_mul]; omega)
    omega
  · refine Int.le_ediv_of_mul_le (by omega) ?_
    rcases h1 with h | h
    · subst h; rw [Int.zero_mul]; omega
    · rw [Int.sub_mul, Int.one_mul] at h; omega
theorem choose2_at {pol p extra : Int} (hp : 1 ≤ p ∧ p ≤ 16) (he : 0 ≤ extra ∧ extra ≤ 16) (zs : List Z) (hg : Goods p zs) (hl : zs.length ≤ 50)
    (H : pol ≠ 0 → ∀ (h : Heap) (a : Option Addr) (c : Nat), Zr h a zs → CallsH Try.prog 41 [.int .i64 0, .int .i64 p, .int .i64 extra, .slice a zs.length c] h fun v h' => ∃ a' c', v = .slice a' ((chosen 0 p extra zs).map Prod.fst).length c' ∧ Ar .i64 h' a' ((chosen 0 p extra zs).map Prod.fst) ∧ New h h')
    (h : Heap) (a : Option Addr) (c : Nat) (r : Zr h a zs) :
    CallsH Try.prog 41 [.int .i64 pol, .int .i64 p, .int .i64 extra, .slice a zs.length c] h fun v h' => ∃ a' c', v = .slice a' ((chosen pol p extra zs).map Prod.fst).length c' ∧ Ar .i64 h' a' ((chosen pol p extra zs).map Prod.fst) ∧ New h h' := by
  refine fun_ok hm' Try.func41 (by kernel_rfl) (F41_eq _ _ _ _ _ _ _ h) ?_
  unfold F41
  refine call_of (sorted_ok (pol := pol) hp h a c zs.length zs rfl hg hl r) ?_
  rintro v h1 ⟨a1, c1, rfl, ro, n1⟩
  refine ⟨(a1, _, c1), rfl, ?_⟩
  have hperm := sortZ_perm pol p zs
  have hlen := hperm.length_eq
  have hcap : (sortZ pol p zs).length ≤ c1 := ro.le
  have hok := (hg.perm hperm).ok
  obtain ⟨G, hG⟩ : ∃ G, pick p 0 extra (sortZ pol p zs) = G := ⟨_, rfl⟩
  have hsome : ∀ k, G = some k → chosen pol p extra zs = (sortZ pol p zs).take k := fun k e => by unfold chosen; rw [hG, e]
  have hnone : G = none → chosen pol p extra zs = if pol = 0 then [] else chosen 0 p extra zs := fun e => by
    by_cases h0 : pol = 0
    · rw [if_pos h0]; unfold chosen; rw [hG, e]; simp only [if_pos h0]
    · rw [if_neg h0]; unfold chosen; rw [hG, e]; simp only [if_neg h0]
      cases pick p 0 extra (sortZ 0 p zs) <;> simp
  generalize sortZ pol p zs = os at *
  refine ⟨fun (s : Int × Int) h' => ∃ i : Nat, s = (extra + sumV (os.take i), ((i + 1 : Nat) : Int)) ∧ i ≤ os.length ∧ New h1 h' ∧ pick p i (extra + sumV (os.take i)) (os.drop i) = G, fun (s : Int × Int) _ => ((os.length : Int) + 1 - s.2).toNat, ⟨0, by rw [List.take_zero, sumV_nil, Int.add_zero]; rfl, Nat.zero_le _, New.refl _, by rw [List.take_zero, sumV_nil, Int.add_zero, List.drop_zero]; exact hG⟩, ?_⟩
  rintro s j h2 ⟨i, rfl, hi, n2, hpk⟩
  refine br_of (fun hlt => ?_) (fun hlt => ?_)
  · have hlt : ((i + 1 : Nat) : Int) ≤ (os.length : Int) := of_decide_eq_true hlt
    have hiL : i < os.length := by omega
    have hb := sumV_bound (p := p) (l := os.take (i + 1)) (fun z hz => hok z (List.mem_of_mem_take hz)) hp.2
    have hb0 := sumV_bound (p := p) (l := os.take i) (fun z hz => hok z (List.mem_of_mem_take hz)) hp.2
    have ht := sumV_take hiL
    have hl1 : (os.take (i + 1)).length ≤ 50 := by rw [List.length_take]; omega
    rw [List.drop_eq_getElem_cons hiL] at hpk
    unfold pick at hpk
    have e0 : IntKind.wrap .i64 (((i + 1 : Nat) : Int) - 1) = (i : Int) := (by first | (rw [wr64 (by omega) (by omega)]; omega) | (simp only [IntKind.wrap_i64]; omega))
    have eL : IntKind.wrap .i64 (extra + sumV (os.take i) + os[i].2.1) = extra + sumV (os.take (i + 1)) := by rw [wr64 (by omega) (by omega)]; omega
    have eL2 : extra + sumV (os.take i) + os[i].2.1 = extra + sumV (os.take (i + 1)) := by omega
    have e2 : IntKind.wrap .i64 (((i + 1 : Nat) : Int) + 1) = ((i + 1 + 1 : Nat) : Int) := (by first | (rw [wr64 (by omega) (by omega)]; omega) | (simp only [IntKind.wrap_i64]; omega))
    dsimp only
    rw [e0]
    refine (Zr.row (ro.new n2)).ld1 (c := .int .i64) (k := 1) (x := os[i].2.1) hiL hiL rfl ?_
    rw [eL, e2]
    rw [eL2] at hpk
    have hL0 : 0 ≤ extra + sumV (os.take (i + 1)) := by omega
    have hL1 : extra + sumV (os.take (i + 1)) ≤ 900 := by omega
    generalize hL : extra + sumV (os.take (i + 1)) = L at hpk hL0 hL1 ⊢
    refine ⟨fun (s : Int) h' => h' = h2 ∧ 0 ≤ s ∧ (s = 0 ∨ (s - 1) * p < L), fun (s : Int) _ => (L - s).toNat, ⟨rfl, Int.le_refl 0, .inl rfl⟩, ?_⟩
    rintro s' j2 h' ⟨hh, hs0, hs1⟩; subst h'
    obtain ⟨s, es⟩ : ∃ s : Int, s = s' := ⟨s', rfl⟩
    subst es
    have hs0 : (0 : Int) ≤ s := hs0
    have hs1 : s = (0 : Int) ∨ (s - 1) * p < L := hs1
    have hsp0 : s * 1 ≤ s * p := Int.mul_le_mul_of_nonneg_left hp.1 hs0
    have hsb : s ≤ 1000 := by
      rcases hs1 with h | h
      · omega
      · by_cases h9 : s = 0
        · omega
        · have := Int.mul_le_mul_of_nonneg_left hp.1 (show 0 ≤ s - 1 by omega)
          omega
    have hsp1 : s * p ≤ 1000 * 16 := Int.mul_le_mul hsb hp.2 (by omega) (by omega)
    have hw : IntKind.wrap .i64 (s * p) = s * p := by
      generalize s * p = D at hsp0 hsp1 ⊢
      exact wr64 (by omega) (by omega)
    rw [hw]
    refine br_of (fun hx => ?_) (fun hx => ?_)
    · have hx : s * p < L := of_decide_eq_true hx
      have ew : IntKind.wrap .i64 (s + 1) = s + 1 := wr64 (by omega) (by omega)
      rw [ew]
      exact ⟨⟨rfl, by omega, .inr (by rw [Int.add_sub_cancel]; exact hx)⟩, (by first | omega | (dsimp only; omega) | (simp only []; omega))⟩
    · have hx : ¬ s * p < L := of_decide_eq_false hx
      have ec := ceil_eq hp.1 hL0 hs1 (by omega)
      have hN : needB p L i = decide (s ≤ min (i : Int) 3) := by unfold needB; rw [ec]
      refine cut_q (ts := [.sc .bool]) (fun (b : Bool) h' => h' = h2 ∧ b = needB p L i) ?_ ?_
      rotate_left
      · intro K hK
        refine br_of (fun hc => hK _ _ ⟨rfl, ?_⟩) (fun hc => hK _ _ ⟨rfl, ?_⟩)
        · have hc : s < ((i + 1 : Nat) : Int) := of_decide_eq_true hc
          rw [hN, decide_eq_decide]; omega
        · have hc : ¬ s < ((i + 1 : Nat) : Int) := of_decide_eq_false hc
          rw [hN]; exact (decide_eq_false (by omega)).symm
      rintro b h' ⟨hh, hb⟩ _; subst h'
      have hb : b = needB p L i := hb
      subst hb
      refine br_of (fun hn => ?_) (fun hn => ?_)
      · have hn : needB p L i = true := hn
        rw [if_pos hn] at hpk
        refine pre_of (by omega) (call_of (ids2_ok h2 _ c1 (i + 1) (os.take (i + 1)) (by rw [List.length_take]; omega) (by omega) ((Zr.row (ro.new n2)).take c1 (i + 1) hcap)) ?_)
        rintro v h4 ⟨a4, c4, rfl, q4, n4⟩
        rw [hsome (i + 1) hpk.symm]
        exact ⟨(a4, _, c4), rfl, a4, c4, rfl, q4, n1.trans (n2.trans n4)⟩
      · have hn : needB p L i = false := hn
        rw [if_neg (by rw [hn]; simp)] at hpk
        exact ⟨⟨i + 1, by rw [hL], hiL, n2, by rw [hL]; exact hpk⟩, (by first | omega | (dsimp only; omega) | (simp only []; omega))⟩
  · have hlt : ¬ ((i + 1 : Nat) : Int) ≤ (os.length : Int) := of_decide_eq_false hlt
    have : i = os.length := by omega
    subst this
    rw [List.drop_length] at hpk
    have e := hnone hpk.symm
    by_cases h0 : pol = 0
    · rw [if_pos h0] at e
      rw [e]
      exact br_f (by simpa using h0) ⟨none, 0, rfl, fun i x hx => by simp at hx, n1.trans n2⟩
    · rw [if_neg h0] at e
      rw [e]
      refine br_t (by simpa using h0) (call_of (H h0 h2 a c (r.new (n1.trans n2))) ?_)
      rintro v h3 ⟨a3, c3, rfl, q3, n3⟩
      exact ⟨(a3, _, c3), rfl, a3, c3, rfl, q3, n1.trans (n2.trans n3)⟩
theorem choose2_ok {pol p extra : Int} (hp : 1 ≤ p ∧ p ≤ 16) (he : 0 ≤ extra ∧ extra ≤ 16) (zs : List Z) (hg : Goods p zs) (hl : zs.length ≤ 50) (h : Heap) (a : Option Addr) (c : Nat) (r : Zr h a zs) :
    CallsH Try.prog 41 [.int .i64 pol, .int .i64 p, .int .i64 extra, .slice a zs.length c] h fun v h' => ∃ a' c', v = .slice a' ((chosen pol p extra zs).map Prod.fst).length c' ∧ Ar .i64 h' a' ((chosen pol p extra zs).map Prod.fst) ∧ New h h' :=
  choose2_at hp he zs hg hl (fun _ => choose2_at (pol := 0) hp he zs hg hl (fun h => (h rfl).elim)) h a c r
/- THE LAW. -/
theorem tells_law (h : Heap) (v0 v1 v2 v3 : Value) (pol p extra : Int) (zs : List Z) (r0 : ReadsV h (.int .i64) v0 pol) (r1 : ReadsV h (.int .i64) v1 p) (r2 : ReadsV h (.int .i64) v2 extra) (r3 : ReadsV h (.slice ZS) v3 zs) :
    CallsH Try.prog 6 [v0, v1, v2, v3] h fun v h' => v = .bool true ∧ New h h' := by
  obtain ⟨rfl⟩ : v0 = .int .i64 pol := by obtain ⟨cs, hcs, e, _⟩ := r0; simp only at hcs; subst hcs; injection e
  obtain ⟨rfl⟩ : v1 = .int .i64 p := by obtain ⟨cs, hcs, e, _⟩ := r1; simp only at hcs; subst hcs; injection e
  obtain ⟨rfl⟩ : v2 = .int .i64 extra := by obtain ⟨cs, hcs, e, _⟩ := r2; simp only at hcs; subst hcs; injection e
  obtain ⟨la, lc, rfl, hcap, _, _, sl⟩ := SlAt.reads r3
  obtain ⟨rz, hage⟩ := zr_of sl
  have hcap : (zs : List Z).length ≤ lc := hcap
  refine fun_ok hm' Try.func6 (by kernel_rfl) (F6_eq pol p extra la zs.length lc _ h) ?_
  unfold F6
  refine call_of (awake_ok h) ?_
  rintro v h1 ⟨rfl, n1⟩
  refine ⟨true, rfl, br_f rfl (cut_q (ts := []) (fun _ h' => h' = h1 ∧ zs.length ≤ 60) ?_ ?_)⟩
  rotate_left
  · intro K hK
    refine br_of (fun _ => ⟨rfl, n1⟩) fun _ => br_of (fun _ => ⟨rfl, n1⟩) fun _ => br_of (fun _ => ⟨rfl, n1⟩) fun h5 => hK () _ ⟨rfl, ?_⟩
    have h5 : ¬ (zs.length : Int) > 60 := of_decide_eq_false h5; omega
  rintro _ h' ⟨hh, hl60⟩ _; subst h'
  refine call_of (right_ok h1 p la lc zs.length zs rfl (by omega) hcap (rz.new n1)) ?_
  rintro v h2 ⟨rfl, n2⟩
  have n02 := n1.trans n2
  refine ⟨_, rfl, call_of (zones_ok h2 la lc zs.length zs rfl hl60 (rz.new n02)) ?_⟩
  rintro v h3 ⟨a3, c3, rfl, z3, n3, _⟩
  refine ⟨(a3, _, c3), rfl, call_of (rright_ok h3 p a3 c3 zs.length zs rfl hl60 z3) ?_⟩
  rintro v h' ⟨rfl, hh⟩; subst h'
  have n03 := n02.trans n3
  refine ⟨_, rfl, br_f (by simp) (cut_q (ts := []) (fun _ h' => New h h' ∧ outB p zs = false ∧ 0 ≤ extra ∧ extra ≤ 16) ?_ ?_)⟩
  rotate_left
  · intro K hK
    refine call_of (out_ok h3 p la lc zs (rz.new n03)) ?_
    rintro v h4 ⟨rfl, n4⟩
    refine ⟨_, rfl, br_of (fun _ => ⟨rfl, n03.trans n4⟩) fun ho => br_of (fun _ => ⟨rfl, n03.trans n4⟩) fun h5 => br_of (fun _ => ⟨rfl, n03.trans n4⟩) fun h6 => hK () _ ⟨n03.trans n4, ho, ?_, ?_⟩⟩
    · have := of_decide_eq_false h5; omega
    · have := of_decide_eq_false h6; omega
  rintro _ h4 ⟨n4, ho, he0, he1⟩ _
  obtain ⟨hp, hg, hl⟩ := out_facts ho hage
  refine call_of (order_ok (pol := pol) hp h4 la lc zs hg (by omega) (rz.new n4)) ?_
  rintro v h5 ⟨a5, c5, rfl, q5⟩
  have n05 := n4.trans q5.new
  refine ⟨(a5, _, c5), rfl, call_of (zones_ok h5 la lc zs.length zs rfl hl60 (rz.new n05)) ?_⟩
  rintro v h6 ⟨a6, c6, rfl, z6, n6, _⟩
  refine ⟨(a6, _, c6), rfl, call_of (sorted_ok (pol := pol) hp h6 a6 c6 zs.length zs rfl hg (by omega) z6) ?_⟩
  rintro v h7 ⟨a7, c7, rfl, r7, n7⟩
  have hsl := (sortZ_perm pol p zs).length_eq
  refine ⟨(a7, _, c7), rfl, call_of (ids2_ok h7 a7 c7 _ (sortZ pol p zs) rfl (by omega) (Zr.row r7)) ?_⟩
  rintro v h8 ⟨a8, c8, rfl, q8, n8⟩
  have n58 := n6.trans (n7.trans n8)
  have hb : ((sortZ pol p zs).map Prod.fst).length ≤ 9223372036854775807 := by rw [List.length_map]; omega
  refine ⟨(a8, _, c8), rfl, call_of (Same.same_ok _ _ _ _ _ _ h8 ((sortZ pol p zs).map Prod.fst) ((sortZ pol p zs).map Prod.fst) rfl rfl hb (ar_p (q5.ar.new n58)) (ar_p q8)) ?_⟩
  rintro v h' ⟨rfl, hh⟩; subst h'
  have n08 := n05.trans n58
  refine ⟨_, rfl, br_t (by simp) (call_of (choose_ok (pol := pol) hp ⟨he0, he1⟩ h8 la lc zs hg (by omega) (rz.new n08)) ?_)⟩
  rintro v h9 ⟨a9, c9, rfl, q9⟩
  have n09 := n08.trans q9.new
  refine ⟨(a9, _, c9), rfl, call_of (zones_ok h9 la lc zs.length zs rfl hl60 (rz.new n09)) ?_⟩
  rintro v h10 ⟨a10, c10, rfl, z10, n10, _⟩
  refine ⟨(a10, _, c10), rfl, call_of (choose2_ok (pol := pol) hp ⟨he0, he1⟩ zs hg (by omega) h10 a10 c10 z10) ?_⟩
  rintro v h11 ⟨a11, c11, rfl, q11, n11⟩
  have hb2 : ((chosen pol p extra zs).map Prod.fst).length ≤ 9223372036854775807 := by rw [List.length_map]; have := chosen_len pol p extra zs; omega
  refine ⟨(a11, _, c11), rfl, call_of (Same.same_ok _ _ _ _ _ _ h11 ((chosen pol p extra zs).map Prod.fst) ((chosen pol p extra zs).map Prod.fst) rfl rfl hb2 (ar_p (q9.ar.new (n10.trans n11))) (ar_p q11)) ?_⟩
  rintro v h' ⟨rfl, hh⟩; subst h'
  exact ⟨_, rfl, by simp, n09.trans (n10.trans n11)⟩
end Go.Proofs.Yticppjmldlhbiaa.VicV
