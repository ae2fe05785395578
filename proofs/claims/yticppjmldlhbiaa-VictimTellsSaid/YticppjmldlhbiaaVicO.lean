/-
  VictimOrder of layer 12.
-/
import Derived.Test.YticppjmldlhbiaaVicG
namespace Go.Proofs.Yticppjmldlhbiaa.VicO
open Go.Pl Go.Proofs.Yticppjmldlhbiaa.W Go.Proofs.Yticppjmldlhbiaa.Vic Go.Proofs.Yticppjmldlhbiaa.VicW Go.Proofs.Yticppjmldlhbiaa.VicS Go.Proofs.Yticppjmldlhbiaa.VicT Go.Proofs.Yticppjmldlhbiaa.VicL Go.Proofs.Yticppjmldlhbiaa.VicG
open Go.Proofs.Yticppjmldlhbiaa.So (hm' encL TE)
theorem ap60 : apB Try.prog 60 TE 3 24 = true := by kernel_rfl
theorem Zr.drop {h : Heap} {a : Option Addr} {zs : List Z} (r : Zr h a zs) (c k : Nat) (hc : zs.length ≤ c) : Zr h (sliceBase a k c 3) (zs.drop k) := fun i z hi => by
  rw [List.getElem?_drop] at hi
  obtain ⟨b, o, rfl, hb, hcl⟩ := r (k + i) z hi
  have := (List.getElem?_eq_some_iff.1 hi).1
  refine ⟨b, o + k * 3, ?_, hb, fun j hj => ?_⟩
  · unfold sliceBase
    rw [if_neg (by omega)]
    show some (Addr.add _ _) = _
    rw [add_mk]
  · rw [← hcl j hj]
    have e : o + k * 3 + (i * 3 + j) = o + ((k + i) * 3 + j) := by omega
    rw [e]
theorem chosen_turn {pol p extra : Int} {l m : List Z} (hp : m.Perm l) (hg : Goods p l) : chosen pol p extra m = chosen pol p extra l := by
  unfold chosen
  rw [sortZ_turn (pol := pol) hp hg, sortZ_turn (pol := 0) hp hg]
/- THE LAW. -/
theorem order_law (h : Heap) (v0 v1 v2 v3 v4 : Value) (pol p extra : Int) (zs : List Z) (turn : Int) (r0 : ReadsV h (.int .i64) v0 pol) (r1 : ReadsV h (.int .i64) v1 p) (r2 : ReadsV h (.int .i64) v2 extra) (r3 : ReadsV h (.slice ZS) v3 zs) (r4 : ReadsV h (.int .i64) v4 turn) :
    CallsH Try.prog 8 [v0, v1, v2, v3, v4] h fun v h' => v = .bool true ∧ New h h' := by
  obtain ⟨rfl⟩ : v0 = .int .i64 pol := by obtain ⟨cs, hcs, e, _⟩ := r0; simp only at hcs; subst hcs; injection e
  obtain ⟨rfl⟩ : v1 = .int .i64 p := by obtain ⟨cs, hcs, e, _⟩ := r1; simp only at hcs; subst hcs; injection e
  obtain ⟨rfl⟩ : v2 = .int .i64 extra := by obtain ⟨cs, hcs, e, _⟩ := r2; simp only at hcs; subst hcs; injection e
  obtain ⟨rfl⟩ : v4 = .int .i64 turn := by obtain ⟨cs, hcs, e, _⟩ := r4; simp only at hcs; subst hcs; injection e
  obtain ⟨la, lc, rfl, hcap, _, _, sl⟩ := SlAt.reads r3
  obtain ⟨rz, hage⟩ := zr_of sl
  have hcap : (zs : List Z).length ≤ lc := hcap
  refine fun_ok hm' Try.func8 (by kernel_rfl) (F8_eq pol p extra la zs.length lc turn _ h) ?_
  unfold F8
  refine call_of (awake_ok h) ?_
  rintro v h1 ⟨rfl, n1⟩
  refine ⟨true, rfl, br_f rfl (cut_q (ts := []) (fun _ h' => New h h' ∧ outB p zs = false ∧ (0 ≤ extra ∧ extra ≤ 16) ∧ 0 ≤ turn ∧ turn ≤ (zs.length : Int)) ?_ ?_)⟩
  rotate_left
  · intro K hK
    refine call_of (out_ok h1 p la lc zs (rz.new n1)) ?_
    rintro v h2 ⟨rfl, n2⟩
    refine ⟨_, rfl, br_of (fun _ => ⟨rfl, n1.trans n2⟩) fun ho => br_of (fun _ => ⟨rfl, n1.trans n2⟩) fun h3 => br_of (fun _ => ⟨rfl, n1.trans n2⟩) fun h4 => br_of (fun _ => ⟨rfl, n1.trans n2⟩) fun h5 => br_of (fun _ => ⟨rfl, n1.trans n2⟩) fun h6 => hK () _ ⟨n1.trans n2, ho, ⟨?_, ?_⟩, ?_, ?_⟩⟩
    · have := of_decide_eq_false h3; omega
    · have := of_decide_eq_false h4; omega
    · have := of_decide_eq_false h5; omega
    · have h6 : ¬ turn > (zs.length : Int) := of_decide_eq_false h6; omega
  rintro _ h2 ⟨n2, ho, he, ht0, ht1⟩ _
  obtain ⟨hp, hg, hl⟩ := out_facts ho hage
  obtain ⟨t, rfl⟩ : ∃ t : Nat, turn = (t : Int) := ⟨turn.toNat, by omega⟩
  have htl : t ≤ zs.length := by omega
  have hperm : (zs.drop t ++ zs.take t).Perm zs := by
    have := List.perm_append_comm (l₁ := zs.drop t) (l₂ := zs.take t)
    rwa [List.take_append_drop] at this
  refine ⟨⟨by omega, by omega, by omega, by omega⟩, pre_of (by omega) (new_of fun h3 b3 n3 s3 => ?_)⟩
  rw [Int.toNat_natCast, Int.toNat_natCast, Int.toNat_natCast]
  have n03 := n2.trans n3
  have hr0 : ∀ b : Nat, blkOf (some (⟨h2.size, 0, none⟩ : Addr)) = some b → h2.size ≤ b := fun b e => by injection e with e; change h2.size = b at e; omega
  have rd := (Zr.drop (rz.new n03) lc t hcap)
  refine Grow.zs ap60 (xs := []) (Grow.start (RowS.nil' h3 TE 3 (some ⟨h2.size, 0, none⟩))) rd (by rw [List.length_drop]) (by simp; omega) (by omega) fun a4 c4 h4 g4 _ => ?_
  have n24 : New h2 h4 := g4.upd.grow n3 hr0
  rw [List.nil_append] at g4
  rw [List.nil_append]
  refine Grow.zs ap60 g4 ((rz.new (n2.trans n24)).take lc t hcap) (by rw [List.length_take]; omega) (by simp; omega) (by omega) fun a5 c5 h5 g5 _ => ?_
  have n25 : New h2 h5 := g5.upd.grow n3 hr0
  have rt : Zr h5 a5 (zs.drop t ++ zs.take t) := Zr.row g5.row
  have hgm := hg.perm hperm
  have hml := hperm.length_eq
  have hst := fun q => sortZ_turn (pol := q) hperm hg
  have hct := chosen_turn (pol := pol) (extra := extra) hperm hg
  generalize zs.drop t ++ zs.take t = M at rt hgm hml hst hct ⊢
  have n05 := n2.trans n25
  refine call_of (order_ok (pol := pol) hp h5 la lc zs hg (by omega) (rz.new n05)) ?_
  rintro v h6 ⟨a6, c6, rfl, q6⟩
  refine ⟨(a6, _, c6), rfl, ?_⟩
  have n06 := n05.trans q6.new
  have hOl := (sortZ_perm pol p zs).length_eq
  have hOg := hg.perm (sortZ_perm pol p zs)
  have hOm : ∀ z ∈ sortZ pol p zs, z ∈ zs := fun z hz => (sortZ_perm pol p zs).mem_iff.1 hz
  have hOs : pol = 0 → (sortZ pol p zs).Pairwise fun a b => a.2.1 ≤ b.2.1 := fun e => by subst e; exact srt_least (sortZ_srt hg)
  refine cut_q (ts := []) (fun _ h' => New h6 h') ?_ ?_
  rotate_left
  · intro K hK
    refine call_of (order_ok (pol := pol) hp h6 a5 c5 M hgm (by omega) (rt.new q6.new)) ?_
    rintro v h7 ⟨a7, c7, rfl, q7⟩
    rw [hst pol] at q7 ⊢
    have hb : ((sortZ pol p zs).map Prod.fst).length ≤ 9223372036854775807 := by rw [List.length_map]; omega
    refine ⟨(a7, _, c7), rfl, call_of (Same.same_ok _ _ _ _ _ _ h7 ((sortZ pol p zs).map Prod.fst) ((sortZ pol p zs).map Prod.fst) rfl rfl hb (ar_p (q6.ar.new q7.new)) (ar_p q7.ar)) ?_⟩
    rintro v h' ⟨rfl, hh⟩; subst h'
    refine ⟨_, rfl, br_f (by simp) (call_of (choose_ok (pol := pol) hp he h7 la lc zs hg (by omega) (rz.new (n06.trans q7.new))) ?_)⟩
    rintro v h8 ⟨a8, c8, rfl, q8⟩
    refine ⟨(a8, _, c8), rfl, call_of (choose_ok (pol := pol) hp he h8 a5 c5 M hgm (by omega) (rt.new (q6.new.trans (q7.new.trans q8.new)))) ?_⟩
    rintro v h9 ⟨a9, c9, rfl, q9⟩
    rw [hct] at q9 ⊢
    have hb2 : ((chosen pol p extra zs).map Prod.fst).length ≤ 9223372036854775807 := by rw [List.length_map]; have := chosen_len pol p extra zs; omega
    refine ⟨(a9, _, c9), rfl, call_of (Same.same_ok _ _ _ _ _ _ h9 ((chosen pol p extra zs).map Prod.fst) ((chosen pol p extra zs).map Prod.fst) rfl rfl hb2 (ar_p (q8.ar.new q9.new)) (ar_p q9.ar)) ?_⟩
    rintro v h' ⟨rfl, hh⟩; subst h'
    refine ⟨_, rfl, br_f (by simp) (br_f (by simp [hOl]) (hK () _ (q7.new.trans (q8.new.trans q9.new))))⟩
  rintro _ h7 n67 _
  generalize sortZ pol p zs = O at q6 hOl hOg hOm hOs ⊢
  have hCm : (O.map Prod.fst).length = O.length := by simp
  rw [hCm]
  have n07 := n06.trans n67
  have q7 := q6.ar.new n67
  refine ⟨fun (s : Int × Int) h' => ∃ i : Nat, s.2 = (i : Int) ∧ i ≤ O.length ∧ New h7 h' ∧ (pol = 0 → ∀ z ∈ O.drop i, s.1 ≤ z.2.1), fun (s : Int × Int) _ => ((O.length : Int) - s.2).toNat, ⟨0, rfl, Nat.zero_le _, New.refl _, fun _ z hz => (hOg.ok z (List.mem_of_mem_drop hz)).v0⟩, ?_⟩
  rintro ⟨L, s⟩ j h8 ⟨i, hs, hi, n8, hL⟩
  have hs : s = (i : Int) := hs
  subst hs
  obtain ⟨L0, hL0⟩ : ∃ L0 : Int, L0 = L := ⟨L, rfl⟩
  subst hL0
  have n08 := n07.trans n8
  refine br_of (fun hlt => ?_) (fun hlt => ⟨rfl, n08⟩)
  have hlt : (i : Int) < (O.length : Int) := of_decide_eq_true hlt
  have hiL : i < O.length := by omega
  have hiM : i < (O.map Prod.fst).length := by omega
  obtain ⟨m, hm, hmz⟩ := List.getElem_of_mem (hOm O[i] (List.getElem_mem hiL))
  have hdrop : O.drop i = O[i] :: O.drop (i + 1) := List.drop_eq_getElem_cons hiL
  refine ix_ld (q7.new n8) hiM hiL ?_
  rw [List.getElem_map]
  refine ⟨fun (s : Int × Int × Int) h' => ∃ k : Nat, s = (if k ≤ m then L0 else O[i].2.1, if k ≤ m then (0 : Int) else 1, (k : Int)) ∧ k ≤ zs.length ∧ New h8 h', fun (s : Int × Int × Int) _ => ((zs.length : Int) - s.2.2).toNat, ⟨0, by rw [if_pos (Nat.zero_le _), if_pos (Nat.zero_le _)]; rfl, Nat.zero_le _, New.refl _⟩, ?_⟩
  rintro s j2 h9 ⟨k, rfl, hk, n9⟩
  have ek : IntKind.wrap .i64 ((k : Int) + 1) = ((k + 1 : Nat) : Int) := (by first | (rw [wr64 (by omega) (by omega)]; omega) | (simp only [IntKind.wrap_i64]; omega))
  refine br_of (fun hlt2 => ?_) (fun hlt2 => ?_)
  · have hlt2 : (k : Int) < (zs.length : Int) := of_decide_eq_true hlt2
    have hkL : k < zs.length := by omega
    refine (rz.new (n08.trans n9)).ld hkL hkL (new_stL (by rw [zeroZ]; rfl) fun h10 b10 n10 s10 => ?_)
    have b10 : Blk h10 h9.size (encL zs[k]).toArray TE := b10
    refine ld_of (c := .int .i64) zs[k].1 (by rw [add_mk, cellH_blk b10]; rfl) (br_of (fun he => ?_) (fun he => ?_))
    · have he : zs[k].1 = O[i].1 := by simpa using he
      have : k = m := id_inj hg.ids hkL hm (by rw [he, hmz])
      subst this
      dsimp only
      rw [if_pos (Nat.le_refl _), if_pos (Nat.le_refl _)]
      refine cut_q (ts := [.sc .bool]) (fun (s : Bool) h' => h' = h10 ∧ s = false) ?_ ?_
      rotate_left
      · intro K hK
        refine br_of (fun h0 => ?_) fun _ => hK _ _ ⟨rfl, rfl⟩
        have h0 : pol = 0 := by simpa using h0
        refine ld_of (c := .int .i64) zs[k].2.1 (by rw [add_mk, cellH_blk b10]; rfl) (hK _ _ ⟨rfl, ?_⟩)
        have hin : O[i] ∈ O.drop i := by rw [hdrop]; exact List.mem_cons.2 (.inl rfl)
        have := hL h0 O[i] hin
        rw [hmz]
        exact decide_eq_false (by omega)
      rintro s h' ⟨hh, hs⟩ _; subst h'
      have hs : s = false := hs
      subst hs
      refine br_f rfl (ld_of (c := .int .i64) zs[k].2.1 (by rw [add_mk, cellH_blk b10]; rfl) ?_)
      rw [ek]
      exact ⟨⟨k + 1, by rw [if_neg (by omega), if_neg (by omega), ← hmz]; rfl, hkL, n9.trans n10⟩, (by first | omega | (dsimp only; omega) | (simp only []; omega))⟩
    · have he : zs[k].1 ≠ O[i].1 := by simpa using he
      have hne : k ≠ m := fun e => by subst e; exact he (by rw [hmz])
      dsimp only
      rw [ek]
      refine ⟨⟨k + 1, ?_, hkL, n9.trans n10⟩, (by first | omega | (dsimp only; omega) | (simp only []; omega))⟩
      by_cases hkm : k ≤ m
      · rw [if_pos hkm, if_pos hkm, if_pos (by omega), if_pos (by omega)]
      · rw [if_neg hkm, if_neg hkm, if_neg (by omega), if_neg (by omega)]
  · have hlt2 : ¬ (k : Int) < (zs.length : Int) := of_decide_eq_false hlt2
    have ei : IntKind.wrap .i64 ((i : Int) + 1) = ((i + 1 : Nat) : Int) := (by first | (rw [wr64 (by omega) (by omega)]; omega) | (simp only [IntKind.wrap_i64]; omega))
    dsimp only
    rw [if_neg (by omega), if_neg (by omega), ei]
    refine br_f rfl ⟨⟨i + 1, rfl, hiL, n8.trans n9, fun h0 z hz => ?_⟩, (by first | omega | (dsimp only; omega) | (simp only []; omega))⟩
    have := List.Pairwise.sublist (List.drop_sublist i O) (hOs h0)
    rw [hdrop] at this
    exact (List.pairwise_cons.1 this).1 z hz
end Go.Proofs.Yticppjmldlhbiaa.VicO
