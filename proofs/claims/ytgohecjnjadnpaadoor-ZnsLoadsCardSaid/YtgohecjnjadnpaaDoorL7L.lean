/-
  What ZnsLoads of layer 7 comes to.
-/
import Derived.Test.YtgohecjnjadnpaaDoorL7D
import Derived.Test.YtgohecjnjadnpaaDoorZnsL
namespace Go.Proofs.YtgohecjnjadnpaaDoor.L7L
open Go.Pl Go.Proofs.YtgohecjnjadnpaaDoor.W Go.Proofs.YtgohecjnjadnpaaDoor.Byts Go.Proofs.YtgohecjnjadnpaaDoor.As Go.Proofs.YtgohecjnjadnpaaDoor.Zns Go.Proofs.YtgohecjnjadnpaaDoor.L7A Go.Proofs.YtgohecjnjadnpaaDoor.L7D Go.Proofs.YtgohecjnjadnpaaDoor.ZnsL
def small (ps : List (List (List Int))) : Prop := ps.length ≤ 30 ∧ ∀ z ∈ ps, z.length ≤ 30 ∧ ∀ p ∈ z, p.length ≤ 100
/-- Owner 2 owns nothing yet. -/
def free2 (t : Tags) : Tags := fun g => if (t g).1 = 2 then (0, 0) else t g
theorem free2_ne (t : Tags) (g : Nat) : (free2 t g).1 ≠ 2 := by
  unfold free2; split
  · decide
  · assumption
theorem free2_eq (t : Tags) (g : Nat) (h : (t g).1 = 0 ∨ (t g).1 = 1) : free2 t g = t g := if_neg (by omega)
theorem loads_law (h : Heap) (v0 v1 v2 : Value) (pc : Int) (ps : List (List (List Int))) (l : List ActT) (r0 : ReadsV h (.int .i64) v0 pc) (r1 : ReadsV h (.slice (.slice (.slice (.int .u8)))) v1 ps) (r2 : ReadsV h (.slice ActS) v2 l) (hg : Laid h) :
    CallsH Tryd.prog 11 [v0, v1, v2] h fun v h' => v = .bool true ∧ New h h' := by
  obtain ⟨rfl⟩ : v0 = .int .i64 pc := by obtain ⟨cs, hcs, e, _⟩ := r0; simp only at hcs; subst hcs; injection e
  obtain ⟨ap, cp, rfl, _, _, _, slp⟩ : ∃ a c, v1 = .slice a ps.length c ∧ ps.length ≤ c ∧ c ≤ maxLen ∧ (a = none → ps.length = 0 ∧ c = 0) ∧ SlAt h (.slice (.slice (.int .u8))) a ps := SlAt.reads (e := .slice (.slice (.int .u8))) r1
  obtain ⟨a, c, rfl, _, _, _, sl⟩ := SlAt.reads r2
  refine fun_ok hm' Tryd.func11 (by kernel_rfl) (F11_eq pc ap ps.length cp a l.length c _ h) ?_
  unfold F11
  refine call_of (L7.awake_ok h hg) ?_
  rintro v g1 ⟨rfl, m1⟩
  refine ⟨true, rfl, br_f rfl (cut_q (ts := []) (fun _ h' => New h h' ∧ isLarge l = false ∧ ps.length ≤ 30) ?_ ?_)⟩
  rotate_left
  · intro K hK
    refine call_of (large_ok a c l g1 (sl.new m1)) ?_
    rintro v g2 ⟨rfl, m2⟩
    refine ⟨isLarge l, rfl, br_of (fun _ => ⟨rfl, m1.trans m2⟩) fun hlg => br_of (fun _ => ⟨rfl, m1.trans m2⟩) fun h30 => hK () _ ⟨m1.trans m2, hlg, ?_⟩⟩
    have := of_decide_eq_false h30; omega
  clear m1
  clear g1
  rintro _ g2 ⟨m2, hlg, h30⟩ _
  obtain ⟨hlen, hsm⟩ := notLarge hlg
  refine ⟨fun (s : Int) h' => ∃ i : Nat, s = i ∧ i ≤ ps.length ∧ h' = g2 ∧ ∀ z ∈ ps.take i, z.length ≤ 30 ∧ ∀ p ∈ z, p.length ≤ 100, fun (s : Int) _ => ((ps.length : Int) - s).toNat, ⟨0, rfl, Nat.zero_le _, rfl, by simp⟩, ?_⟩
  rintro s j g3 ⟨i, rfl, hi, hh, hall⟩; subst g3
  refine br_of (fun hlt => ?_) (fun hlt => ?_)
  · have hlt : i < ps.length := by have := of_decide_eq_true hlt; omega
    obtain ⟨a1, c1, sl1, ld1⟩ := zone_ld slp hlt
    refine ld1 m2 hlt (br_of (fun _ => ⟨rfl, m2⟩) fun hz => ?_)
    have hz : ¬ (ps[i].length : Int) > 30 := of_decide_eq_false hz
    refine ⟨fun (s : Int) h' => ∃ k : Nat, s = k ∧ k ≤ ps[i].length ∧ h' = g2 ∧ ∀ p ∈ ps[i].take k, p.length ≤ 100, fun (s : Int) _ => ((ps[i].length : Int) - s).toNat, ⟨0, rfl, Nat.zero_le _, rfl, by simp⟩, ?_⟩
    rintro s j2 g3 ⟨k, rfl, hk, hh, hall2⟩; subst g3
    refine br_of (fun hlt2 => ?_) (fun hlt2 => ?_)
    · have hlt2 : (k : Int) < (ps[i].length : Int) := of_decide_eq_true hlt2
      have hlt2 : k < ps[i].length := by omega
      obtain ⟨a2, c2, _, _, ld2⟩ := page_ld sl1 hlt2
      refine ld2 m2 hlt2 (br_of (fun _ => ⟨rfl, m2⟩) fun hp => ?_)
      have hp : ¬ (ps[i][k].length : Int) > 100 := of_decide_eq_false hp
      rw [wr64 (by omega) (by omega)]
      exact ⟨⟨k + 1, rfl, hlt2, rfl, takes_succ hlt2 hall2 (by omega)⟩, (by first | omega | (dsimp only; omega) | (simp only []; omega))⟩
    · have hlt2 : ¬ (k : Int) < (ps[i].length : Int) := of_decide_eq_false hlt2
      have hke : k = ps[i].length := by omega
      subst hke
      rw [List.take_length] at hall2
      rw [wr64 (by omega) (by omega)]
      exact ⟨⟨i + 1, rfl, hlt, rfl, takes_succ hlt hall ⟨by omega, hall2⟩⟩, (by first | omega | (dsimp only; omega) | (simp only []; omega))⟩
  have hie : i = ps.length := by have := of_decide_eq_false hlt; omega
  subst hie
  rw [List.take_length] at hall
  clear hlt hi
  have bs2 : Bs h (fun _ => (0, 0)) g2 := (Bs.start hg).newer m2
  refine call_of (load_ok (k := 1) (by decide) bs2 (fun _ _ => (by decide : (0 : Nat) ≠ 1)) pc ap cp ps slp h30 hall) ?_
  rintro v g3 (⟨rfl, bad, m3⟩ | ⟨bp, rfl, good, m3, t3, ht3, rp3⟩)
  · have bs3 := bs2.newer m3
    refine ⟨(none, errV 1), rfl, call_of (loadR_ok (k := 2) (by decide) bs3 (fun _ _ => (by decide : (0 : Nat) ≠ 2)) pc ap cp ps slp h30 hall) ?_⟩
    rintro v g4 (⟨rfl, _, m4⟩ | ⟨b, _, good, _⟩)
    · have bs4 := bs3.newer m4
      refine ⟨(none, (1 : Int)), rfl, cut_q (ts := []) (fun _ h' => New g4 h') ?_ ?_⟩
      · rintro _ g5 m5 _
        exact br_t rfl ⟨rfl, (bs4.newer m5).new⟩
      · intro K hK
        refine call_of (code_err 1 g4 bs4.lay) ?_
        rintro v g5 ⟨rfl, m5⟩
        exact ⟨(1 : Int), rfl, br_f rfl (br_f rfl (hK () _ m5))⟩
    · exact (bad good).elim
  have bs3 := bs2.tags m3 ht3
  have bs3 : Bs h (free2 t3) g3 := ⟨bs3.new, fun b hb => by rw [free2_eq t3 b (.inl (bs3.tag b hb))]; exact bs3.tag b hb, bs3.laid⟩
  have rp3 : PRep 1 (free2 t3) g3 bp (loaded ps pc.toNat) := DRep.retag rp3 (free2_eq t3)
  have fr3 := free2_ne t3
  generalize free2 t3 = t4 at bs3 rp3 fr3
  refine ⟨(some ⟨bp, 0, none⟩, errV 0), rfl, call_of (loadR_ok (k := 2) (by decide) bs3 (fun g _ => fr3 g) pc ap cp ps slp h30 hall) ?_⟩
  rintro v g4 (⟨_, bad, _⟩ | ⟨br_, rfl, _, m4, t5, ht5, rr5⟩)
  · exact (bad good).elim
  have bs5 := bs3.tags m4 ht5
  have rp5 : PRep 1 t5 g4 bp (loaded ps pc.toNat) := rp3.fr (S := fun _ => True) ⟨m4.size, ht5, fun b hb _ => m4.same b hb⟩ (fun _ _ => trivial) fun _ => trivial
  have o0 : DevOk (loaded ps pc.toNat) := by
    obtain ⟨pp, rfl⟩ := Int.eq_ofNat_of_zero_le (show 0 ≤ pc by have := good.1.2.1; omega)
    exact loaded_ok good (byts_in slp)
  refine ⟨(some ⟨br_, 0, none⟩, (0 : Int)), rfl, cut_q (ts := []) (fun _ h' => New g4 h') ?_ ?_⟩
  rotate_left
  · intro K hK
    refine call_of (code_err 0 g4 bs5.lay) ?_
    rintro v g5 ⟨rfl, m5⟩
    exact ⟨(0 : Int), rfl, br_f rfl (br_f rfl (hK () _ m5))⟩
  rintro _ g5 m5 _
  refine br_f rfl (cut_q (ts := []) (fun _ h' => New g4 h') ?_ ?_)
  rotate_left
  · intro K hK
    refine call_of (alike_ok o0 g5 (rp5.new m5) (rr5.new m5)) ?_
    rintro v g6 ⟨rfl, m6⟩
    refine ⟨true, rfl, br_f rfl (call_of (pages_ok o0 g6 (bs5.newer (m5.trans m6)) (rp5.new (m5.trans m6)) (rr5.new (m5.trans m6))) ?_)⟩
    rintro v g7 ⟨rfl, m7⟩
    exact ⟨true, rfl, br_f rfl (hK () _ ((m5.trans m6).trans m7))⟩
  rintro _ g7 m7 _
  refine ⟨fun (s : Int) h' => ∃ (i : Nat) (D : Dev) (t : Tags), s = i ∧ i ≤ l.length ∧ DevOk D ∧ Bs h t h' ∧ PRep 1 t h' bp D ∧ RRep 2 t h' br_ D, fun (s : Int) _ => ((l.length : Int) - s).toNat, ⟨0, _, t5, rfl, Nat.zero_le _, o0, bs5.newer m7, rp5.new m7, rr5.new m7⟩, ?_⟩
  rintro s j h1 ⟨i, D, t, rfl, hi, o, bs1, rp1, rr1⟩
  refine br_of (fun hlt => ?_) (fun hlt => ?_)
  rotate_left
  · refine call_of (pages_ok o h1 bs1 rp1 rr1) ?_
    rintro v h2 ⟨rfl, n2⟩
    exact ⟨true, rfl, rfl, (bs1.newer n2).new⟩
  have hlt : i < l.length := by have := of_decide_eq_true hlt; omega
  obtain ⟨ba, bc, ka, kc, ta, tc, hin, ld⟩ := act_at sl bs1.new hlt
  have hin := hin (by have := (hsm _ (List.getElem_mem hlt)).1; omega)
  refine ld hlt (new_of fun h2 b2 n2 s2 => ?_)
  refine stL_blk b2 (by rw [zeroAct]; exact Nat.le_refl 6) fun h3 b3 o3 => ?_
  have b3 : Blk h3 h1.size (actA (actOf l[i]) ba ka ta bc kc tc) 56 := by rw [setsA_all (by rw [zeroAct]; rfl)] at b3; exact b3
  have n13 : New h1 h3 := o3.upd.new n2 (Nat.le_refl _)
  generalize actOf l[i] = x at hin b3
  have S0 : DS h (lay t h1.size (3, 0)) h3 bp br_ D D h1.size x ba ka ta bc kc tc := ⟨bs1.fr (S := fun _ => True) (Fr.lay n13 _) fun _ _ => trivial, rp1.fr (S := fun _ => True) (Fr.lay n13 _) (fun _ _ => trivial) fun _ => trivial, rr1.fr (S := fun _ => True) (Fr.lay n13 _) (fun _ _ => trivial) fun _ => trivial, b3, lay_ge (Nat.le_refl _)⟩
  generalize lay t h1.size (3, 0) = tt at S0
  refine cut_q (ts := [.sc .ptr, .sc .ptr]) (fun (s : Option Addr × Option Addr) h' => ∃ gA gB a1 c1 a2 c2 t', s = (some ⟨gA, 0, none⟩, some ⟨gB, 0, none⟩) ∧ Blk h' gA #[.int .i64 (act D x).2.n, .int .i64 (act D x).2.e, .slice a1 (act D x).2.b.length c1] 58 ∧ Blk h' gB #[.int .i64 (act D x).2.n, .int .i64 (act D x).2.e, .slice a2 (act D x).2.b.length c2] 58 ∧ DS h t' h' bp br_ (act D x).1 (act D x).1 h1.size x ba ka ta bc kc tc ∧ Im .u8 t' h' a1 (act D x).2.b ∧ Im .u8 t' h' a2 (act D x).2.b) ?_ ?_
  rotate_left
  · intro K hK
    have sz := b3.lt
    refine ldAct b3 (ldAct b3 ?_)
    have i := hin
    refine ⟨?_, ?_, ?_⟩
    · refine call_of (do_st S0 o i) ?_
      rintro v k1 ⟨p1_1, p2_1, t1, rfl, S1, f1, im1_1⟩
      obtain ⟨q0_1, q1_1, q2_1, q3_1, q4_1, q5_1⟩ := S1.six
      refine ⟨((act D x).2.n, (act D x).2.e, (p1_1, (act D x).2.b.length, p2_1)), rfl, q0_1, q1_1, q2_1, q3_1, q4_1, q5_1, ?_⟩
      refine ⟨?_, ?_, ?_⟩
      · refine call_of (own_st S1 o i) ?_
        rintro v k2 ⟨q1_2, q2_2, t2, rfl, S2, f2, im2_2⟩
        have im1_2 := Im.fr im1_1 f2 fr0b
        refine ⟨((act D x).2.n, (act D x).2.e, (q1_2, (act D x).2.b.length, q2_2)), rfl, ?_⟩
        refine ⟨?_, ?_⟩
        · refine new_of fun k3 b3 n3 z3 => ?_
          have S3 := S2.alloc n3
          have im1_3 := Im.alloc im1_2 n3
          have im2_3 := Im.alloc im2_2 n3
          have LA_3 := Loc.here (t := t2) b3
          have sq_3 := S2.bq.lt
          refine new_of fun k4 b4 n4 z4 => ?_
          have S4 := S3.alloc n4
          have im1_4 := Im.alloc im1_3 n4
          have im2_4 := Im.alloc im2_3 n4
          have LA_4 := Loc.alloc LA_3 n4
          have LB_4 := Loc.here (t := (lay t2 k2.size (3, 0))) b4
          have lt_4 := LA_3.lt
          have sq_4 := S3.bq.lt
          refine stL_blk LA_4.blk (by rw [zeroT]; exact Nat.le_refl 3) fun k5 b5 o5 => ?_
          have b5 := told_set b5
          have S5 := S4.loc o5 LA_4.tag (by omega)
          have im1_5 := Im.loc im1_4 o5 LA_4.tag
          have im2_5 := Im.loc im2_4 o5 LA_4.tag
          have LB_5 := Loc.only LB_4 o5 (by omega)
          refine stL_blk LB_5.blk (by rw [zeroT]; exact Nat.le_refl 3) fun k6 b6 o6 => ?_
          have b6 := told_set b6
          have S6 := S5.loc o6 LB_5.tag (by omega)
          have im1_6 := Im.loc im1_5 o6 LB_5.tag
          have im2_6 := Im.loc im2_5 o6 LB_5.tag
          exact hK _ _ ⟨_, _, _, _, _, _, _, rfl, b5.only o6 (by omega), b6, S6, im1_6, im2_6⟩
        · refine new_of fun k7 b7 n7 z7 => ?_
          have S7 := S2.alloc n7
          have im1_7 := Im.alloc im1_2 n7
          have im2_7 := Im.alloc im2_2 n7
          have LB_7 := Loc.here (t := t2) b7
          have sq_7 := S2.bq.lt
          refine new_of fun k8 b8 n8 z8 => ?_
          have S8 := S7.alloc n8
          have im1_8 := Im.alloc im1_7 n8
          have im2_8 := Im.alloc im2_7 n8
          have LB_8 := Loc.alloc LB_7 n8
          have LA_8 := Loc.here (t := (lay t2 k2.size (3, 0))) b8
          have lt_8 := LB_7.lt
          have sq_8 := S7.bq.lt
          refine stL_blk LA_8.blk (by rw [zeroT]; exact Nat.le_refl 3) fun k9 b9 o9 => ?_
          have b9 := told_set b9
          have S9 := S8.loc o9 LA_8.tag (by omega)
          have im1_9 := Im.loc im1_8 o9 LA_8.tag
          have im2_9 := Im.loc im2_8 o9 LA_8.tag
          have LB_9 := Loc.only LB_8 o9 (by omega)
          refine stL_blk LB_9.blk (by rw [zeroT]; exact Nat.le_refl 3) fun k10 b10 o10 => ?_
          have b10 := told_set b10
          have S10 := S9.loc o10 LB_9.tag (by omega)
          have im1_10 := Im.loc im1_9 o10 LB_9.tag
          have im2_10 := Im.loc im2_9 o10 LB_9.tag
          exact hK _ _ ⟨_, _, _, _, _, _, _, rfl, b9.only o10 (by omega), b10, S10, im1_10, im2_10⟩
      · refine new_of fun k11 b11 n11 z11 => ?_
        have S11 := S1.alloc n11
        have im1_11 := Im.alloc im1_1 n11
        have LA_11 := Loc.here (t := t1) b11
        have sq_11 := S1.bq.lt
        refine ⟨?_, ?_⟩
        · refine call_of (own_st S11 o i) ?_
          rintro v k12 ⟨q1_12, q2_12, t12, rfl, S12, f12, im2_12⟩
          have im1_12 := Im.fr im1_11 f12 fr0b
          have LA_12 := Loc.fr2 LA_11 f12
          refine ⟨((act D x).2.n, (act D x).2.e, (q1_12, (act D x).2.b.length, q2_12)), rfl, ?_⟩
          refine new_of fun k13 b13 n13 z13 => ?_
          have S13 := S12.alloc n13
          have im1_13 := Im.alloc im1_12 n13
          have im2_13 := Im.alloc im2_12 n13
          have LA_13 := Loc.alloc LA_12 n13
          have LB_13 := Loc.here (t := t12) b13
          have lt_13 := LA_12.lt
          have sq_13 := S12.bq.lt
          refine stL_blk LA_13.blk (by rw [zeroT]; exact Nat.le_refl 3) fun k14 b14 o14 => ?_
          have b14 := told_set b14
          have S14 := S13.loc o14 LA_13.tag (by omega)
          have im1_14 := Im.loc im1_13 o14 LA_13.tag
          have im2_14 := Im.loc im2_13 o14 LA_13.tag
          have LB_14 := Loc.only LB_13 o14 (by omega)
          refine stL_blk LB_14.blk (by rw [zeroT]; exact Nat.le_refl 3) fun k15 b15 o15 => ?_
          have b15 := told_set b15
          have S15 := S14.loc o15 LB_14.tag (by omega)
          have im1_15 := Im.loc im1_14 o15 LB_14.tag
          have im2_15 := Im.loc im2_14 o15 LB_14.tag
          exact hK _ _ ⟨_, _, _, _, _, _, _, rfl, b14.only o15 (by omega), b15, S15, im1_15, im2_15⟩
        · refine new_of fun k16 b16 n16 z16 => ?_
          have S16 := S11.alloc n16
          have im1_16 := Im.alloc im1_11 n16
          have LA_16 := Loc.alloc LA_11 n16
          have LB_16 := Loc.here (t := (lay t1 k1.size (3, 0))) b16
          have lt_16 := LA_11.lt
          have sq_16 := S11.bq.lt
          refine call_of (own_st S16 o i) ?_
          rintro v k17 ⟨q1_17, q2_17, t17, rfl, S17, f17, im2_17⟩
          have im1_17 := Im.fr im1_16 f17 fr0b
          have LA_17 := Loc.fr2 LA_16 f17
          have LB_17 := Loc.fr2 LB_16 f17
          refine ⟨((act D x).2.n, (act D x).2.e, (q1_17, (act D x).2.b.length, q2_17)), rfl, ?_⟩
          refine stL_blk LA_17.blk (by rw [zeroT]; exact Nat.le_refl 3) fun k18 b18 o18 => ?_
          have b18 := told_set b18
          have S18 := S17.loc o18 LA_17.tag (by omega)
          have im1_18 := Im.loc im1_17 o18 LA_17.tag
          have im2_18 := Im.loc im2_17 o18 LA_17.tag
          have LB_18 := Loc.only LB_17 o18 (by omega)
          refine stL_blk LB_18.blk (by rw [zeroT]; exact Nat.le_refl 3) fun k19 b19 o19 => ?_
          have b19 := told_set b19
          have S19 := S18.loc o19 LB_18.tag (by omega)
          have im1_19 := Im.loc im1_18 o19 LB_18.tag
          have im2_19 := Im.loc im2_18 o19 LB_18.tag
          exact hK _ _ ⟨_, _, _, _, _, _, _, rfl, b18.only o19 (by omega), b19, S19, im1_19, im2_19⟩
      · refine new_of fun k20 b20 n20 z20 => ?_
        have S20 := S1.alloc n20
        have im1_20 := Im.alloc im1_1 n20
        have LB_20 := Loc.here (t := t1) b20
        have sq_20 := S1.bq.lt
        refine ⟨?_, ?_⟩
        · refine call_of (own_st S20 o i) ?_
          rintro v k21 ⟨q1_21, q2_21, t21, rfl, S21, f21, im2_21⟩
          have im1_21 := Im.fr im1_20 f21 fr0b
          have LB_21 := Loc.fr2 LB_20 f21
          refine ⟨((act D x).2.n, (act D x).2.e, (q1_21, (act D x).2.b.length, q2_21)), rfl, ?_⟩
          refine new_of fun k22 b22 n22 z22 => ?_
          have S22 := S21.alloc n22
          have im1_22 := Im.alloc im1_21 n22
          have im2_22 := Im.alloc im2_21 n22
          have LB_22 := Loc.alloc LB_21 n22
          have LA_22 := Loc.here (t := t21) b22
          have lt_22 := LB_21.lt
          have sq_22 := S21.bq.lt
          refine stL_blk LA_22.blk (by rw [zeroT]; exact Nat.le_refl 3) fun k23 b23 o23 => ?_
          have b23 := told_set b23
          have S23 := S22.loc o23 LA_22.tag (by omega)
          have im1_23 := Im.loc im1_22 o23 LA_22.tag
          have im2_23 := Im.loc im2_22 o23 LA_22.tag
          have LB_23 := Loc.only LB_22 o23 (by omega)
          refine stL_blk LB_23.blk (by rw [zeroT]; exact Nat.le_refl 3) fun k24 b24 o24 => ?_
          have b24 := told_set b24
          have S24 := S23.loc o24 LB_23.tag (by omega)
          have im1_24 := Im.loc im1_23 o24 LB_23.tag
          have im2_24 := Im.loc im2_23 o24 LB_23.tag
          exact hK _ _ ⟨_, _, _, _, _, _, _, rfl, b23.only o24 (by omega), b24, S24, im1_24, im2_24⟩
        · refine new_of fun k25 b25 n25 z25 => ?_
          have S25 := S20.alloc n25
          have im1_25 := Im.alloc im1_20 n25
          have LB_25 := Loc.alloc LB_20 n25
          have LA_25 := Loc.here (t := (lay t1 k1.size (3, 0))) b25
          have lt_25 := LB_20.lt
          have sq_25 := S20.bq.lt
          refine call_of (own_st S25 o i) ?_
          rintro v k26 ⟨q1_26, q2_26, t26, rfl, S26, f26, im2_26⟩
          have im1_26 := Im.fr im1_25 f26 fr0b
          have LA_26 := Loc.fr2 LA_25 f26
          have LB_26 := Loc.fr2 LB_25 f26
          refine ⟨((act D x).2.n, (act D x).2.e, (q1_26, (act D x).2.b.length, q2_26)), rfl, ?_⟩
          refine stL_blk LA_26.blk (by rw [zeroT]; exact Nat.le_refl 3) fun k27 b27 o27 => ?_
          have b27 := told_set b27
          have S27 := S26.loc o27 LA_26.tag (by omega)
          have im1_27 := Im.loc im1_26 o27 LA_26.tag
          have im2_27 := Im.loc im2_26 o27 LA_26.tag
          have LB_27 := Loc.only LB_26 o27 (by omega)
          refine stL_blk LB_27.blk (by rw [zeroT]; exact Nat.le_refl 3) fun k28 b28 o28 => ?_
          have b28 := told_set b28
          have S28 := S27.loc o28 LB_27.tag (by omega)
          have im1_28 := Im.loc im1_27 o28 LB_27.tag
          have im2_28 := Im.loc im2_27 o28 LB_27.tag
          exact hK _ _ ⟨_, _, _, _, _, _, _, rfl, b27.only o28 (by omega), b28, S28, im1_28, im2_28⟩
    · refine new_of fun k29 b29 n29 z29 => ?_
      have S29 := S0.alloc n29
      have LA_29 := Loc.here (t := tt) b29
      have sq_29 := S0.bq.lt
      refine ⟨?_, ?_⟩
      · refine call_of (do_st S29 o i) ?_
        rintro v k30 ⟨p1_30, p2_30, t30, rfl, S30, f30, im1_30⟩
        have LA_30 := Loc.fr1 LA_29 f30
        obtain ⟨q0_30, q1_30, q2_30, q3_30, q4_30, q5_30⟩ := S30.six
        refine ⟨((act D x).2.n, (act D x).2.e, (p1_30, (act D x).2.b.length, p2_30)), rfl, q0_30, q1_30, q2_30, q3_30, q4_30, q5_30, ?_⟩
        refine ⟨?_, ?_⟩
        · refine call_of (own_st S30 o i) ?_
          rintro v k31 ⟨q1_31, q2_31, t31, rfl, S31, f31, im2_31⟩
          have im1_31 := Im.fr im1_30 f31 fr0b
          have LA_31 := Loc.fr2 LA_30 f31
          refine ⟨((act D x).2.n, (act D x).2.e, (q1_31, (act D x).2.b.length, q2_31)), rfl, ?_⟩
          refine new_of fun k32 b32 n32 z32 => ?_
          have S32 := S31.alloc n32
          have im1_32 := Im.alloc im1_31 n32
          have im2_32 := Im.alloc im2_31 n32
          have LA_32 := Loc.alloc LA_31 n32
          have LB_32 := Loc.here (t := t31) b32
          have lt_32 := LA_31.lt
          have sq_32 := S31.bq.lt
          refine stL_blk LA_32.blk (by rw [zeroT]; exact Nat.le_refl 3) fun k33 b33 o33 => ?_
          have b33 := told_set b33
          have S33 := S32.loc o33 LA_32.tag (by omega)
          have im1_33 := Im.loc im1_32 o33 LA_32.tag
          have im2_33 := Im.loc im2_32 o33 LA_32.tag
          have LB_33 := Loc.only LB_32 o33 (by omega)
          refine stL_blk LB_33.blk (by rw [zeroT]; exact Nat.le_refl 3) fun k34 b34 o34 => ?_
          have b34 := told_set b34
          have S34 := S33.loc o34 LB_33.tag (by omega)
          have im1_34 := Im.loc im1_33 o34 LB_33.tag
          have im2_34 := Im.loc im2_33 o34 LB_33.tag
          exact hK _ _ ⟨_, _, _, _, _, _, _, rfl, b33.only o34 (by omega), b34, S34, im1_34, im2_34⟩
        · refine new_of fun k35 b35 n35 z35 => ?_
          have S35 := S30.alloc n35
          have im1_35 := Im.alloc im1_30 n35
          have LA_35 := Loc.alloc LA_30 n35
          have LB_35 := Loc.here (t := t30) b35
          have lt_35 := LA_30.lt
          have sq_35 := S30.bq.lt
          refine call_of (own_st S35 o i) ?_
          rintro v k36 ⟨q1_36, q2_36, t36, rfl, S36, f36, im2_36⟩
          have im1_36 := Im.fr im1_35 f36 fr0b
          have LA_36 := Loc.fr2 LA_35 f36
          have LB_36 := Loc.fr2 LB_35 f36
          refine ⟨((act D x).2.n, (act D x).2.e, (q1_36, (act D x).2.b.length, q2_36)), rfl, ?_⟩
          refine stL_blk LA_36.blk (by rw [zeroT]; exact Nat.le_refl 3) fun k37 b37 o37 => ?_
          have b37 := told_set b37
          have S37 := S36.loc o37 LA_36.tag (by omega)
          have im1_37 := Im.loc im1_36 o37 LA_36.tag
          have im2_37 := Im.loc im2_36 o37 LA_36.tag
          have LB_37 := Loc.only LB_36 o37 (by omega)
          refine stL_blk LB_37.blk (by rw [zeroT]; exact Nat.le_refl 3) fun k38 b38 o38 => ?_
          have b38 := told_set b38
          have S38 := S37.loc o38 LB_37.tag (by omega)
          have im1_38 := Im.loc im1_37 o38 LB_37.tag
          have im2_38 := Im.loc im2_37 o38 LB_37.tag
          exact hK _ _ ⟨_, _, _, _, _, _, _, rfl, b37.only o38 (by omega), b38, S38, im1_38, im2_38⟩
      · refine new_of fun k39 b39 n39 z39 => ?_
        have S39 := S29.alloc n39
        have LA_39 := Loc.alloc LA_29 n39
        have LB_39 := Loc.here (t := (lay tt h3.size (3, 0))) b39
        have lt_39 := LA_29.lt
        have sq_39 := S29.bq.lt
        refine call_of (do_st S39 o i) ?_
        rintro v k40 ⟨p1_40, p2_40, t40, rfl, S40, f40, im1_40⟩
        have LA_40 := Loc.fr1 LA_39 f40
        have LB_40 := Loc.fr1 LB_39 f40
        obtain ⟨q0_40, q1_40, q2_40, q3_40, q4_40, q5_40⟩ := S40.six
        refine ⟨((act D x).2.n, (act D x).2.e, (p1_40, (act D x).2.b.length, p2_40)), rfl, q0_40, q1_40, q2_40, q3_40, q4_40, q5_40, ?_⟩
        refine call_of (own_st S40 o i) ?_
        rintro v k41 ⟨q1_41, q2_41, t41, rfl, S41, f41, im2_41⟩
        have im1_41 := Im.fr im1_40 f41 fr0b
        have LA_41 := Loc.fr2 LA_40 f41
        have LB_41 := Loc.fr2 LB_40 f41
        refine ⟨((act D x).2.n, (act D x).2.e, (q1_41, (act D x).2.b.length, q2_41)), rfl, ?_⟩
        refine stL_blk LA_41.blk (by rw [zeroT]; exact Nat.le_refl 3) fun k42 b42 o42 => ?_
        have b42 := told_set b42
        have S42 := S41.loc o42 LA_41.tag (by omega)
        have im1_42 := Im.loc im1_41 o42 LA_41.tag
        have im2_42 := Im.loc im2_41 o42 LA_41.tag
        have LB_42 := Loc.only LB_41 o42 (by omega)
        refine stL_blk LB_42.blk (by rw [zeroT]; exact Nat.le_refl 3) fun k43 b43 o43 => ?_
        have b43 := told_set b43
        have S43 := S42.loc o43 LB_42.tag (by omega)
        have im1_43 := Im.loc im1_42 o43 LB_42.tag
        have im2_43 := Im.loc im2_42 o43 LB_42.tag
        exact hK _ _ ⟨_, _, _, _, _, _, _, rfl, b42.only o43 (by omega), b43, S43, im1_43, im2_43⟩
    · refine new_of fun k44 b44 n44 z44 => ?_
      have S44 := S0.alloc n44
      have LB_44 := Loc.here (t := tt) b44
      have sq_44 := S0.bq.lt
      refine ⟨?_, ?_⟩
      · refine call_of (do_st S44 o i) ?_
        rintro v k45 ⟨p1_45, p2_45, t45, rfl, S45, f45, im1_45⟩
        have LB_45 := Loc.fr1 LB_44 f45
        obtain ⟨q0_45, q1_45, q2_45, q3_45, q4_45, q5_45⟩ := S45.six
        refine ⟨((act D x).2.n, (act D x).2.e, (p1_45, (act D x).2.b.length, p2_45)), rfl, q0_45, q1_45, q2_45, q3_45, q4_45, q5_45, ?_⟩
        refine ⟨?_, ?_⟩
        · refine call_of (own_st S45 o i) ?_
          rintro v k46 ⟨q1_46, q2_46, t46, rfl, S46, f46, im2_46⟩
          have im1_46 := Im.fr im1_45 f46 fr0b
          have LB_46 := Loc.fr2 LB_45 f46
          refine ⟨((act D x).2.n, (act D x).2.e, (q1_46, (act D x).2.b.length, q2_46)), rfl, ?_⟩
          refine new_of fun k47 b47 n47 z47 => ?_
          have S47 := S46.alloc n47
          have im1_47 := Im.alloc im1_46 n47
          have im2_47 := Im.alloc im2_46 n47
          have LB_47 := Loc.alloc LB_46 n47
          have LA_47 := Loc.here (t := t46) b47
          have lt_47 := LB_46.lt
          have sq_47 := S46.bq.lt
          refine stL_blk LA_47.blk (by rw [zeroT]; exact Nat.le_refl 3) fun k48 b48 o48 => ?_
          have b48 := told_set b48
          have S48 := S47.loc o48 LA_47.tag (by omega)
          have im1_48 := Im.loc im1_47 o48 LA_47.tag
          have im2_48 := Im.loc im2_47 o48 LA_47.tag
          have LB_48 := Loc.only LB_47 o48 (by omega)
          refine stL_blk LB_48.blk (by rw [zeroT]; exact Nat.le_refl 3) fun k49 b49 o49 => ?_
          have b49 := told_set b49
          have S49 := S48.loc o49 LB_48.tag (by omega)
          have im1_49 := Im.loc im1_48 o49 LB_48.tag
          have im2_49 := Im.loc im2_48 o49 LB_48.tag
          exact hK _ _ ⟨_, _, _, _, _, _, _, rfl, b48.only o49 (by omega), b49, S49, im1_49, im2_49⟩
        · refine new_of fun k50 b50 n50 z50 => ?_
          have S50 := S45.alloc n50
          have im1_50 := Im.alloc im1_45 n50
          have LB_50 := Loc.alloc LB_45 n50
          have LA_50 := Loc.here (t := t45) b50
          have lt_50 := LB_45.lt
          have sq_50 := S45.bq.lt
          refine call_of (own_st S50 o i) ?_
          rintro v k51 ⟨q1_51, q2_51, t51, rfl, S51, f51, im2_51⟩
          have im1_51 := Im.fr im1_50 f51 fr0b
          have LA_51 := Loc.fr2 LA_50 f51
          have LB_51 := Loc.fr2 LB_50 f51
          refine ⟨((act D x).2.n, (act D x).2.e, (q1_51, (act D x).2.b.length, q2_51)), rfl, ?_⟩
          refine stL_blk LA_51.blk (by rw [zeroT]; exact Nat.le_refl 3) fun k52 b52 o52 => ?_
          have b52 := told_set b52
          have S52 := S51.loc o52 LA_51.tag (by omega)
          have im1_52 := Im.loc im1_51 o52 LA_51.tag
          have im2_52 := Im.loc im2_51 o52 LA_51.tag
          have LB_52 := Loc.only LB_51 o52 (by omega)
          refine stL_blk LB_52.blk (by rw [zeroT]; exact Nat.le_refl 3) fun k53 b53 o53 => ?_
          have b53 := told_set b53
          have S53 := S52.loc o53 LB_52.tag (by omega)
          have im1_53 := Im.loc im1_52 o53 LB_52.tag
          have im2_53 := Im.loc im2_52 o53 LB_52.tag
          exact hK _ _ ⟨_, _, _, _, _, _, _, rfl, b52.only o53 (by omega), b53, S53, im1_53, im2_53⟩
      · refine new_of fun k54 b54 n54 z54 => ?_
        have S54 := S44.alloc n54
        have LB_54 := Loc.alloc LB_44 n54
        have LA_54 := Loc.here (t := (lay tt h3.size (3, 0))) b54
        have lt_54 := LB_44.lt
        have sq_54 := S44.bq.lt
        refine call_of (do_st S54 o i) ?_
        rintro v k55 ⟨p1_55, p2_55, t55, rfl, S55, f55, im1_55⟩
        have LA_55 := Loc.fr1 LA_54 f55
        have LB_55 := Loc.fr1 LB_54 f55
        obtain ⟨q0_55, q1_55, q2_55, q3_55, q4_55, q5_55⟩ := S55.six
        refine ⟨((act D x).2.n, (act D x).2.e, (p1_55, (act D x).2.b.length, p2_55)), rfl, q0_55, q1_55, q2_55, q3_55, q4_55, q5_55, ?_⟩
        refine call_of (own_st S55 o i) ?_
        rintro v k56 ⟨q1_56, q2_56, t56, rfl, S56, f56, im2_56⟩
        have im1_56 := Im.fr im1_55 f56 fr0b
        have LA_56 := Loc.fr2 LA_55 f56
        have LB_56 := Loc.fr2 LB_55 f56
        refine ⟨((act D x).2.n, (act D x).2.e, (q1_56, (act D x).2.b.length, q2_56)), rfl, ?_⟩
        refine stL_blk LA_56.blk (by rw [zeroT]; exact Nat.le_refl 3) fun k57 b57 o57 => ?_
        have b57 := told_set b57
        have S57 := S56.loc o57 LA_56.tag (by omega)
        have im1_57 := Im.loc im1_56 o57 LA_56.tag
        have im2_57 := Im.loc im2_56 o57 LA_56.tag
        have LB_57 := Loc.only LB_56 o57 (by omega)
        refine stL_blk LB_57.blk (by rw [zeroT]; exact Nat.le_refl 3) fun k58 b58 o58 => ?_
        have b58 := told_set b58
        have S58 := S57.loc o58 LB_57.tag (by omega)
        have im1_58 := Im.loc im1_57 o58 LB_57.tag
        have im2_58 := Im.loc im2_57 o58 LB_57.tag
        exact hK _ _ ⟨_, _, _, _, _, _, _, rfl, b57.only o58 (by omega), b58, S58, im1_58, im2_58⟩
  rintro ⟨s1, s2⟩ h4 ⟨gA, gB, a1, c1, a2, c2, t', e, bA, bB, S, im1, im2⟩ _
  obtain ⟨rfl, rfl⟩ := Prod.mk.inj e
  have hl := act_told D o x
  refine ptr_of (ld_of (c := .int .i64) (act D x).2.n (by rw [add_mk, cellH_blk bA]; rfl) (ptr_of (ld_of (c := .int .i64) (act D x).2.n (by rw [add_mk, cellH_blk bB]; rfl) (br_f (by simp) (ptr_of (ld_of (c := .int .i64) (act D x).2.e (by rw [add_mk, cellH_blk bA]; rfl) (ptr_of (ld_of (c := .int .i64) (act D x).2.e (by rw [add_mk, cellH_blk bB]; rfl) (br_f (by simp) (ptr_of (ld_of (c := .slice) (a1, (act D x).2.b.length, c1) (by rw [add_mk, cellH_blk bA]; rfl) (ptr_of (ld_of (c := .slice) (a2, (act D x).2.b.length, c2) (by rw [add_mk, cellH_blk bB]; rfl) (call_of (Same3.same_ok _ _ _ _ _ _ h4 (act D x).2.b (act D x).2.b rfl rfl (show (act D x).2.b.length ≤ 9223372036854775806 by omega) im1.ar im2.ar) ?_))))))))))))))
  rintro v h' ⟨rfl, hh⟩; subst h'
  refine ⟨true, by rw [decide_eq_true rfl] <;> rfl, br_f rfl (call_of (alike_ok (DevOk.act o hin) h4 S.rp S.rr) ?_)⟩
  rintro v h5 ⟨rfl, n5⟩
  refine ⟨true, rfl, br_f rfl ?_⟩
  rw [wr64 (by omega) (by omega)]
  have S5 := S.new n5
  exact ⟨⟨i + 1, (act D x).1, t', rfl, hlt, DevOk.act o hin, S5.bs, S5.rp, S5.rr⟩, (by first | omega | (dsimp only; omega) | (simp only []; omega))⟩
end Go.Proofs.YtgohecjnjadnpaaDoor.L7L
