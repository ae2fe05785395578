/-
  What ZnsApart of layer 7 comes to.
-/
import Derived.Test.YtgohecjnjadnpaaDoorL7B
namespace Go.Proofs.YtgohecjnjadnpaaDoor.L7E
open Go.Pl Go.Proofs.YtgohecjnjadnpaaDoor.W Go.Proofs.YtgohecjnjadnpaaDoor.Byts Go.Proofs.YtgohecjnjadnpaaDoor.As Go.Proofs.YtgohecjnjadnpaaDoor.Zns Go.Proofs.YtgohecjnjadnpaaDoor.L7A Go.Proofs.YtgohecjnjadnpaaDoor.L7B
theorem act_len (D : Dev) (x : L7A.Act) : (act D x).1.zs.length = D.zs.length := by
  have set : ∀ (E : Dev) (Z : Zn), E.zs = D.zs → (E.setZ x.zone Z).zs.length = D.zs.length := fun E Z h1 => by simp [Dev.setZ, h1]
  have same : ∀ (E : Dev), E.zs = D.zs → E.zs.length = D.zs.length := fun E h1 => by rw [h1]
  unfold act
  split
  · unfold Dev.append
    simp only []
    split
    · exact same _ (doing_zs ..)
    · exact set _ _ (doing_zs ..)
  split
  · rfl
  split
  · unfold Dev.reset
    simp only []
    split
    · exact same _ (doing_zs ..)
    · exact set _ _ (doing_zs ..)
  split
  · unfold Dev.finish
    simp only []
    split
    · exact same _ (doing_zs ..)
    · exact set _ _ (doing_zs ..)
  split
  · unfold Dev.flush
    simp only []
    split
    · exact same _ (doing_zs ..)
    · simp [Dev.settle, doing_zs]
  split
  · rfl
  split
  · simp [Dev.crash]
  · rfl
/-- What is seen of each of the first zones. -/
def seens (D : Dev) (n : Nat) : List (List Int) := (List.range n).map fun i : Nat => seenF D (i : Int)
theorem seens_len (D : Dev) (n : Nat) : (seens D n).length = n := by simp [seens]
theorem seens_succ (D : Dev) (n : Nat) : seens D (n + 1) = seens D n ++ [seenF D (n : Int)] := by simp [seens, List.range_succ]
theorem apart_law (h00 : Heap) (v0 v1 v2 v3 : Value) (zn pc : Int) (l : List ActT) (one : ActT) (r0 : ReadsV h00 (.int .i64) v0 zn) (r1 : ReadsV h00 (.int .i64) v1 pc) (r2 : ReadsV h00 (.slice ActS) v2 l) (r3 : ReadsV h00 ActS v3 one) (hg0 : Laid h00) :
    CallsH Tryd.prog 10 [v0, v1, v2, v3] h00 fun v h' => v = .bool true ∧ New h00 h' := by
  obtain ⟨rfl⟩ : v0 = .int .i64 zn := by obtain ⟨cs, hcs, e, _⟩ := r0; simp only at hcs; subst hcs; injection e
  obtain ⟨rfl⟩ : v1 = .int .i64 pc := by obtain ⟨cs, hcs, e, _⟩ := r1; simp only at hcs; subst hcs; injection e
  obtain ⟨a, c, rfl, _, _, _, sl⟩ := SlAt.reads r2
  obtain ⟨ba1, bc1, ka1, kc1, ta1, tc1, rfl, rd1, in1⟩ := act_arg r3
  refine fun_ok hm' Tryd.func10 (by kernel_rfl) (F10_eq zn pc a l.length c _ _ _ _ _ _ _ _ _ _ _ _ _ h00) ?_
  unfold F10
  refine new_of fun h b01 nb s01 => ?_
  have bo : Blk h h00.size (actA (actOf one) ba1 ka1 ta1 bc1 kc1 tc1) 56 := b01
  have hg := hg0.new nb
  have sl := sl.new nb
  have rd1 := rd1.new nb
  refine call_of (L7.awake_ok h hg) ?_
  rintro v h1 ⟨rfl, n1⟩
  refine ⟨true, rfl, br_f rfl ?_⟩
  by_cases hn : ¬ ((1 ≤ zn ∧ zn ≤ 24) ∧ 1 ≤ pc ∧ pc ≤ 16)
  · refine call_of (ZnsP.new_no zn pc h1 hn) ?_
    rintro v h' ⟨rfl, hh⟩; subst h'
    refine ⟨(none, errV 1), rfl, cut_q (ts := []) (fun _ _ => False) (fun _ _ hf _ => hf.elim) ?_⟩
    intro K hK
    exact br_t rfl ⟨rfl, nb.trans n1⟩
  have hn := Classical.not_not.1 hn
  obtain ⟨m, rfl⟩ := Int.eq_ofNat_of_zero_le (show 0 ≤ zn by omega)
  obtain ⟨pp, rfl⟩ := Int.eq_ofNat_of_zero_le (show 0 ≤ pc by omega)
  have bs1 : Bs h (fun _ => (0, 0)) h1 := (Bs.start hg).newer n1
  refine call_of (ZnsP.new_ok 1 (by decide) (fun _ => (0, 0)) m pp h1 (by omega) (by omega)) ?_
  rintro v h2 ⟨bp, rfl, n2, _, t2, ht2, rp2⟩
  have bs2 := bs1.tags n2 ht2
  have o0 : DevOk (Dev.empty m pp) := DevOk.empty (by omega) (by omega)
  refine ⟨(some ⟨bp, 0, none⟩, errV 0), rfl, cut_q (ts := []) (fun _ h' => New h2 h' ∧ isLarge l = false ∧ isLarge [one] = false ∧ (actOf one).op ≠ 6) ?_ ?_⟩
  rotate_left
  · intro K hK
    refine br_f rfl (call_of (large_ok a c l h2 (sl.new bs2.new)) ?_)
    rintro v h3 ⟨rfl, n3⟩
    have n03 := (bs2.newer n3).new
    refine ⟨isLarge l, rfl, br_of (fun _ => ⟨rfl, nb.trans n03⟩) fun hl => ldAct (bo.new n03) (new_of fun h4 b4 n4 s4 => ?_)⟩
    have n04 := n03.trans n4
    have b4 : Blk h4 h3.size (actA (actOf one) ba1 ka1 ta1 bc1 kc1 tc1).toList.toArray 56 := b4
    refine call_of (large_ok (some ⟨h3.size, 0, none⟩) 1 [one] h4 (one_at b4 rfl (rd1.new n04))) ?_
    rintro v h5 ⟨rfl, n5⟩
    have bo5 := bo.new (n04.trans n5)
    exact ⟨isLarge [one], rfl, br_of (fun _ => ⟨rfl, nb.trans (n04.trans n5)⟩) fun hl2 => ld_of (c := .int .i64) (actOf one).op (by rw [add_mk, cellH_blk bo5]; rfl) (br_of (fun _ => ⟨rfl, nb.trans (n04.trans n5)⟩) fun hop => hK () _ ⟨(n3.trans n4).trans n5, hl, hl2, fun e => by rw [e] at hop; exact absurd hop (by decide)⟩)⟩
  rintro _ h3 ⟨n3, hlg, hlg2, hop⟩ _
  obtain ⟨hlen, hsm⟩ := notLarge hlg
  obtain ⟨_, hsm2⟩ := notLarge hlg2
  have in1 := ActIn.new (in1 (by have := (hsm2 one (by simp)).1; omega)) nb
  have bs3 := bs2.newer n3
  have rp3 := rp2.new n3
  refine ⟨fun (s : Int) h' => ∃ (i : Nat) (D : Dev) (t : Tags), s = i ∧ i ≤ l.length ∧ DevOk D ∧ D.zs.length = m ∧ Bs h t h' ∧ PRep 1 t h' bp D, fun (s : Int) _ => ((l.length : Int) - s).toNat, ⟨0, _, t2, rfl, Nat.zero_le _, o0, by simp [Dev.empty], bs3, rp3⟩, ?_⟩
  rintro s j h4 ⟨i, D, t, rfl, hi, o, hzl, bs4, rp4⟩
  refine br_of (fun hlt => ?_) (fun hlt => ?_)
  · have hlt : i < l.length := by have := of_decide_eq_true hlt; omega
    obtain ⟨ba, bc, ka, kc, ta, tc, hin, ld⟩ := act_at sl bs4.new hlt
    have hin := hin (by have := (hsm _ (List.getElem_mem hlt)).1; omega)
    refine ld hlt (new_stL (by rw [zeroAct]; rfl) fun h5 b5 n5 s5 => ?_)
    have b5 : Blk h5 h4.size (actA (actOf l[i]) ba ka ta bc kc tc) 56 := b5
    refine ldAct b5 (call_of (do_ok o (actOf l[i]) ba ka ta bc kc tc h5 (bs4.newer n5) hin (rp4.new n5) (by decide)) ?_)
    rintro v h6 ⟨a6, c6, t6, rfl, rp6, f6, _⟩
    refine ⟨((act D (actOf l[i])).2.n, (act D (actOf l[i])).2.e, (a6, (act D (actOf l[i])).2.b.length, c6)), rfl, ?_⟩
    rw [wr64 (by omega) (by omega)]
    exact ⟨⟨i + 1, _, t6, rfl, hlt, DevOk.act o hin, by rw [act_len]; exact hzl, (bs4.newer n5).own (by decide) f6, rp6⟩, (by first | omega | (dsimp only; omega) | (simp only []; omega))⟩
  -- it is up again
  refine cut_q (ts := []) (fun _ h' => ∃ D t, DevOk D ∧ D.zs.length = m ∧ D.down = false ∧ Bs h t h' ∧ PRep 1 t h' bp D) ?_ ?_
  rotate_left
  · intro K hK
    refine call_of (ZnsP.down_ok h4 rp4) ?_
    rintro v h' ⟨rfl, hh⟩; subst h'
    refine ⟨D.down, rfl, br_of (fun _ => ?_) fun hd => hK () _ ⟨D, t, o, hzl, hd, bs4, rp4⟩⟩
    have ins : ZnsP.Ins t h4 none [] none [] := ⟨fun j x hx => by simp at hx, fun j x hx => by simp at hx, fun e => (e rfl).elim, fun e => (e rfl).elim⟩
    refine call_of (ZnsP.crash_ok o none 0 [] none 0 [] h4 rp4 ins (fun x hx => by cases hx)) ?_
    rintro v h5 ⟨rfl, t5, rp5, f5⟩
    exact ⟨(), rfl, hK () _ ⟨_, t5, o.crash [] [], by simpa [Dev.crash] using hzl, rfl, bs4.own (by decide) f5, rp5⟩⟩
  clear rp4 bs4 hzl o
  clear D t
  rintro _ h5 ⟨D, t5, o, hzl, hd, bs5, rp5⟩ _
  -- what is seen first
  refine ⟨fun (s : (Option Addr × Nat × Nat) × Int) h' => ∃ (z : Nat) (t : Tags), s.2 = z ∧ z ≤ m ∧ s.1.2.1 = (seens D z).length ∧ Bs h t h' ∧ PRep 1 t h' bp D ∧ PRow 3 0 t h' s.1.1 s.1.2.2 (seens D z), fun (s : (Option Addr × Nat × Nat) × Int) _ => ((m : Int) - s.2).toNat, ⟨0, t5, rfl, Nat.zero_le _, rfl, bs5, rp5, PRow.nil 3 0 t5 h5⟩, ?_⟩
  rintro ⟨⟨wa, wn, wc⟩, s⟩ j2 h6 ⟨z, t6, hs, hz, hwn, bs6, rp6, rw6⟩
  simp only [] at hs hwn rw6 ⊢
  subst hs; subst hwn
  refine br_of (fun hlt2 => ?_) (fun hlt2 => ?_)
  · have hlt2 : z < m := by have := of_decide_eq_true hlt2; omega
    refine call_of (seen_ok o (z : Int) h6 rp6) ?_
    rintro v h7 ⟨a7, c7, rfl, g7⟩
    refine ⟨((a7, (seenF D (z : Int)).length, c7), (D.state (z : Int), (D.point (z : Int) : Int), (D.sure (z : Int) : Int))), rfl, new_stL (by rw [zero74]; rfl) fun h8 b8 n8 s8 => ?_⟩
    have n68 := g7.new.trans n8
    have bs8 : Bs h (lay t6 h6.size (0, 0)) h8 := bs6.fr (S := fun _ => True) (Fr.lay n68 _) fun _ _ => trivial
    have rp8 : PRep 1 (lay t6 h6.size (0, 0)) h8 bp D := ZnsP.PRep.lay rp6 n68
    have im8 : Im .u8 (lay t6 h6.size (0, 0)) h8 a7 (seenF D (z : Int)) := (Im.got g7 (0, 0) rfl).new n8
    have rw8 : PRow 3 0 (lay t6 h6.size (0, 0)) h8 wa wc (seens D z) := rw6.fr (S := fun _ => True) (Fr.lay n68 _) (fun _ _ => trivial) trivial
    generalize lay t6 h6.size (0, 0) = t8 at bs8 rp8 im8 rw8
    refine PRow.push rw8 (by decide) im8 (by rw [seens_len]; omega) fun a9 c9 h9 t9 f9 r9 => ?_
    have hS : ∀ q : Nat × Nat, q.1 = 0 → q ≠ (3, 2 + 0) := fun q hq e => by subst e; exact absurd hq (by decide)
    rw [wr64 (by omega) (by omega)]
    exact ⟨⟨z + 1, t9, (by first | omega | (dsimp only; omega) | (simp only []; omega)), hlt2, by simp only [seens_len], bs8.fr f9 hS, rp8.fr f9 hS fun j e => absurd (show (1 : Nat) = 3 from congrArg Prod.fst e) (by decide), by rw [seens_succ]; exact r9⟩, (by first | omega | (dsimp only; omega) | (simp only []; omega))⟩
  have hz : z = m := by have := of_decide_eq_false hlt2; omega
  subst hz
  -- the act
  refine ldAct (bo.new bs6.new) (call_of (do_ok o (actOf one) ba1 ka1 ta1 bc1 kc1 tc1 h6 bs6 in1 rp6 (by decide)) ?_)
  rintro v h7 ⟨a7, c7, t7, rfl, rp7, f7, _⟩
  have bs7 := bs6.own (by decide) f7
  have rw7 := rw6.fr f7 L7.own1 (show (3 : Nat) ≠ 1 by decide)
  have oE := DevOk.act o in1
  have ap := fun n hn hne => act_apart D (actOf one) hop n hn hne
  have lE := act_len D (actOf one)
  refine ⟨((act D (actOf one)).2.n, (act D (actOf one)).2.e, (a7, (act D (actOf one)).2.b.length, c7)), rfl, ?_⟩
  generalize (act D (actOf one)).1 = E at rp7 oE ap lE
  refine call_of (ZnsP.down_ok h7 rp7) ?_
  rintro v h' ⟨rfl, hh⟩; subst h'
  refine ⟨E.down, rfl, br_of (fun _ => ?_) fun hdE => ?_⟩
  · have ins : ZnsP.Ins t7 h7 none [] none [] := ⟨fun j x hx => by simp at hx, fun j x hx => by simp at hx, fun e => (e rfl).elim, fun e => (e rfl).elim⟩
    refine call_of (ZnsP.crash_ok oE none 0 [] none 0 [] h7 rp7 ins (fun x hx => by cases hx)) ?_
    rintro v h8 ⟨rfl, t8, rp8, f8⟩
    exact ⟨(), rfl, trivial, nb.trans (bs7.own (by decide) f8).new⟩
  refine ⟨fun (s : Int) h' => ∃ (i : Nat) (t : Tags), s = i ∧ i ≤ z ∧ Bs h t h' ∧ PRep 1 t h' bp E ∧ PRow 3 0 t h' wa wc (seens D z), fun (s : Int) _ => ((z : Int) - s).toNat, ⟨0, t7, rfl, Nat.zero_le _, bs7, rp7, rw7⟩, ?_⟩
  rintro s j3 h8 ⟨i, t8, rfl, hi, bs8, rp8, rw8⟩
  refine br_of (fun hlt3 => ?_) (fun _ => ⟨trivial, nb.trans bs8.new⟩)
  have hlt3 : i < z := by have := of_decide_eq_true hlt3; omega
  refine call_of (seen_ok oE (i : Int) h8 rp8) ?_
  rintro v h9 ⟨a9, c9, rfl, g9⟩
  refine ⟨((a9, (seenF E (i : Int)).length, c9), (E.state (i : Int), (E.point (i : Int) : Int), (E.sure (i : Int) : Int))), rfl, new_stL (by rw [zero74]; rfl) fun h10 b10 n10 s10 => ?_⟩
  have n810 := g9.new.trans n10
  have bs10 := bs8.newer n810
  have rp10 := rp8.new n810
  have rw10 : PRow 3 0 t8 h10 wa wc (seens D z) := rw8.fr (S := fun _ => True) (Fr.new0 n810) (fun _ _ => trivial) trivial
  have bo10 := bo.new bs10.new
  have next : (fun (s : Int) h' => ∃ (i : Nat) (t : Tags), s = i ∧ i ≤ z ∧ Bs h t h' ∧ PRep 1 t h' bp E ∧ PRow 3 0 t h' wa wc (seens D z)) (IntKind.wrap .i64 ((i : Int) + 1)) h10 ∧ ((z : Int) - IntKind.wrap .i64 ((i : Int) + 1)).toNat < ((z : Int) - i).toNat := by
    rw [wr64 (by omega) (by omega)]
    exact ⟨⟨i + 1, t8, rfl, hlt3, bs10, rp10, rw10⟩, by omega⟩
  refine ld_of (c := .int .i64) (actOf one).zone (by rw [add_mk, cellH_blk bo10]; rfl) (br_of (fun hne => ?_) fun _ => next)
  have hne : (i : Int) ≠ (actOf one).zone := by
    intro e
    rw [← e] at hne
    simp at hne
  have hiW : i < (seens D z).length := by rw [seens_len]; exact hlt3
  obtain ⟨a11, c11, im11, ld11⟩ := rw10.ld hiW
  refine ld11 hiW ?_
  have hW : (seens D z)[i] = seenF D (i : Int) := by simp [seens]
  obtain ⟨hP, _, hpg⟩ := ap i (by rw [hzl]; exact hlt3) hne
  have hth : E.there (i : Int) = D.there (i : Int) := by unfold Dev.there; rw [lE]
  have hsn : seenF E (i : Int) = seenF D (i : Int) := seenL_zone (hdE.trans hd.symm) hP (i : Int) hth hpg
  have hsl : (seenF E (i : Int)).length ≤ 9223372036854775806 := by
    have := seenL_len oE (i : Int) (E.point (i : Int)); have := point_le oE (i : Int); unfold seenF; omega
  refine call_of (Same3.same_ok _ _ _ _ _ _ h10 (seenF E (i : Int)) (seens D z)[i] rfl rfl hsl (g9.ar.new n10) im11.ar) ?_
  rintro v h' ⟨rfl, hh⟩; subst h'
  exact ⟨true, by rw [decide_eq_true (hsn.trans hW.symm)] <;> rfl, br_f rfl next⟩
end Go.Proofs.YtgohecjnjadnpaaDoor.L7E
