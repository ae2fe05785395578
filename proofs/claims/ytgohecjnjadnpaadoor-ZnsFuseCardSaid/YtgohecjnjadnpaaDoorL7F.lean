/-
  What ZnsFuse of layer 7 comes to.
-/
import Derived.Test.YtgohecjnjadnpaaDoorL7
namespace Go.Proofs.YtgohecjnjadnpaaDoor.L7F
open Go.Pl Go.Proofs.YtgohecjnjadnpaaDoor.W Go.Proofs.YtgohecjnjadnpaaDoor.Byts Go.Proofs.YtgohecjnjadnpaaDoor.As Go.Proofs.YtgohecjnjadnpaaDoor.Zns Go.Proofs.YtgohecjnjadnpaaDoor.L7A
/- Plain laws. -/
/-- Of calls that are done there are n; of a fuse of f. -/
structure FInv (D : Dev) (n f : Nat) : Prop where
  ops : D.ops = (n : Int)
  le : n ≤ f
  down : D.down = true → n = f
  up : D.down = false → D.fuse = (f : Int) - (n : Int)
theorem doing_cases (D : Dev) (e : Int) (he : e ≠ 7) {n f : Nat} (hn : n ≤ 1000000) (I : FInv D n f) :
    ((D.doing e).2 = 0 ∧ D.down = false ∧ FInv (D.doing e).1 (n + 1) f) ∨ ((D.doing e).2 ≠ 0 ∧ FInv (D.doing e).1 n f ∧ (D.down = true → (D.doing e).2 = 7) ∧ ((D.doing e).2 = 7 → (D.doing e).1.down = true ∧ n = f)) := by
  obtain ⟨h1, h2, h3, h4⟩ := I
  unfold Dev.doing
  by_cases hd : D.down = true
  · rw [if_pos hd]
    exact .inr ⟨by simp, ⟨h1, h2, h3, h4⟩, fun _ => rfl, fun _ => ⟨hd, h3 hd⟩⟩
  rw [if_neg hd]
  have hd' : D.down = false := by simpa using hd
  have h4 := h4 hd'
  by_cases h0 : e ≠ 0
  · rw [if_pos h0]
    exact .inr ⟨h0, ⟨h1, h2, h3, fun _ => h4⟩, fun h => (hd h).elim, fun h => (he h).elim⟩
  rw [if_neg h0]
  by_cases hf : D.fuse = 0
  · rw [if_pos hf]
    have : n = f := by omega
    exact .inr ⟨by simp, ⟨h1, h2, fun _ => this, fun h => by cases h⟩, fun h => (hd h).elim, fun _ => ⟨rfl, this⟩⟩
  · rw [if_neg hf]
    refine .inl ⟨rfl, hd', ?_, by omega, fun h => (hd h).elim, fun _ => ?_⟩
    · show IntKind.wrap .i64 (D.ops + 1) = _
      rw [h1, wr64 (by omega) (by omega)]; omega
    · show max (D.fuse - 1) (-1) = _
      omega
theorem FInv.setZ {D : Dev} {n f : Nat} (I : FInv D n f) (z : Int) (Z : Zn) : FInv (D.setZ z Z) n f := ⟨I.ops, I.le, I.down, I.up⟩
theorem FInv.settle {D : Dev} {n f : Nat} (I : FInv D n f) : FInv D.settle n f := ⟨I.ops, I.le, I.down, I.up⟩
theorem appendE_ne (D : Dev) (z : Int) (b : List Int) : D.appendE z b ≠ 7 := by unfold Dev.appendE; split; decide; split <;> decide
theorem resetE_ne (D : Dev) (z : Int) : D.resetE z ≠ 7 := by unfold Dev.resetE; split <;> decide
theorem finishE_ne (D : Dev) (z : Int) : D.finishE z ≠ 7 := by unfold Dev.finishE; split; decide; split <;> decide
/-- What an act that is neither a fuse nor a crash does to the count. -/
def next (x : L7A.Act) (e : Int) (n : Nat) : Nat := if x.op ≠ 1 ∧ e = 0 then n + 1 else n
theorem act_fuse {D : Dev} {x : L7A.Act} {n f : Nat} (hn : n ≤ 1000000) (hx : 0 ≤ x.op ∧ x.op ≤ 4) (I : FInv D n f) :
    FInv (act D x).1 (next x (act D x).2.e n) f ∧ (D.down = true → (act D x).2.e = 7) ∧ ((act D x).2.e = 7 → (act D x).1.down = true ∧ next x (act D x).2.e n = f) ∧ ((act D x).2.e ≠ 0 → (act D x).1.zs = D.zs) := by
  unfold act
  by_cases e0 : x.op = 0
  · simp only [if_pos e0]
    unfold Dev.append
    simp only []
    rcases doing_cases D _ (appendE_ne D x.zone x.b) hn I with ⟨h1, h2, h3⟩ | ⟨h1, h2, h3, h4⟩
    · rw [if_neg (by simp [h1])]
      refine ⟨?_, fun h => (by rw [h2] at h; cases h), fun h => by simp at h, fun h => (h rfl).elim⟩
      unfold next; rw [if_pos ⟨by omega, rfl⟩]; exact h3.setZ _ _
    · rw [if_pos h1]
      have en : next x ((D.doing (D.appendE x.zone x.b)).2) n = n := by unfold next; rw [if_neg (fun h => h1 h.2)]
      simp only [en]
      exact ⟨h2, h3, h4, fun _ => doing_zs ..⟩
  simp only [if_neg e0]
  by_cases e1 : x.op = 1
  · simp only [if_pos e1]
    have en : ∀ e, next x e n = n := fun e => by unfold next; rw [if_neg (fun h => h.1 e1)]
    simp only [en]
    refine ⟨I, fun h => ?_, fun h => ?_, fun _ => trivial⟩
    · unfold Dev.read; rw [if_pos h]
    · have hd : D.down = true := by
        cases hd : D.down with
        | true => rfl
        | false =>
          unfold Dev.read at h; rw [if_neg (by simp [hd])] at h
          split at h
          · cases h
          split at h
          · cases h
          split at h
          · cases h
          · cases h
      exact ⟨hd, I.down hd⟩
  simp only [if_neg e1]
  by_cases e2 : x.op = 2
  · simp only [if_pos e2]
    unfold Dev.reset
    simp only []
    rcases doing_cases D _ (resetE_ne D x.zone) hn I with ⟨h1, h2, h3⟩ | ⟨h1, h2, h3, h4⟩
    · rw [if_neg (by simp [h1])]
      refine ⟨?_, fun h => (by rw [h2] at h; cases h), fun h => by simp at h, fun h => (h rfl).elim⟩
      unfold next; rw [if_pos ⟨by omega, rfl⟩]; exact h3.setZ _ _
    · rw [if_pos h1]
      have en : next x ((D.doing (D.resetE x.zone)).2) n = n := by unfold next; rw [if_neg (fun h => h1 h.2)]
      simp only [en]
      exact ⟨h2, h3, h4, fun _ => doing_zs ..⟩
  simp only [if_neg e2]
  by_cases e3 : x.op = 3
  · simp only [if_pos e3]
    unfold Dev.finish
    simp only []
    rcases doing_cases D _ (finishE_ne D x.zone) hn I with ⟨h1, h2, h3⟩ | ⟨h1, h2, h3, h4⟩
    · rw [if_neg (by simp [h1])]
      refine ⟨?_, fun h => (by rw [h2] at h; cases h), fun h => by simp at h, fun h => (h rfl).elim⟩
      unfold next; rw [if_pos ⟨by omega, rfl⟩]; exact h3.setZ _ _
    · rw [if_pos h1]
      have en : next x ((D.doing (D.finishE x.zone)).2) n = n := by unfold next; rw [if_neg (fun h => h1 h.2)]
      simp only [en]
      exact ⟨h2, h3, h4, fun _ => doing_zs ..⟩
  have e4 : x.op = 4 := by omega
  simp only [if_neg e3, if_pos e4]
  unfold Dev.flush
  simp only []
  rcases doing_cases D 0 (by decide) hn I with ⟨h1, h2, h3⟩ | ⟨h1, h2, h3, h4⟩
  · rw [if_neg (by simp [h1])]
    refine ⟨?_, fun h => (by rw [h2] at h; cases h), fun h => by simp at h, fun h => (h rfl).elim⟩
    unfold next; rw [if_pos ⟨by omega, rfl⟩]; exact h3.settle
  · rw [if_pos h1]
    have en : next x ((D.doing 0).2) n = n := by unfold next; rw [if_neg (fun h => h1 h.2)]
    simp only [en]
    exact ⟨h2, h3, h4, fun _ => doing_zs ..⟩
/-- The pages of the first zones, together. -/
def psum (D : Dev) : Nat → Nat
  | 0 => 0
  | i + 1 => psum D i + D.point (i : Int)
theorem psum_zs {D E : Dev} (h : E.zs = D.zs) : ∀ i, psum E i = psum D i
  | 0 => rfl
  | i + 1 => by
    have : E.point (i : Int) = D.point (i : Int) := by unfold Dev.point Dev.at_ Dev.there; rw [h]
    simp only [psum, psum_zs h i, this]
theorem psum_le {D : Dev} (o : DevOk D) : ∀ i, psum D i ≤ 16 * i
  | 0 => by simp [psum]
  | i + 1 => by
    have := psum_le o i
    have h1 := (o.at_ (i : Int)).most
    have h2 := o.pages
    simp only [psum, Dev.point]; omega
theorem flush_after (D : Dev) (keep : List Int) (tear : List Bool) : (D.crash keep tear).flush.2 = 0 ∧ (D.crash keep tear).down = false := by
  refine ⟨?_, rfl⟩
  unfold Dev.flush Dev.doing Dev.crash
  simp
theorem fuse_law (h : Heap) (v0 v1 v2 v3 : Value) (zn pc fu : Int) (l : List ActT) (r0 : ReadsV h (.int .i64) v0 zn) (r1 : ReadsV h (.int .i64) v1 pc) (r2 : ReadsV h (.int .i64) v2 fu) (r3 : ReadsV h (.slice ActS) v3 l) (hg : Laid h) :
    CallsH Tryd.prog 8 [v0, v1, v2, v3] h fun v h' => v = .bool true ∧ New h h' := by
  obtain ⟨rfl⟩ : v0 = .int .i64 zn := by obtain ⟨cs, hcs, e, _⟩ := r0; simp only at hcs; subst hcs; injection e
  obtain ⟨rfl⟩ : v1 = .int .i64 pc := by obtain ⟨cs, hcs, e, _⟩ := r1; simp only at hcs; subst hcs; injection e
  obtain ⟨rfl, hfu⟩ : v2 = .int .i64 fu ∧ fu ≤ 9223372036854775807 := by obtain ⟨cs, hcs, e, w⟩ := r2; simp only at hcs; subst hcs; injection e with e; exact ⟨e, (i64_wf w).2⟩
  obtain ⟨a, c, rfl, _, _, _, sl⟩ := SlAt.reads r3
  refine fun_ok hm' Tryd.func8 (by kernel_rfl) (F8_eq zn pc fu a l.length c _ h) ?_
  unfold F8
  refine call_of (L7.awake_ok h hg) ?_
  rintro v h1 ⟨rfl, n1⟩
  refine ⟨true, rfl, br_f rfl ?_⟩
  by_cases hn : ¬ ((1 ≤ zn ∧ zn ≤ 24) ∧ 1 ≤ pc ∧ pc ≤ 16)
  · refine call_of (ZnsP.new_no zn pc h1 hn) ?_
    rintro v h' ⟨rfl, hh⟩; subst h'
    refine ⟨(none, errV 1), rfl, cut_q (ts := []) (fun _ _ => False) (fun _ _ hf _ => hf.elim) ?_⟩
    intro K hK
    exact br_t rfl ⟨rfl, n1⟩
  have hn := Classical.not_not.1 hn
  obtain ⟨m, rfl⟩ := Int.eq_ofNat_of_zero_le (show 0 ≤ zn by omega)
  obtain ⟨pp, rfl⟩ := Int.eq_ofNat_of_zero_le (show 0 ≤ pc by omega)
  have bs1 : Bs h (fun _ => (0, 0)) h1 := (Bs.start hg).newer n1
  refine call_of (ZnsP.new_ok 1 (by decide) (fun _ => (0, 0)) m pp h1 (by omega) (by omega)) ?_
  rintro v h2 ⟨bp, rfl, n2, _, t2, ht2, rp2⟩
  have bs2 := bs1.tags n2 ht2
  have o0 : DevOk (Dev.empty m pp) := DevOk.empty (by omega) (by omega)
  refine ⟨(some ⟨bp, 0, none⟩, errV 0), rfl, cut_q (ts := []) (fun _ h' => New h2 h' ∧ isLarge l = false ∧ 0 ≤ fu) ?_ ?_⟩
  rotate_left
  · intro K hK
    refine br_f rfl (call_of (large_ok a c l h2 (sl.new bs2.new)) ?_)
    rintro v h3 ⟨rfl, n3⟩
    refine ⟨isLarge l, rfl, br_of (fun _ => ⟨rfl, (bs2.newer n3).new⟩) fun hl => br_of (fun _ => ⟨rfl, (bs2.newer n3).new⟩) fun hf => hK () _ ⟨n3, hl, ?_⟩⟩
    have := of_decide_eq_false hf; omega
  rintro _ h3 ⟨n3, hlg, hf0⟩ _
  obtain ⟨hlen, hsm⟩ := notLarge hlg
  obtain ⟨f, rfl⟩ := Int.eq_ofNat_of_zero_le hf0
  have bs3 := bs2.newer n3
  have rp3 := rp2.new n3
  refine call_of (ZnsP.fuse_ok (f : Int) h3 rp3) ?_
  rintro v h4 ⟨rfl, rp4, u4⟩
  obtain ⟨t4, rp4, f4⟩ := ZnsP.Acted.of_upd rp3 rp4 u4
  have bs4 := bs3.own (by decide) f4
  have I4 : FInv ((Dev.empty m pp).setFuse (f : Int)) 0 f := ⟨rfl, Nat.zero_le _, (fun h => by cases h), fun _ => by simp only [Dev.setFuse]; omega⟩
  refine ⟨(), rfl, ?_⟩
  refine ⟨fun (s : Int × Int) h' => ∃ (n i : Nat) (D : Dev) (t : Tags), s.1 = n ∧ s.2 = i ∧ n ≤ i ∧ i ≤ l.length ∧ DevOk D ∧ D.zs.length = m ∧ FInv D n f ∧ Bs h t h' ∧ PRep 1 t h' bp D, fun (s : Int × Int) _ => ((l.length : Int) - s.2).toNat, ⟨0, 0, _, t4, rfl, rfl, Nat.le_refl _, Nat.zero_le _, o0.setFuse hfu, by simp [Dev.setFuse, Dev.empty], I4, bs4, rp4⟩, ?_⟩
  rintro ⟨s1, s2⟩ j h5 ⟨n, i, D, t, hs1, hs2, hni, hi, o, hm5, I, bs5, rp5⟩
  simp only [] at hs1 hs2 ⊢
  subst hs1; subst hs2
  refine br_of (fun hlt => ?_) (fun hlt => ?_)
  rotate_left
  · have ins : ZnsP.Ins t h5 none [] none [] := ⟨Ar.nil .i64 h5 none, (fun i x hx => by simp at hx), (fun h => (h rfl).elim), fun h => (h rfl).elim⟩
    refine call_of (ZnsP.crash_ok o none 0 [] none 0 [] h5 rp5 ins (fun x hx => by cases hx)) ?_
    rintro v h6 ⟨rfl, t6, rp6, f6⟩
    obtain ⟨g1, g2⟩ := flush_after D [] []
    have bs6 := bs5.own (by decide) f6
    refine ⟨(), rfl, call_of (ZnsP.down_ok h6 rp6) ?_⟩
    rintro v h' ⟨rfl, hh⟩; subst h'
    refine ⟨_, rfl, br_t (by rw [g2]; rfl) (call_of (ZnsP.flush_ok (o.crash [] []) h6 rp6) ?_)⟩
    rintro v h7 ⟨rfl, t7, rp7, f7⟩
    rw [g1]
    exact ⟨errV 0, rfl, errV_if 0, rfl, (bs6.own (by decide) f7).new⟩
  have hlt : i < l.length := by have := of_decide_eq_true hlt; omega
  have wi : IntKind.wrap .i64 ((i : Int) + 1) = ((i + 1 : Nat) : Int) := by rw [wr64 (by omega) (by omega)]; omega
  obtain ⟨ba, bc, ka, kc, ta, tc, hin, ld⟩ := act_at sl bs5.new hlt
  have hin := hin (by have := (hsm _ (List.getElem_mem hlt)).1; omega)
  refine ld hlt (new_stL (by rw [zeroAct]; rfl) fun h6 b6 n6 s6 => ?_)
  have b6 : Blk h6 h5.size (actA (actOf l[i]) ba ka ta bc kc tc) 56 := b6
  generalize actOf l[i] = x at hin b6
  have bs6 : Bs h (lay t h5.size (0, 0)) h6 := bs5.fr (S := fun _ => True) (Fr.lay n6 _) fun _ _ => trivial
  have rp6 : PRep 1 (lay t h5.size (0, 0)) h6 bp D := ZnsP.PRep.lay rp5 n6
  have tg6 := lay_ge (t := t) (p := ((0, 0) : Nat × Nat)) (Nat.le_refl h5.size)
  generalize lay t h5.size (0, 0) = t6 at bs6 rp6 tg6
  have cop : ∀ {h' : Heap}, New h6 h' → cellH h' (Addr.add ⟨h5.size, 0, none⟩ 0) = some (.int .i64 x.op) := fun n => by rw [add_mk, cellH_blk (b6.new n)]; rfl
  refine cut_q (ts := []) (fun _ h' => h' = h6 ∧ 0 ≤ x.op ∧ x.op ≤ 4) ?_ ?_
  rotate_left
  · intro K hK
    have skip : (∃ (n' i' : Nat) (D : Dev) (t : Tags), (n : Int) = n' ∧ ((i + 1 : Nat) : Int) = i' ∧ n' ≤ i' ∧ i' ≤ l.length ∧ DevOk D ∧ D.zs.length = m ∧ FInv D n' f ∧ Bs h t h6 ∧ PRep 1 t h6 bp D) ∧ ((l.length : Int) - ((i + 1 : Nat) : Int)).toNat < ((l.length : Int) - (i : Int)).toNat :=
      ⟨⟨n, i + 1, D, t6, rfl, rfl, by omega, hlt, o, hm5, I, bs6, rp6⟩, by omega⟩
    refine ld_of (c := .int .i64) x.op (cop (New.refl _)) (br_of (fun h0 => ?_) fun h0 => ld_of (c := .int .i64) x.op (cop (New.refl _)) (br_of (fun h1 => ?_) fun h1 => hK () _ ⟨rfl, ?_, ?_⟩))
    · rw [wi]; exact skip
    · rw [wi]; exact skip
    · have := of_decide_eq_false h0; omega
    · have := of_decide_eq_false h1; omega
  rintro _ h' ⟨hh, hop⟩ _; subst h'
  refine call_of (ZnsP.down_ok h6 rp6) ?_
  rintro v h' ⟨rfl, hh⟩; subst h'
  refine ⟨D.down, rfl, ?_⟩
  -- the pages together, ahead
  refine ⟨fun (s : Int × Int) h' => ∃ q : Nat, s.1 = (psum D q : Int) ∧ s.2 = q ∧ q ≤ m ∧ New h6 h', fun (s : Int × Int) _ => ((m : Int) - s.2).toNat, ⟨0, rfl, rfl, Nat.zero_le _, New.refl _⟩, ?_⟩
  rintro ⟨u1, u2⟩ j2 h7 ⟨q, hu1, hu2, hq, n7⟩
  simp only [] at hu1 hu2 ⊢
  subst hu1; subst hu2
  refine br_of (fun hq2 => ?_) (fun hq2 => ?_)
  · have hq2 : q < m := by have := of_decide_eq_true hq2; omega
    refine call_of (ZnsP.point_ok (q : Int) h7 (rp6.new n7)) ?_
    rintro v h8 ⟨rfl, n8⟩
    have hp := psum_le o q
    have hp1 := (o.at_ (q : Int)).most
    have hp2 := o.pages
    refine ⟨(D.point (q : Int) : Int), rfl, ?_⟩
    have hpt : D.point (q : Int) ≤ 16 := by unfold Dev.point; omega
    rw [wr64 (by omega) (by omega), wr64 (by omega) (by omega)]
    exact ⟨⟨q + 1, by simp only [psum]; omega, (by first | omega | (dsimp only; omega) | (simp only []; omega)), hq2, n7.trans n8⟩, (by first | omega | (dsimp only; omega) | (simp only []; omega))⟩
  have hqm : q = m := by have := of_decide_eq_false hq2; omega
  subst hqm
  have b7 := b6.new n7
  refine ldAct b7 (call_of (do_ok o x ba ka ta bc kc tc h7 (bs6.newer n7) hin (rp6.new n7) (by decide)) ?_)
  rintro v h8 ⟨a8, c8, t8, rfl, rp8, f8, im8⟩
  obtain ⟨J1, J2, J3, J4⟩ := act_fuse (x := x) (by omega) hop I
  obtain ⟨e, he⟩ : ∃ e, e = (act D x).2.e := ⟨_, rfl⟩
  obtain ⟨n', hn'⟩ : ∃ n', n' = next x e n := ⟨_, rfl⟩
  obtain ⟨E, hE⟩ : ∃ E, E = (act D x).1 := ⟨_, rfl⟩
  rw [← he] at J1 J2 J3 J4 ⊢
  rw [← hn'] at J1 J3
  rw [← hE] at J1 J3 J4 rp8
  have oE : DevOk E := by rw [hE]; exact DevOk.act o hin
  have bs8 := (bs6.newer n7).own (by decide) f8
  have b8 := f8.blk b7 (by rw [tg6]; decide)
  refine ⟨((act D x).2.n, e, (a8, (act D x).2.b.length, c8)), rfl, new_stL (by rw [zeroT]; rfl) fun h9 b9 n9 s9 => ?_⟩
  have b9 : Blk h9 h8.size #[.int .i64 (act D x).2.n, .int .i64 e, .slice a8 (act D x).2.b.length c8] 58 := b9
  have ce : ∀ {h' : Heap}, New h9 h' → cellH h' (Addr.add ⟨h8.size, 0, none⟩ 1) = some (.int .i64 e) := fun n => by rw [add_mk, cellH_blk (b9.new n)]; rfl
  have rp9 := rp8.new n9
  have bs9 := bs8.newer n9
  have cop9 : cellH h9 (Addr.add ⟨h5.size, 0, none⟩ 0) = some (.int .i64 x.op) := by rw [add_mk, cellH_blk (b8.new n9)]; rfl
  have hn'le : n' ≤ i + 1 := by rw [hn']; unfold next; split <;> omega
  refine cut_q (ts := [.sc (.int .i64)]) (fun (s : Int) h' => s = (n' : Int) ∧ h' = h9) ?_ ?_
  rotate_left
  · intro K hK
    refine ld_of (c := .int .i64) x.op cop9 (br_of (fun h0 => ld_of (c := .int .i64) e (ce (New.refl _)) (br_of (fun h1 => hK _ _ ⟨?_, rfl⟩) fun h1 => hK _ _ ⟨?_, rfl⟩)) fun h0 => hK _ _ ⟨?_, rfl⟩)
    · rw [wr64 (by omega) (by omega), hn']; unfold next; rw [if_pos ⟨by simpa using h0, by simpa using h1⟩]; omega
    · rw [hn']; unfold next; rw [if_neg (fun hh => by simp [hh.2] at h1)]
    · rw [hn']; unfold next; rw [if_neg (fun hh => by simp [hh.1] at h0)]
  rintro s h' ⟨hs, hh⟩ _; subst h'
  have hs : s = (n' : Int) := hs
  subst hs
  have hle := J1.le
  have hno : decide ((n' : Int) > (f : Int)) = false := decide_eq_false (by omega)
  -- what is asked whether power was there or not
  refine cut_q (ts := []) (fun _ h' => h' = h9) ?_ ?_
  rotate_left
  · intro K hK
    refine br_of (fun hd => ?_) fun hd => ?_
    · have he7 := J2 hd
      obtain ⟨k1, k2⟩ := J3 he7
      refine ld_of (c := .int .i64) e (ce (New.refl _)) (br_f (by simp [he7]) (br_f hno (call_of (ZnsP.ops_ok h9 rp9) ?_)))
      rintro v h' ⟨rfl, hh⟩; subst h'
      refine ⟨E.ops, rfl, br_f (by simp [J1.ops]) (ld_of (c := .int .i64) e (ce (New.refl _)) (br_of (fun _ => call_of (ZnsP.down_ok h9 rp9) ?_) fun _ => hK () _ rfl))⟩
      rintro v h' ⟨rfl, hh⟩; subst h'
      exact ⟨E.down, rfl, br_f (by simp [k1]) (br_f (by simp [k2]) (hK () _ rfl))⟩
    · refine br_f hno (call_of (ZnsP.ops_ok h9 rp9) ?_)
      rintro v h' ⟨rfl, hh⟩; subst h'
      refine ⟨E.ops, rfl, br_f (by simp [J1.ops]) (ld_of (c := .int .i64) e (ce (New.refl _)) (br_of (fun h7 => call_of (ZnsP.down_ok h9 rp9) ?_) fun _ => hK () _ rfl))⟩
      rintro v h' ⟨rfl, hh⟩; subst h'
      obtain ⟨k1, k2⟩ := J3 (by simpa using h7)
      exact ⟨E.down, rfl, br_f (by simp [k1]) (br_f (by simp [k2]) (hK () _ rfl))⟩
  rintro _ h' hh _; subst h'
  have hmE : E.zs.length = q := by
    rw [hE]; unfold act
    have keepLen : ∀ (G : Dev), G.zs.length = D.zs.length → G.zs.length = q := fun G hG => hG.trans hm5
    split
    · refine keepLen _ ?_; unfold Dev.append; simp only []; split <;> simp [Dev.setZ, doing_zs]
    split
    · exact hm5
    split
    · refine keepLen _ ?_; unfold Dev.reset; simp only []; split <;> simp [Dev.setZ, doing_zs]
    split
    · refine keepLen _ ?_; unfold Dev.finish; simp only []; split <;> simp [Dev.setZ, doing_zs]
    split
    · refine keepLen _ ?_; unfold Dev.flush; simp only []; split <;> simp [Dev.settle, doing_zs]
    split
    · exact hm5
    split
    · refine keepLen _ ?_; simp [Dev.crash]
    · exact hm5
  refine ⟨fun (s : Int × Int) h' => ∃ w : Nat, s.1 = (psum E w : Int) ∧ s.2 = w ∧ w ≤ q ∧ New h9 h', fun (s : Int × Int) _ => ((q : Int) - s.2).toNat, ⟨0, rfl, rfl, Nat.zero_le _, New.refl _⟩, ?_⟩
  rintro ⟨u1, u2⟩ j3 h10 ⟨w, hu1, hu2, hw, n10⟩
  simp only [] at hu1 hu2 ⊢
  subst hu1; subst hu2
  refine br_of (fun hq3 => ?_) (fun hq3 => ?_)
  · have hq3 : w < q := by have := of_decide_eq_true hq3; omega
    refine call_of (ZnsP.point_ok (w : Int) h10 (rp9.new n10)) ?_
    rintro v h11 ⟨rfl, n11⟩
    have hp := psum_le oE w
    have hp1 := (oE.at_ (w : Int)).most
    have hp2 := oE.pages
    refine ⟨(E.point (w : Int) : Int), rfl, ?_⟩
    have hpt : E.point (w : Int) ≤ 16 := by unfold Dev.point; omega
    rw [wr64 (by omega) (by omega), wr64 (by omega) (by omega)]
    exact ⟨⟨w + 1, by simp only [psum]; omega, (by first | omega | (dsimp only; omega) | (simp only []; omega)), hq3, n10.trans n11⟩, (by first | omega | (dsimp only; omega) | (simp only []; omega))⟩
  have hwq : w = q := by have := of_decide_eq_false hq3; omega
  subst hwq
  have go : (∃ (n'' i' : Nat) (D : Dev) (t : Tags), (n' : Int) = n'' ∧ ((i + 1 : Nat) : Int) = i' ∧ n'' ≤ i' ∧ i' ≤ l.length ∧ DevOk D ∧ D.zs.length = w ∧ FInv D n'' f ∧ Bs h t h10 ∧ PRep 1 t h10 bp D) ∧ ((l.length : Int) - ((i + 1 : Nat) : Int)).toNat < ((l.length : Int) - (i : Int)).toNat :=
    ⟨⟨n', i + 1, E, t8, rfl, rfl, hn'le, hlt, oE, hmE, J1, bs9.newer n10, rp9.new n10⟩, by omega⟩
  rw [wi]
  refine ld_of (c := .int .i64) e (ce n10) (br_of (fun h0 => ?_) fun _ => go)
  have h0 : e ≠ 0 := by simpa using h0
  exact br_f (by rw [psum_zs (J4 h0)]; simp) go
end Go.Proofs.YtgohecjnjadnpaaDoor.L7F
