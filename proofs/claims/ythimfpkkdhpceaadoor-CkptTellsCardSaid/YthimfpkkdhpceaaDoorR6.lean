/-
  The reference of ckpt: its contracts.
-/
import Derived.Test.YthimfpkkdhpceaaDoorL6B
namespace Go.Proofs.YthimfpkkdhpceaaDoor.Ck
open Go.Pl Go.Proofs.YthimfpkkdhpceaaDoor.W Go.Proofs.YthimfpkkdhpceaaDoor.Byts Go.Proofs.YthimfpkkdhpceaaDoor.Four Go.Proofs.YthimfpkkdhpceaaDoor.Adl Go.Proofs.YthimfpkkdhpceaaDoor.Head Go.Proofs.YthimfpkkdhpceaaDoor.Geo Go.Proofs.YthimfpkkdhpceaaDoor.Rng Go.Proofs.YthimfpkkdhpceaaDoor.As
theorem rof_ok (a : Option Addr) (c : Nat) (xs : List Int) (n : Nat) (hx : n = xs.length) (h : Heap) (hl : xs.length ≤ 100000) (hb : Byt xs) (r : Ar .u8 h a xs) :
    CallsH Tryd.prog 49 [.slice a n c] h fun v h' => v = .int .u32 (sumL xs) ∧ h' = h := by
  subst hx
  refine fun_ok Geo.hm' Tryd.func49 (by kernel_rfl) (F49_eq _ _ _ _ h) ?_
  unfold F49
  refine ⟨fun (q : Int × Int × Int) h' => h' = h ∧ ∃ i : Nat, q.2.2 = i ∧ i ≤ xs.length ∧ (q.1, q.2.1) = adl (1, 0) (xs.take i), fun (q : Int × Int × Int) _ => ((xs.length : Int) - q.2.2).toNat, ⟨rfl, 0, rfl, by omega, rfl⟩, ?_⟩
  rintro (⟨lo, hi, q⟩ : Int × Int × Int) j h' ⟨hh, i, hq, hi', ha⟩
  simp only [] at hq ha ⊢
  subst h'; subst hq
  have hin := adl_in (xs.take i) _ in10
  rw [← ha] at hin
  obtain ⟨⟨i1, i2⟩, i3, i4⟩ := hin
  simp only [] at i1 i2 i3 i4
  refine br_of (fun hlt => ?_) (fun hlt => ?_)
  · have hlt : i < xs.length := by simp at hlt; omega
    have hx := hb xs[i] (List.getElem_mem hlt)
    refine ix_ld r hlt hlt ?_
    rw [wr64 (n := xs[i]) (by omega) (by omega), wr64 (n := (lo : Int) + xs[i]) (by omega) (by omega), Int.tmod_eq_emod_of_nonneg (by omega), wr64 (n := (hi : Int) + _) (by omega) (by omega), Int.tmod_eq_emod_of_nonneg (by omega), wr64 (by omega) (by omega)]
    refine ⟨⟨rfl, i + 1, rfl, hlt, ?_⟩, (by first | omega | (dsimp only; omega) | (simp only []; omega))⟩
    rw [List.take_add_one, List.getElem?_eq_getElem hlt, adl_app, ← ha]; rfl
  · have he : i = xs.length := by simp at hlt; omega
    subst he
    rw [List.take_length] at ha
    refine ⟨?_, rfl⟩
    rw [wr64 (n := (hi : Int) * 65536) (by omega) (by omega), wr64 (by omega) (by omega), wru32, Int.emod_eq_of_lt (by omega) (by omega)]
    unfold sumL; rw [← ha]; rfl
theorem rmany_ok (b : Int) (h : Heap) (hb : 1 ≤ b ∧ b ≤ 64) : CallsH Tryd.prog 17 [.int .i64 b] h fun v h' => v = .int .i64 (manyN b : Int) ∧ h' = h := by
  refine fun_ok Geo.hm' Tryd.func17 (by kernel_rfl) (F17_eq _ _ h) ?_
  unfold F17
  refine call_of (R2.tab_ok b h (by omega) (by omega)) ?_
  rintro v h' ⟨rfl, hh⟩; subst h'
  refine ⟨((b + 3) / 4 : Int), rfl, ?_, rfl⟩
  rw [wr64 (n := (7 : Int) + (b + 3) / 4) (by omega) (by omega), wr64 (n := 4 * ((7 : Int) + (b + 3) / 4)) (by omega) (by omega), wr64 (n := 4 * ((7 : Int) + (b + 3) / 4) + 15) (by omega) (by omega), Int.tdiv_eq_ediv_of_nonneg (by omega), wr64 (by omega) (by omega)]
  unfold manyN lenN tabN
  congr 1; omega
theorem rfour_ok (n : Int) (hn : U32 n) (h : Heap) : CallsH Tryd.prog 48 [.int .u32 n] h fun v h' => ∃ a, v = .slice a 4 4 ∧ Ar .u8 h' a (four n) ∧ New h h' := by
  obtain ⟨hn0, hn1⟩ := hn
  refine fun_ok Geo.hm' Tryd.func48 (by kernel_rfl) (F48_eq _ _ h) ?_
  unfold F48
  have tm : Int.tmod n 256 = n % 256 := Int.tmod_eq_emod_of_nonneg hn0
  have td : ∀ k, Int.tdiv n k = n / k := fun k => Int.tdiv_eq_ediv_of_nonneg hn0
  have e0 : IntKind.wrap .u8 (Int.tmod n 256) = n % 256 := by rw [wru8, tm]; omega
  have e1 : IntKind.wrap .u8 (Int.tmod (IntKind.wrap .u32 (Int.tdiv n 256)) 256) = n / 256 % 256 := by rw [wru8, wru32, td, Int.tmod_eq_emod_of_nonneg (by omega)]; omega
  have e2 : IntKind.wrap .u8 (Int.tmod (IntKind.wrap .u32 (Int.tdiv n 65536)) 256) = n / 65536 % 256 := by rw [wru8, wru32, td, Int.tmod_eq_emod_of_nonneg (by omega)]; omega
  have e3 : IntKind.wrap .u8 (IntKind.wrap .u32 (Int.tdiv n 16777216)) = n / 16777216 % 256 := by rw [wru8, wru32, td]; omega
  rw [e0, e1, e2, e3]
  exact new_of fun h1 b1 n1 s1 => ⟨_, rfl, Ar.blk (xs := four n) b1, n1⟩
theorem rback_ok (a : Option Addr) (c : Nat) (xs : List Int) (at_ : Nat) (h : Heap) (s : Sl8 h a c xs) (hl : 4 * at_ + 4 ≤ xs.length) (hx : xs.length ≤ 100000) :
    CallsH Tryd.prog 58 [.slice a xs.length c, .int .i64 (at_ : Int)] h fun v h' => v = .int .u32 (wordAt xs (4 * at_)) ∧ h' = h := by
  refine fun_ok Geo.hm' Tryd.func58 (by kernel_rfl) (F58_eq _ _ _ _ _ h) ?_
  unfold F58
  have e0 : IntKind.wrap .i64 ((4 : Int) * (at_ : Int)) = ((4 * at_ : Nat) : Int) := by rw [wr64 (by omega) (by omega)]; omega
  rw [e0]
  have e1 : ∀ k : Nat, k ≤ 3 → IntKind.wrap .i64 (((4 * at_ : Nat) : Int) + (k : Int)) = ((4 * at_ + k : Nat) : Int) := fun k hk => by rw [wr64 (by omega) (by omega)]; omega
  have f1 : IntKind.wrap .i64 (((4 * at_ : Nat) : Int) + 1) = ((4 * at_ + 1 : Nat) : Int) := e1 1 (by omega)
  have f2 : IntKind.wrap .i64 (((4 * at_ : Nat) : Int) + 2) = ((4 * at_ + 2 : Nat) : Int) := e1 2 (by omega)
  have f3 : IntKind.wrap .i64 (((4 * at_ : Nat) : Int) + 3) = ((4 * at_ + 3 : Nat) : Int) := e1 3 (by omega)
  rw [f1, f2, f3]
  have q0 := s.byt.get (4 * at_); have q1 := s.byt.get (4 * at_ + 1); have q2 := s.byt.get (4 * at_ + 2); have q3 := s.byt.get (4 * at_ + 3)
  refine s.at_ (4 * at_) rfl (by omega) (by omega) (s.at_ (4 * at_ + 1) rfl (by omega) (by omega) (s.at_ (4 * at_ + 2) rfl (by omega) (by omega) (s.at_ (4 * at_ + 3) rfl (by omega) (by omega) ⟨?_, rfl⟩)))
  simp only [wru32, wordAt, back4]
  congr 1; omega
theorem rback_q (a : Option Addr) (c : Nat) (xs : List Int) (at_ : Nat) (h : Heap) (s : Sl8 h a c xs) (hl : 4 * at_ + 4 ≤ xs.length) (hx : xs.length ≤ 100000) {F : Int → Prop} (hF : F (wordAt xs (4 * at_))) : callQ Tryd.prog 58 [.slice a xs.length c, .int .i64 (at_ : Int)] [.sc (.int .u32)] F h :=
  ⟨wordAt xs (4 * at_), fun h' e => rback_ok a c xs at_ h' (s.new e.new) hl hx, hF⟩
theorem own_ne {h : Heap} {base base' n c m d : Nat} {e e' : TypeId} {a b : Option Addr} {xs ys : List Value} (o : OwnH h base e 1 a n c xs) (p : OwnH h base' e' 1 b m d ys) (hne : e ≠ e') : ∀ g, blkOf a = some g → blkOf b ≠ some g := by
  intro g ha hb
  rcases o.2 with ⟨e1, _⟩ | ⟨g1, _, cur1, e1, _, hg1, _⟩
  · injection e1 with e1; rw [e1] at ha; cases ha
  rcases p.2 with ⟨e2, _⟩ | ⟨g2, _, cur2, e2, _, hg2, _⟩
  · injection e2 with e2; rw [e2] at hb; cases hb
  injection e1 with e1; injection e2 with e2
  subst e1; subst e2
  injection ha with ha; injection hb with hb
  change g1 = g at ha; change g2 = g at hb
  subst ha; subst hb
  have h3 : h[g2]? = some (.cells cur1 e) := hg1
  have h4 : h[g2]? = some (.cells cur2 e') := hg2
  rw [h3] at h4
  injection h4 with h4; injection h4 with _ h4; exact hne h4
theorem own_upd {h h' : Heap} {base n c : Nat} {e : TypeId} {a : Option Addr} {r : Option Nat} {xs : List Value} (o : OwnH h base e 1 a n c xs) (u : UpdO r h h') (hn : ∀ g, blkOf a = some g → r ≠ some g) : OwnH h' base e 1 a n c xs := o.keep fun g _ _ hb hg => u.same g hb.lt fun e => hn g hg e.symm
/-- Rows of bytes in an own row: all new since a base. -/
def Outs (h : Heap) (base : Nat) (a : Option Addr) (c : Nat) (l : List (List Int)) : Prop :=
  ∃ vs : List Value, OwnH h base 55 1 a l.length c vs ∧ ∀ (j : Nat) (bs : List Int), l[j]? = some bs → Byt bs ∧ ∃ a' c', vs[j]? = some (.slice a' bs.length c') ∧ OwnH h base 5 1 a' bs.length c' (bs.map (Value.int .u8))
theorem Outs.rb {h : Heap} {base : Nat} {a : Option Addr} {c : Nat} {l : List (List Int)} (r : Outs h base a c l) : RB h a l := fun i bs hi => by
  obtain ⟨vs, o, hr⟩ := r
  obtain ⟨hB, a', c', e, ow⟩ := hr i bs hi
  obtain ⟨g, e1, _, hc⟩ := o.cell e
  exact ⟨g, 0, a', c', e1, (o.blk_ge g (by rw [e1]; rfl)).2, by rw [Nat.zero_add]; exact hc, own_sl ow hB⟩
theorem Outs.new {h h' : Heap} {base : Nat} {a : Option Addr} {c : Nat} {l : List (List Int)} (r : Outs h base a c l) (n : New h h') : Outs h' base a c l := by
  obtain ⟨vs, o, hr⟩ := r
  exact ⟨vs, o.grow n, fun j bs hj => by
    obtain ⟨hB, a', c', e, ow⟩ := hr j bs hj
    exact ⟨hB, a', c', e, ow.grow n⟩⟩
theorem Outs.push {h : Heap} {base : Nat} {a : Option Addr} {c : Nat} {l : List (List Int)} (r : Outs h base a c l) {bs : List Int} {a1 : Option Addr} {c1 : Nat} (hB : Byt bs) (ow : OwnH h base 5 1 a1 bs.length c1 (bs.map (Value.int .u8))) (hl : l.length ≤ 1000) (hb : base ≤ h.size)
    {F : Option Addr → Nat → Nat → Heap → Prop} (hF : ∀ a' c' h', Outs h' base a' c' (l ++ [bs]) → UpdO (blkOf a) h h' → (∀ g, blkOf a = some g → base ≤ g) → F a' (l.length + 1) c' h') {p : Addr} (hp : cellH h p = some (.slice a1 bs.length c1)) (hpp : p.add 0 = p) :
    apW Tryd.prog #[28, 28] #[.slice a l.length c, .slice (some p) 1 1] F h := by
  obtain ⟨vs, o, hr⟩ := r
  have hvl : vs.length = l.length := by have := o.1; omega
  refine ap_own ap88 (by decide) o [.slice a1 bs.length c1] rfl (fun q u hu => ?_) (fun u hu => by rw [List.mem_singleton.1 hu]; rfl) (by simp only [maxLen]; omega) (by omega) hb fun a' c' h' o' u' => hF a' c' h' ⟨vs ++ [.slice a1 bs.length c1], by rw [List.length_append]; exact o', fun j ys hj => ?_⟩ u' fun g hg => (o.blk_ge g hg).1
  · have hq' : q = 0 := by have := (List.getElem?_eq_some_iff.1 hu).1; simp at this; omega
    subst hq'
    rw [hpp, hp]; exact hu
  · by_cases hjl : j < l.length
    · rw [List.getElem?_append_left hjl] at hj
      obtain ⟨hB2, a2, c2, e2, ow2⟩ := hr j ys hj
      exact ⟨hB2, a2, c2, by rw [List.getElem?_append_left (by omega)]; exact e2, own_upd ow2 u' fun g hg e => own_ne o ow2 (by decide) g e hg⟩
    · rw [List.getElem?_append_right (by omega)] at hj
      have : j - l.length = 0 := by have := (List.getElem?_eq_some_iff.1 hj).1; simp at this; omega
      rw [this] at hj
      injection hj with hj; subst hj
      have : j = l.length := by omega
      subst this
      exact ⟨hB, a1, c1, by rw [← hvl]; simp, own_upd ow u' fun g hg e => own_ne o ow (by decide) g e hg⟩
theorem full_code (c : Chk) : 0 < (fullC c).length := by rw [full_len]; omega
theorem rblocks_ok (c : Chk) (o : ChkOk c) (da : Option Addr) (dc : Nat) (h : Heap) (hd : Ar .u32 h da c.dir) :
    CallsH Tryd.prog 12 [chkV c da dc] h fun v h' => ∃ la lc, v = .tuple #[.slice la (blocksC c).1.length lc, .int .i64 (blocksC c).2] ∧ RB h' la (blocksC c).1 ∧ New h h' := by
  refine fun_ok Geo.hm' Tryd.func12 (by kernel_rfl) (F12_eq _ _ _ _ _ _ _ _ _ _ h) ?_
  unfold F12
  refine new_of fun h1 b1 n1 s1 => ldChk b1 (call_of (rright6_ok c da dc h1) ?_)
  have b1 : Blk h1 h.size (chkA c da dc) 40 := b1
  rintro v h2 ⟨rfl, n2⟩
  have n02 := n1.trans n2
  refine ⟨rightC c, rfl, br_of (fun hr => ?_) fun hr => ?_⟩
  · have hr : rightC c = false := by simpa using hr
    have e : blocksC c = ([], 1) := by unfold blocksC; rw [if_pos hr]
    rw [e]
    exact ⟨none, 0, rfl, RB.nil _ _, n02⟩
  have hr : rightC c = true := by simpa using hr
  obtain ⟨_, hz, hp, hb, hdl⟩ := right_c hr
  have ht : tabN c.b ≤ 16 ∧ 1 ≤ tabN c.b := by unfold tabN; omega
  have hm : manyN c.b ≤ 100 := by unfold manyN lenN; omega
  have hnl : (numsC c).length = 6 + tabN c.b := by unfold numsC; simp; omega
  have hfl : (fullC c).length = 28 + 4 * tabN c.b := by rw [full_len, hdl]
  have hmf : manyN c.b * 16 < (fullC c).length + 16 ∧ (fullC c).length ≤ manyN c.b * 16 := by rw [hfl]; unfold manyN lenN; omega
  have eb : blocksC c = (chunks (manyN c.b) (bytesC c), 0) := by unfold blocksC; rw [if_neg (by rw [hr]; simp)]
  have hlen := bytes_len hr
  have b2 := b1.new n2
  refine ld_of (c := .int .u32) c.num (by rw [add_mk, cellH_blk b2]; rfl) (ld_of (c := .int .u32) c.ses (by rw [add_mk, cellH_blk b2]; rfl) (ld_of (c := .int .u32) c.seq (by rw [add_mk, cellH_blk b2]; rfl) (ld_of (c := .int .i64) c.z (by rw [add_mk, add_mk, cellH_blk b2]; rfl) (ld_of (c := .int .i64) c.p (by rw [add_mk, add_mk, cellH_blk b2]; rfl) (ld_of (c := .int .i64) c.b (by rw [add_mk, add_mk, cellH_blk b2]; rfl) ?_)))))
  have w : ∀ x : Int, 0 ≤ x ∧ x ≤ 100 → IntKind.wrap .u32 x = x := fun x hx => by rw [wru32]; omega
  rw [w c.z (by omega), w c.p (by omega), w c.b (by omega)]
  refine new_of fun h3 b3 n3 s3 => ld_of (c := .slice) (da, c.dir.length, dc) (by rw [add_mk, cellH_blk (b2.new n3)]; rfl) ?_
  have n03 := n02.trans n3
  have o3 : OwnH h3 h.size 22 1 (some ⟨h2.size, 0, none⟩) 6 6 (([c.num, c.ses, c.seq, c.z, c.p, c.b] : List Int).map (Value.int .u32)) := OwnH.of_blk (base := h.size) b3 n02.size rfl (by simp [maxLen])
  refine ap_ints ap32 o3 (hd.new n03) rfl (fun e => by
    subst e
    cases hx : c.dir with
    | nil => rfl
    | cons y ys =>
      obtain ⟨_, _, e, _⟩ := hd 0 y (by rw [hx]; rfl)
      cases e) (show 6 + c.dir.length ≤ 1000000 by omega) (by decide) n03.size fun a4 c4 h4 o4 u4 => ?_
  have n04 : New h h4 := u4.grow n03 fun g hg => (o3.blk_ge g hg).1
  have ar4 : Ar .u32 h4 a4 (numsC c) := Ar.own o4
  have en : ([c.num, c.ses, c.seq, c.z, c.p, c.b] ++ c.dir).length = (numsC c).length := rfl
  rw [en]
  refine new_of fun h5 b5 n5 s5 => ?_
  have n05 := n04.trans n5
  have o5 : OwnH h5 h4.size 5 1 (some ⟨h4.size, 0, none⟩) 0 0 (([] : List Int).map (Value.int .u8)) := OwnH.of_blk (base := h4.size) b5 (Nat.le_refl _) rfl (Nat.zero_le _)
  refine ⟨fun (s : (Option Addr × Nat × Nat) × Int) h' => ∃ i : Nat, s.2 = i ∧ i ≤ (numsC c).length ∧ s.1.2.1 = (fours ((numsC c).take i)).length ∧ OwnH h' h4.size 5 1 s.1.1 (fours ((numsC c).take i)).length s.1.2.2 ((fours ((numsC c).take i)).map (Value.int .u8)) ∧ New h4 h', fun (s : (Option Addr × Nat × Nat) × Int) _ => (((numsC c).length : Int) - s.2).toNat, ⟨0, rfl, Nat.zero_le _, rfl, o5, n5⟩, ?_⟩
  rintro ⟨⟨oa, on, oc⟩, s⟩ j h6 ⟨i, hs, hi, hon, o6, n6⟩
  have hs : s = (i : Int) := hs
  have hon : on = (fours ((numsC c).take i)).length := hon
  have o6' : OwnH h6 h4.size 5 1 oa (fours ((numsC c).take i)).length oc ((fours ((numsC c).take i)).map (Value.int .u8)) := o6
  subst hs; subst hon
  have hf4 : (fours ((numsC c).take i)).length ≤ 1000 := by rw [fours_len, List.length_take]; omega
  refine br_of (fun hlt => ?_) (fun hlt => ?_)
  · have hlt : (i : Int) < ((numsC c).length : Int) := of_decide_eq_true hlt
    have hiL : i < (numsC c).length := by omega
    have ez : IntKind.wrap .i64 ((i : Int) + 1) = ((i + 1 : Nat) : Int) := (by first | (rw [wr64 (by omega) (by omega)]; omega) | (simp only [IntKind.wrap_i64]; omega))
    refine ix_ld (ar4.new n6) hiL hiL (call_of (rfour_ok (numsC c)[i] (nums_u32 o hr _ (List.getElem_mem hiL)) h6) ?_)
    rintro v h7 ⟨a7, rfl, ar7, n7⟩
    refine ⟨(a7, 4, 4), rfl, ?_⟩
    have hsl : Ar .u8 h7 a7 (four (numsC c)[i]) := ar7
    have e1 : fours ((numsC c).take (i + 1)) = fours ((numsC c).take i) ++ four (numsC c)[i] := by rw [← List.take_append_getElem hiL, fours_app, fours_one]
    refine ap_ints ap8' (o6'.grow n7) ar7 (four_len _).symm (fun e => by
      subst e
      obtain ⟨_, _, e, _⟩ := ar7 0 _ rfl
      cases e) (show (fours ((numsC c).take i)).length + 4 ≤ 1000000 by omega) (by decide) (n6.trans n7).size fun a8 c8 h8 o8 u8 => ?_
    rw [← e1] at o8
    have n8 : New h4 h8 := u8.grow (n6.trans n7) fun g hg => (o6'.blk_ge g hg).1
    simp only [ez, ← e1]
    exact ⟨⟨i + 1, rfl, hiL, rfl, o8, n8⟩, (by first | omega | (dsimp only; omega) | (simp only []; omega))⟩
  have hlt : ¬ (i : Int) < ((numsC c).length : Int) := of_decide_eq_false hlt
  have : i = (numsC c).length := by omega
  subst this
  rw [List.take_length] at o6' hf4 ⊢
  have hBy := fours_byt (numsC c)
  refine call_of (rof_ok oa oc (fours (numsC c)) _ rfl h6 (by omega) hBy (Ar.own o6')) ?_
  rintro v h' ⟨rfl, hh⟩; subst h'
  refine ⟨sumL (fours (numsC c)), rfl, call_of (rfour_ok _ (sumL_range _) h6) ?_⟩
  rintro v h7 ⟨a7, rfl, ar7, n7⟩
  refine ⟨(a7, 4, 4), rfl, ?_⟩
  refine ap_ints ap8' (o6'.grow n7) ar7 (four_len _).symm (fun e => by
    subst e
    obtain ⟨_, _, e, _⟩ := ar7 0 _ rfl
    cases e) (show (fours (numsC c)).length + 4 ≤ 1000000 by omega) (by decide) (n6.trans n7).size fun a8 c8 h8 o8 u8 => ?_
  have n8 : New h4 h8 := u8.grow (n6.trans n7) fun g hg => (o6'.blk_ge g hg).1
  have hfu : fours (numsC c) ++ four (sumL (fours (numsC c))) = fullC c := rfl
  rw [hfu] at o8 ⊢
  have hzl : ∀ k, (fullC c ++ List.replicate k (0 : Int)).length = (fullC c).length + k := fun k => by simp
  refine ⟨fun (s : Option Addr × Nat × Nat) h' => ∃ k : Nat, s.2.1 = (fullC c).length + k ∧ (fullC c).length + k ≤ manyN c.b * 16 ∧ OwnH h' h4.size 5 1 s.1 ((fullC c).length + k) s.2.2 ((fullC c ++ List.replicate k 0).map (Value.int .u8)) ∧ New h4 h', fun (s : Option Addr × Nat × Nat) _ => manyN c.b * 16 - s.2.1, ⟨0, rfl, by omega, by simpa using o8, n8⟩, ?_⟩
  rintro ⟨ka, kn, kc⟩ j h9 ⟨k, hkn, hkm, o9, n9⟩
  have hkn : kn = (fullC c).length + k := hkn
  subst hkn
  have o9 : OwnH h9 h4.size 5 1 ka ((fullC c).length + k) kc ((fullC c ++ List.replicate k 0).map (Value.int .u8)) := o9
  have em : Int.tmod (((fullC c).length + k : Nat) : Int) 16 = ((((fullC c).length + k) % 16 : Nat) : Int) := tmod_nat
  simp only [em]
  refine br_of (fun hne => ?_) fun heq => ?_
  · have hne : ((((fullC c).length + k) % 16 : Nat) : Int) ≠ 0 := by simpa using hne
    have o9' := o9
    refine pushA ap8' o9' (by omega) (by decide) n9.size fun a' c' h10 o10 ab10 => ?_
    have n10 : New h4 h10 := ⟨Nat.le_trans n9.size ab10.size, fun b hb => (ab10.same b hb (by have := n9.size; omega)).trans (n9.same b hb)⟩
    have er : fullC c ++ List.replicate k (0 : Int) ++ [0] = fullC c ++ List.replicate (k + 1) 0 := by rw [List.replicate_succ', List.append_assoc]
    rw [er] at o10
    exact ⟨⟨k + 1, rfl, by omega, o10, n10⟩, (by first | omega | (dsimp only; omega) | (simp only []; omega))⟩
  have heq : ((((fullC c).length + k) % 16 : Nat) : Int) = 0 := by simpa using heq
  have hk : (fullC c).length + k = manyN c.b * 16 := by omega
  have hbc : fullC c ++ List.replicate k (0 : Int) = bytesC c := by unfold bytesC; congr 2; omega
  rw [hbc] at o9
  have hkl : (fullC c).length + k = (bytesC c).length := by rw [← hbc, hzl]
  rw [hkl] at o9 ⊢
  refine new_of fun h10 b10 n10 s10 => ?_
  have hB := bytes_byt c
  have n410 := n9.trans n10
  have hos : Outs h10 h9.size (some ⟨h9.size, 0, none⟩) 0 [] := ⟨[], OwnH.of_blk (base := h9.size) b10 (Nat.le_refl _) rfl (Nat.zero_le _), fun j bs hj => by simp at hj⟩
  have sB := own_sl o9 hB
  have hcap := sB.le
  refine ⟨fun (s : (Option Addr × Nat × Nat) × Int) h' => ∃ i : Nat, s.2 = ((16 * i : Nat) : Int) ∧ i ≤ manyN c.b ∧ s.1.2.1 = i ∧ Outs h' h9.size s.1.1 s.1.2.2 ((chunks (manyN c.b) (bytesC c)).take i) ∧ New h9 h', fun (s : (Option Addr × Nat × Nat) × Int) _ => (((bytesC c).length : Int) - s.2).toNat, ⟨0, rfl, Nat.zero_le _, rfl, hos, n10⟩, ?_⟩
  rintro ⟨⟨la, ln, lc⟩, s⟩ j h11 ⟨i, hs, hi, hln, os, n11⟩
  have hs : s = ((16 * i : Nat) : Int) := hs
  have hln2 : ln = i := hln
  have os2 : Outs h11 h9.size la lc ((chunks (manyN c.b) (bytesC c)).take i) := os
  clear hln os
  subst hs; subst hln2
  have os := os2
  have htl : ((chunks (manyN c.b) (bytesC c)).take ln).length = ln := by rw [List.length_take, chunks_len]; omega
  refine br_of (fun hlt => ?_) (fun hlt => ?_)
  · have hlt : ((16 * ln : Nat) : Int) < ((bytesC c).length : Int) := of_decide_eq_true hlt
    have hiL : ln < manyN c.b := by omega
    have ez : IntKind.wrap .i64 (((16 * ln : Nat) : Int) + 16) = ((16 * (ln + 1) : Nat) : Int) := by rw [wr64 (by omega) (by omega)]; omega
    refine new_of fun h12 b12 n12 s12 => ?_
    rw [ez]
    refine (sB.new (n11.trans n12)).sl (16 * ln) (16 * (ln + 1)) kc rfl rfl rfl (by omega) (by omega) (by omega) (Nat.le_refl _) fun pb pd sp => ?_
    rw [show 16 * (ln + 1) - 16 * ln = 16 by omega] at sp ⊢
    generalize hbs : ((bytesC c).drop (16 * ln)).take 16 = bs at sp
    have hbl : bs.length = 16 := by rw [← hbs, List.length_take, List.length_drop]; omega
    have o12 : OwnH h12 h9.size 5 1 (some ⟨h11.size, 0, none⟩) 0 0 (([] : List Int).map (Value.int .u8)) := OwnH.of_blk (base := h9.size) b12 n11.size rfl (Nat.zero_le _)
    refine ap_ints ap8' o12 sp.ar hbl.symm (fun e => by have := sp.nil e; have := sp.le; omega) (by omega) (by decide) (n11.trans n12).size fun a13 c13 h13 o13 u13 => ?_
    rw [List.nil_append] at o13
    have n13 : New h11 h13 := u13.grow n12 fun g hg => by injection hg with hg; change h11.size = g at hg; omega
    rw [List.nil_append]
    refine new_of fun h14 b14 n14 s14 => ?_
    have n1114 := n13.trans n14
    have os14 := os.new n1114
    have hpush := os14.push sp.byt (o13.grow n14) (by rw [htl]; omega) (by have := n11.size; have := n1114.size; omega) (p := ⟨h13.size, 0, none⟩) (F := fun b n c' h68 => (∃ i : Nat, ((16 * (ln + 1) : Nat) : Int) = ((16 * i : Nat) : Int) ∧ i ≤ manyN c.b ∧ n = i ∧ Outs h68 h9.size b c' ((chunks (manyN c.b) (bytesC c)).take i) ∧ New h9 h68) ∧ (((bytesC c).length : Int) - ((16 * (ln + 1) : Nat) : Int)).toNat < (((bytesC c).length : Int) - ((16 * ln : Nat) : Int)).toNat) (fun a' c' h15 os15 u15 hge => ?_) (by rw [cellH_blk b14]; rfl) (by rw [add_mk])
    · rw [htl] at hpush
      exact hpush
    · have e1 : (chunks (manyN c.b) (bytesC c)).take (ln + 1) = (chunks (manyN c.b) (bytesC c)).take ln ++ [bs] := by
        rw [List.take_add_one, chunks_get hiL, hbs]; rfl
      rw [← e1] at os15
      exact ⟨⟨ln + 1, rfl, hiL, by rw [htl], os15, u15.grow (n11.trans n1114) hge⟩, by omega⟩
  · have hlt : ¬ ((16 * ln : Nat) : Int) < ((bytesC c).length : Int) := of_decide_eq_false hlt
    have : ln = manyN c.b := by omega
    subst this
    have e1 : (chunks (manyN c.b) (bytesC c)).take (manyN c.b) = chunks (manyN c.b) (bytesC c) := List.take_of_length_le (by rw [chunks_len]; omega)
    rw [e1] at os
    rw [eb]
    exact ⟨la, lc, by rw [chunks_len], os.rb, (n04.trans n9).trans n11⟩
end Go.Proofs.YthimfpkkdhpceaaDoor.Ck
