/-
  The reference of ckpt: Read, Numbers, Same.
-/
import Derived.Test.YthimfpkkdhpceaaDoorR6
namespace Go.Proofs.YthimfpkkdhpceaaDoor.Ck
open Go.Pl Go.Proofs.YthimfpkkdhpceaaDoor.W Go.Proofs.YthimfpkkdhpceaaDoor.Byts Go.Proofs.YthimfpkkdhpceaaDoor.Four Go.Proofs.YthimfpkkdhpceaaDoor.Adl Go.Proofs.YthimfpkkdhpceaaDoor.Head Go.Proofs.YthimfpkkdhpceaaDoor.Geo Go.Proofs.YthimfpkkdhpceaaDoor.Rng Go.Proofs.YthimfpkkdhpceaaDoor.As
theorem zeroR6 : zeroC Tryd.prog 40 = chkA ck0 none 0 := by kernel_rfl
theorem zeroG6 : (zeroC Tryd.prog 38).size = 3 := by kernel_rfl
def RReadP (l : List (List Int)) (h : Heap) (v : Value) (h' : Heap) : Prop := ∃ da dc, v = .tuple #[chkV (readC l).1 da dc, .int .i64 (readC l).2] ∧ OwnH h' h.size 22 1 da (readC l).1.dir.length dc ((readC l).1.dir.map (Value.int .u32)) ∧ New h h'
theorem rread_ok (a : Option Addr) (c : Nat) (l : List (List Int)) (h : Heap) (r : RB h a l) (hl : l.length ≤ 1000) :
    CallsH Tryd.prog 15 [.slice a l.length c] h (RReadP l h) := by
  refine fun_ok Geo.hm' Tryd.func15 (by kernel_rfl) (F15_eq _ _ _ _ h) ?_
  unfold F15
  refine new_of fun h1 b1 n1 s1 => ?_
  rw [zeroR6] at b1
  have err : ∀ (hx : Heap) (e : Int), readC l = (ck0, e) → New h1 hx → ∀ h', Only h.size hx h' → RReadP l h (Value.tuple #[chkV ck0 none 0, .int .i64 e]) h' := by
    intro hx e hr n h' o
    unfold RReadP
    rw [hr]
    refine ⟨none, 0, rfl, OwnH.nil _ _ _ _, ⟨?_, fun b hb => ?_⟩⟩
    · rw [o.size]; exact Nat.le_trans n1.size n.size
    · rw [o.same b (by omega), n.same b (by omega), n1.same b hb]
  refine new_of fun h2 b2 n2 s2 => ?_
  have o2 : OwnH h2 h1.size 5 1 (some ⟨h1.size, 0, none⟩) 0 0 (([] : List Int).map (Value.int .u8)) := OwnH.of_blk (base := h1.size) b2 (Nat.le_refl _) rfl (Nat.zero_le _)
  refine ⟨fun (s : (Option Addr × Nat × Nat) × Int) h' => ∃ i : Nat, s.2 = i ∧ i ≤ l.length ∧ s.1.2.1 = (l.take i).flatten.length ∧ (∀ b ∈ l.take i, b.length = 16) ∧ OwnH h' h1.size 5 1 s.1.1 (l.take i).flatten.length s.1.2.2 ((l.take i).flatten.map (Value.int .u8)) ∧ New h1 h', fun (s : (Option Addr × Nat × Nat) × Int) _ => ((l.length : Int) - s.2).toNat, ⟨0, rfl, Nat.zero_le _, rfl, by simp, o2, n2⟩, ?_⟩
  rintro ⟨⟨oa, on, oc⟩, s⟩ j h3 ⟨i, hs, hi, hon, h16, o3, n3⟩
  have hs2 : s = (i : Int) := hs
  have hon2 : on = (l.take i).flatten.length := hon
  have o3' : OwnH h3 h1.size 5 1 oa (l.take i).flatten.length oc ((l.take i).flatten.map (Value.int .u8)) := o3
  clear hs hon o3
  subst hs2; subst hon2
  have n03 := n1.trans n3
  have b3 := b1.new n3
  have hfl := flat_len _ h16
  rw [List.length_take] at hfl
  refine br_of (fun hlt => ?_) (fun hlt => ?_)
  · have hlt : (i : Int) < (l.length : Int) := of_decide_eq_true hlt
    have hiL : i < l.length := by omega
    refine (r.new n03).ld hiL hiL fun a' c' sa => br_of (fun hne => ?_) fun heq => (r.new n03).ld hiL hiL fun a' c' sa => ?_
    · have hne : ¬ l[i].length = 16 := by simp at hne; omega
      exact put_out (K := RReadP l h) (c := ck0) (da := none) (dc := 0) b3 rfl (err h3 3 (readC_3 (.inr (List.any_eq_true.2 ⟨_, List.getElem_mem hiL, decide_eq_true hne⟩))) n3)
    · have heq : l[i].length = 16 := by simp at heq; omega
      have ez : IntKind.wrap .i64 ((i : Int) + 1) = ((i + 1 : Nat) : Int) := (by first | (rw [wr64 (by omega) (by omega)]; omega) | (simp only [IntKind.wrap_i64]; omega))
      have e1 := flat_succ l i hiL
      refine ap_ints ap8' o3' sa.ar rfl (fun e => by have := sa.nil e; have := sa.le; omega) (show (l.take i).flatten.length + l[i].length ≤ 1000000 by omega) (by decide) n3.size fun a4 c4 h4 o4 u4 => ?_
      rw [← e1] at o4
      simp only [ez, ← e1]
      refine ⟨⟨i + 1, rfl, hiL, rfl, fun b hb => ?_, o4, u4.grow n3 fun g hg => (o3'.blk_ge g hg).1⟩, (by first | omega | (dsimp only; omega) | (simp only []; omega))⟩
      rw [← List.take_append_getElem hiL] at hb
      rcases List.mem_append.1 hb with hb | hb
      · exact h16 b hb
      · rw [List.mem_singleton.1 hb]; exact heq
  have hlt : ¬ (i : Int) < (l.length : Int) := of_decide_eq_false hlt
  have : i = l.length := by omega
  subst this
  rw [List.take_length] at h16 o3' ⊢
  refine br_of (fun h2l => ?_) fun h2l => ?_
  · have h2l : (l.length : Int) < 2 := of_decide_eq_true h2l
    exact put_out (K := RReadP l h) (c := ck0) (da := none) (dc := 0) b3 rfl (err h3 3 (readC_3 (.inl (by omega))) n3)
  have h2l : ¬ (l.length : Int) < 2 := of_decide_eq_false h2l
  have hflat := flat_len l h16
  have hByt := flat_byt r.byt
  have hrd : readC l = if rightB (wordAt l.flatten 12) (wordAt l.flatten 16) (wordAt l.flatten 20) = false then (ck0, 2)
      else if l.length ≠ manyN (wordAt l.flatten 20) then (ck0, 3)
      else if sumL (l.flatten.take (lenN (wordAt l.flatten 20))) ≠ wordAt l.flatten (lenN (wordAt l.flatten 20)) then (ck0, 4)
      else if (l.flatten.drop (lenN (wordAt l.flatten 20) + 4)).any (fun x => decide (x ≠ 0)) = true then (ck0, 2)
      else (chkOf l.flatten, 0) := by
    conv => lhs; unfold readC
    rw [if_neg]
    rintro (h | h)
    · omega
    · obtain ⟨b, hb, e⟩ := List.any_eq_true.1 h
      exact (of_decide_eq_true e) (h16 b hb)
  clear hfl
  generalize hBB : l.flatten = B at *
  have s3 := own_sl o3' hByt
  have num : ∀ (i : Nat) (hi : 4 * i + 4 ≤ B.length) (hx : Heap), New h3 hx → CallsH Tryd.prog 58 [.slice oa B.length oc, .int .i64 (i : Int)] hx fun v h' => v = .int .u32 (wordAt B (4 * i)) ∧ h' = hx := fun i hi hx n => rback_ok oa oc B i hx (s3.new n) hi (by omega)
  have numq : ∀ (i : Nat) (hi : 4 * i + 4 ≤ B.length) (hx : Heap), New h3 hx → ∀ F : Int → Prop, F (wordAt B (4 * i)) → callQ Tryd.prog 58 [.slice oa B.length oc, .int .i64 (i : Int)] [.sc (.int .u32)] F hx := fun i hi hx n F hF => rback_q oa oc B i hx (s3.new n) hi (by omega) hF
  refine call_of (num 3 (by omega) h3 (New.refl _)) ?_
  rintro v h' ⟨rfl, hh⟩; subst h'
  refine ⟨wordAt B 12, rfl, call_of (num 4 (by omega) h3 (New.refl _)) ?_⟩
  rintro v h' ⟨rfl, hh⟩; subst h'
  refine ⟨wordAt B 16, rfl, call_of (num 5 (by omega) h3 (New.refl _)) ?_⟩
  rintro v h' ⟨rfl, hh⟩; subst h'
  refine ⟨wordAt B 20, rfl, ?_⟩
  have wr : ∀ i, IntKind.wrap .i64 (wordAt B i) = wordAt B i := fun i => by have := wordAt_range hByt i; exact wr64 (by omega) (by omega)
  rw [wr, wr, wr]
  refine new_stL (by rw [zeroG6]; rfl) fun h4 b4 n4 s4 => ?_
  have b14 := b3.new n4
  have b4 : Blk h4 h3.size #[.int .i64 (wordAt B 12), .int .i64 (wordAt B 16), .int .i64 (wordAt B 20)] 38 := b4
  refine ldAgg_blk (wordAt B 12, wordAt B 16, wordAt B 20) b4 ⟨rfl, rfl, rfl, trivial⟩ (call_of (R2.rright_ok (wordAt B 12) (wordAt B 16) (wordAt B 20) h4) ?_)
  rintro v h5 ⟨rfl, n5⟩
  have n35 := n4.trans n5
  have n15 := n3.trans n35
  have b15 := b14.new n5
  have b5 := b4.new n5
  refine ⟨_, rfl, br_of (fun hr => ?_) fun hr => ?_⟩
  · have hr : rightB (wordAt B 12) (wordAt B 16) (wordAt B 20) = false := by simpa using hr
    exact put_out (K := RReadP l h) (c := ck0) (da := none) (dc := 0) b15 rfl (err h5 2 (by rw [hrd, if_pos hr]) n15)
  have hr : rightB (wordAt B 12) (wordAt B 16) (wordAt B 20) = true := by simpa using hr
  rw [if_neg (by rw [hr]; simp)] at hrd
  obtain ⟨_, _, hb1, hb2⟩ := right_facts hr
  refine ld_of (c := .int .i64) (wordAt B 20) (by rw [add_mk, cellH_blk b5]; rfl) (call_of (rmany_ok (wordAt B 20) h5 ⟨hb1, hb2⟩) ?_)
  rintro v h' ⟨rfl, hh⟩; subst h'
  refine ⟨(manyN (wordAt B 20) : Int), rfl, br_of (fun hm => ?_) fun hm => ?_⟩
  · have hm : l.length ≠ manyN (wordAt B 20) := fun e => by rw [e] at hm; simp at hm
    exact put_out (K := RReadP l h) (c := ck0) (da := none) (dc := 0) b15 rfl (err h5 3 (by rw [hrd, if_pos hm]) n15)
  have hm : l.length = manyN (wordAt B 20) := by simp at hm; omega
  rw [if_neg (fun h => h hm)] at hrd
  have hlN : lenN (wordAt B 20) + 4 ≤ B.length := by rw [hflat, hm]; unfold manyN; omega
  have hlt4 : lenN (wordAt B 20) = 4 * (6 + tabN (wordAt B 20)) := by unfold lenN; omega
  refine ld_of (c := .int .i64) (wordAt B 20) (by rw [add_mk, cellH_blk b5]; rfl) (call_of (R2.tab_ok (wordAt B 20) h5 (by omega) (by omega)) ?_)
  rintro v h' ⟨rfl, hh⟩; subst h'
  refine ⟨((wordAt B 20 + 3) / 4 : Int), rfl, ?_⟩
  have etab : ((wordAt B 20 + 3) / 4 : Int) = (tabN (wordAt B 20) : Int) := by unfold tabN; omega
  rw [etab]
  have ht : tabN (wordAt B 20) ≤ 16 := by unfold tabN; omega
  have e4 : IntKind.wrap .i64 ((4 : Int) * (tabN (wordAt B 20) : Int)) = 4 * (tabN (wordAt B 20) : Int) := wr64 (by omega) (by omega)
  have e5 : IntKind.wrap .i64 ((24 : Int) + 4 * (tabN (wordAt B 20) : Int)) = (lenN (wordAt B 20) : Int) := by rw [wr64 (by omega) (by omega), hlt4]; omega
  have e6 : IntKind.wrap .i64 ((6 : Int) + (tabN (wordAt B 20) : Int)) = ((6 + tabN (wordAt B 20) : Nat) : Int) := by rw [wr64 (by omega) (by omega)]; omega
  have e7 : IntKind.wrap .i64 ((28 : Int) + 4 * (tabN (wordAt B 20) : Int)) = ((lenN (wordAt B 20) + 4 : Nat) : Int) := by rw [wr64 (by omega) (by omega), hlt4]; omega
  rw [e4, e5, e6, e7]
  have s5 := s3.new n35
  have hc2 := s5.le
  refine s5.sl 0 (lenN (wordAt B 20)) oc rfl rfl rfl (by omega) (by omega) (by omega) (Nat.le_refl _) fun bb d sb => ?_
  rw [List.drop_zero, Nat.sub_zero] at sb
  have hsl : (B.take (lenN (wordAt B 20))).length = lenN (wordAt B 20) := by rw [List.length_take]; omega
  refine call_of (rof_ok bb d (B.take (lenN (wordAt B 20))) _ (by rw [hsl]; rfl) h5 (by omega) sb.byt sb.ar) ?_
  rintro v h' ⟨rfl, hh⟩; subst h'
  refine ⟨_, rfl, ?_⟩
  refine call_of (num (6 + tabN (wordAt B 20)) (by omega) h5 n35) ?_
  rintro v h' ⟨rfl, hh⟩; subst h'
  rw [← hlt4]
  refine ⟨_, rfl, ?_⟩
  refine br_of (fun hs => ?_) fun hs => ?_
  · have hs : sumL (B.take (lenN (wordAt B 20))) ≠ wordAt B (lenN (wordAt B 20)) := by simpa using hs
    exact put_out (K := RReadP l h) (c := ck0) (da := none) (dc := 0) b15 rfl (err h5 4 (by rw [hrd, if_pos hs]) n15)
  have hs : sumL (B.take (lenN (wordAt B 20))) = wordAt B (lenN (wordAt B 20)) := by simpa using hs
  rw [if_neg (fun h => h hs)] at hrd
  refine ⟨fun (s : Int) h' => h' = h5 ∧ ∃ i : Nat, s = ((lenN (wordAt B 20) + 4 + i : Nat) : Int) ∧ lenN (wordAt B 20) + 4 + i ≤ B.length ∧ ∀ x ∈ (B.drop (lenN (wordAt B 20) + 4)).take i, x = 0, fun (s : Int) _ => ((B.length : Int) - s).toNat, ⟨rfl, 0, rfl, hlN, by simp⟩, ?_⟩
  rintro s j h' ⟨hh, i, rfl, hi, hno⟩; subst h'
  refine br_of (fun hlt2 => ?_) (fun hlt2 => ?_)
  · have hlt2 : ((lenN (wordAt B 20) + 4 + i : Nat) : Int) < (B.length : Int) := of_decide_eq_true hlt2
    have hiL : lenN (wordAt B 20) + 4 + i < B.length := by omega
    have hid : (B.drop (lenN (wordAt B 20) + 4))[i]? = some B[lenN (wordAt B 20) + 4 + i] := by rw [List.getElem?_drop, List.getElem?_eq_getElem hiL]
    have ez : IntKind.wrap .i64 (((lenN (wordAt B 20) + 4 + i : Nat) : Int) + 1) = ((lenN (wordAt B 20) + 4 + (i + 1) : Nat) : Int) := by rw [wr64 (by omega) (by omega)]; omega
    refine ix_ld s5.ar hiL hiL (br_of (fun hne => ?_) fun heq => ?_)
    · have hne : B[lenN (wordAt B 20) + 4 + i] ≠ 0 := by simpa using hne
      exact put_out (K := RReadP l h) (c := ck0) (da := none) (dc := 0) b15 rfl (err h5 2 (by rw [hrd, if_pos (List.any_eq_true.2 ⟨_, List.mem_of_getElem? hid, decide_eq_true hne⟩)]) n15)
    · have heq : B[lenN (wordAt B 20) + 4 + i] = 0 := by simpa using heq
      rw [ez]
      refine ⟨⟨rfl, i + 1, rfl, by omega, fun x hx => ?_⟩, (by first | omega | (dsimp only; omega) | (simp only []; omega))⟩
      rw [List.take_add_one, hid] at hx
      rcases List.mem_append.1 hx with hx | hx
      · exact hno x hx
      · rw [List.mem_singleton.1 hx]; exact heq
  have hlt2 : ¬ ((lenN (wordAt B 20) + 4 + i : Nat) : Int) < (B.length : Int) := of_decide_eq_false hlt2
  rw [List.take_of_length_le (by rw [List.length_drop]; omega)] at hno
  have hz : (B.drop (lenN (wordAt B 20) + 4)).any (fun x => decide (x ≠ 0)) = false := List.any_eq_false.2 fun x hx => by simp [hno x hx]
  rw [if_neg (by rw [hz]; simp)] at hrd
  refine numq 0 (by omega) h5 n35 _ ?_
  refine numq 1 (by omega) h5 n35 _ ?_
  refine numq 2 (by omega) h5 n35 _ ?_
  refine ldAgg_blk (wordAt B 12, wordAt B 16, wordAt B 20) b5 ⟨rfl, rfl, rfl, trivial⟩ (new_stL (by rw [zeroR6]; rfl) fun h6 b6 n6 s6 => ?_)
  have b6 : Blk h6 h5.size (chkA (chkI B 0) none 0) 40 := b6
  have b16 := b15.new n6
  have n36 := n35.trans n6
  have hs36 := n36.size
  have hs13 := n3.size
  have hs35 := n35.size
  refine ⟨fun (s : Int) h' => ∃ i : Nat, s = i ∧ i ≤ tabN (wordAt B 20) ∧ Upd h5.size h6 h' ∧ ∃ da dc, Blk h' h5.size (chkA (chkI B i) da dc) 40 ∧ OwnH h' h6.size 22 1 da i dc ((chkI B i).dir.map (Value.int .u32)), fun (s : Int) _ => ((tabN (wordAt B 20) : Int) - s).toNat, ⟨0, rfl, Nat.zero_le _, Upd.refl _ _, none, 0, b6, OwnH.nil _ _ _ _⟩, ?_⟩
  rintro s j h7 ⟨i, rfl, hi, u7, da, dc, b7, o7⟩
  have N7 : New h3 h7 := ⟨Nat.le_trans hs36 u7.size, fun b hb => (u7.same b (by omega) (by omega)).trans (n36.same b hb)⟩
  refine br_of (fun hlt2 => ?_) (fun hlt2 => ?_)
  · have hlt2 : (i : Int) < (tabN (wordAt B 20) : Int) := of_decide_eq_true hlt2
    have e6 : IntKind.wrap .i64 (6 + (i : Int)) = ((6 + i : Nat) : Int) := by rw [wr64 (by omega) (by omega)]; omega
    have ez : IntKind.wrap .i64 ((i : Int) + 1) = ((i + 1 : Nat) : Int) := (by first | (rw [wr64 (by omega) (by omega)]; omega) | (simp only [IntKind.wrap_i64]; omega))
    rw [e6, ez]
    refine ld_of (c := .slice) (da, i, dc) (by rw [add_mk, cellH_blk b7]; exact cell6 B i da dc) ?_
    refine numq (6 + i) (by omega) h7 N7 _ ?_
    refine pushA ap32 o7 (by omega) (by decide) u7.size fun a' c' h8 o8 ab8 => ?_
    have b8 := b7.abo ab8 (by omega)
    rw [add_mk]
    refine st_blk b8 (by show 6 < 7; omega) fun h9 b9 on9 => ?_
    have ea : (chkA (chkI B i) da dc).setIfInBounds (0 + 6) (.slice a' (i + 1) c') = chkA (chkI B (i + 1)) a' c' := by
      unfold chkA
      rw [chkI_len B (i + 1)]
      rfl
    rw [ea] at b9
    have u9 : Upd h5.size h6 h9 := ⟨by rw [on9.size]; have := ab8.size; have := u7.size; omega, fun b hb hne => by rw [on9.same b hne, ab8.same b hb (by have := u7.size; omega), u7.same b hb hne]⟩
    refine ⟨⟨i + 1, rfl, by omega, u9, a', c', b9, ?_⟩, (by first | omega | (dsimp only; omega) | (simp only []; omega))⟩
    rw [chkI_dir]
    exact o8.keep fun g _ hg _ _ => on9.same g (by omega)
  · have hlt2 : ¬ (i : Int) < (tabN (wordAt B 20) : Int) := of_decide_eq_false hlt2
    have : i = tabN (wordAt B 20) := by omega
    subst this
    have b17 : Blk h7 h.size (chkA ck0 none 0) 40 := (u7.same h.size (by omega) (by omega)).trans b16
    refine ldChk b7 (put_out (K := RReadP l h) (c := chkI B (tabN (wordAt B 20))) (da := da) (dc := dc) b17 rfl fun h8 on8 => ?_)
    unfold RReadP
    rw [hrd]
    refine ⟨da, dc, rfl, ?_, ⟨?_, fun b hb => ?_⟩⟩
    · show OwnH h8 h.size 22 1 da (chkI B (tabN (wordAt B 20))).dir.length dc ((chkI B (tabN (wordAt B 20))).dir.map (Value.int .u32))
      rw [chkI_len]
      exact OwnH.low (base := h6.size) (o7.keep fun g _ hg _ _ => on8.same g (by omega)) (by omega)
    · rw [on8.size]; have := u7.size; omega
    · rw [on8.same b (by omega), N7.same b (by omega), n3.same b (by omega), n1.same b hb]
theorem rnumbers_ok (a b : Option Addr) (ca cb : Nat) (xs ys : List Int) (h : Heap) (hx : xs.length ≤ 1000000) (ra : Ar .u32 h a xs) (rb : Ar .u32 h b ys) :
    CallsH Tryd.prog 35 [.slice a xs.length ca, .slice b ys.length cb] h fun v h' => v = .bool (decide (xs = ys)) ∧ h' = h := by
  refine fun_ok Geo.hm' Tryd.func35 (by kernel_rfl) (F35_eq _ _ _ _ _ _ _ h) ?_
  unfold F35
  refine br_of (fun hne => ?_) (fun heq => ?_)
  · have : xs ≠ ys := fun e => by subst e; simp at hne
    exact ⟨by simp [this], rfl⟩
  have hl : xs.length = ys.length := by simp at heq; omega
  refine ⟨fun (s : Int) h' => h' = h ∧ ∃ i : Nat, s = i ∧ i ≤ xs.length ∧ xs.take i = ys.take i, fun (s : Int) _ => (xs.length - s).toNat, ⟨rfl, 0, rfl, by omega, rfl⟩, ?_⟩
  rintro s j h' ⟨hh, i, rfl, hi, hpre⟩
  subst h'
  refine br_of (fun hlt => ?_) (fun hlt => ?_)
  · have hlt : i < xs.length := by simp at hlt; omega
    refine ix_ld ra hlt hlt (ix_ld rb (by omega) (by omega) (br_of (fun hd => ?_) (fun hd => ?_)))
    · have hd : xs[i] ≠ ys[i] := by simpa using hd
      have : xs ≠ ys := fun e => by subst e; exact hd rfl
      exact ⟨by simp [this], by trivial⟩
    · have hd : xs[i] = ys[i] := by simpa using hd
      rw [wr64 (by omega) (by omega)]
      refine ⟨⟨by trivial, i + 1, by omega, by omega, ?_⟩, by dsimp only; omega⟩
      rw [List.take_add_one, List.take_add_one, hpre, List.getElem?_eq_getElem hlt, List.getElem?_eq_getElem (show i < ys.length by omega), hd]
  · have hlt : ¬ (i : Int) < (xs.length : Int) := of_decide_eq_false hlt
    have : i = xs.length := by omega
    subst this
    rw [List.take_length, List.take_of_length_le (by omega)] at hpre
    exact ⟨by simp [hpre], rfl⟩
theorem geo_eq6 (z p b z' p' b' : Int) : ∀ w, (Op.equal 38 (.agg #[.int .i64 z, .int .i64 p, .int .i64 b]) (.agg #[.int .i64 z', .int .i64 p', .int .i64 b'])).run Tryd.prog w = .ok (z == z' && (p == p' && b == b')) w := by
  intro w
  have hS : Tryd.prog.underlying 38 = some (.struct (Tryd.prog.fieldsOf 38)) := by kernel_rfl
  have hp : Tryd.prog.stoodInHeld 38 = false := by kernel_rfl
  have u3 := Tryd.underlying3
  have a3 := Tryd.isAgg3
  have z3 := Tryd.sizeOf3
  show ((Op.equalIn (9999 + 1) 38 _ _).run _ _) = _
  rw [run_equalIn_agg w 9999 38 _ _ hS hp]
  simp only [Program.fieldsOf, Tryd.underlying38]
  go_simp
  by_cases h1 : z = z' <;> by_cases h2 : p = p' <;> by_cases h3 : b = b' <;> simp [h1, h2, h3]
theorem rsame_ok (c d : Chk) (ca da : Option Addr) (cc dc : Nat) (h : Heap) (rc : Ar .u32 h ca c.dir) (rd : Ar .u32 h da d.dir) (hl : c.dir.length ≤ 1000) :
    CallsH Tryd.prog 20 [chkV c ca cc, chkV d da dc] h fun v h' => v = .bool (sameC c d) ∧ New h h' := by
  refine fun_ok Geo.hm' Tryd.func20 (by kernel_rfl) (F20_eq _ _ _ _ _ _ _ _ _ _ _ _ _ _ _ _ _ _ _ h) ?_
  unfold F20
  refine new_of fun h1 b1 n1 s1 => new_of fun h2 b2 n2 s2 => ?_
  have b1 := b1.new n2
  have n02 := n1.trans n2
  refine ld_of (c := .int .u32) c.num (by rw [add_mk, cellH_blk b1]; rfl) (ld_of (c := .int .u32) d.num (by rw [add_mk, cellH_blk b2]; rfl) (br_of (fun e1 => ?_) fun e1 => ⟨by unfold sameC; rw [e1]; rfl, n02⟩))
  refine ld_of (c := .int .u32) c.ses (by rw [add_mk, cellH_blk b1]; rfl) (ld_of (c := .int .u32) d.ses (by rw [add_mk, cellH_blk b2]; rfl) (br_of (fun e2 => ?_) fun e2 => ⟨by unfold sameC; rw [e1, e2]; rfl, n02⟩))
  refine ld_of (c := .int .u32) c.seq (by rw [add_mk, cellH_blk b1]; rfl) (ld_of (c := .int .u32) d.seq (by rw [add_mk, cellH_blk b2]; rfl) (br_of (fun e3 => ?_) fun e3 => ⟨by unfold sameC; rw [e1, e2, e3]; rfl, n02⟩))
  refine ldAgg_add (o := 0) (c.z, c.p, c.b) b1 ⟨rfl, rfl, rfl, trivial⟩ (ldAgg_add (o := 0) (d.z, d.p, d.b) b2 ⟨rfl, rfl, rfl, trivial⟩ ⟨_, geo_eq6 c.z c.p c.b d.z d.p d.b, br_of (fun e4 => ?_) fun e4 => ⟨by unfold sameC; rw [e1, e2, e3, e4]; rfl, n02⟩⟩)
  refine ld_of (c := .slice) (ca, c.dir.length, cc) (by rw [add_mk, cellH_blk b1]; rfl) (ld_of (c := .slice) (da, d.dir.length, dc) (by rw [add_mk, cellH_blk b2]; rfl) (call_of (rnumbers_ok ca da cc dc c.dir d.dir h2 (by omega) (rc.new n02) (rd.new n02)) ?_))
  rintro v h' ⟨rfl, hh⟩; subst h'
  exact ⟨_, rfl, by unfold sameC; rw [e1, e2, e3, e4]; rfl, n02⟩
end Go.Proofs.YthimfpkkdhpceaaDoor.Ck
