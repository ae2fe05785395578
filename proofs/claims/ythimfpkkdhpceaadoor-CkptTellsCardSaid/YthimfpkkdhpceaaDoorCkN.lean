/-
  ckpt.Read.
-/
import Derived.Test.YthimfpkkdhpceaaDoorCkM
namespace Go.Proofs.YthimfpkkdhpceaaDoor.Ck
open Go.Pl Go.Proofs.YthimfpkkdhpceaaDoor.W Go.Proofs.YthimfpkkdhpceaaDoor.Byts Go.Proofs.YthimfpkkdhpceaaDoor.Four Go.Proofs.YthimfpkkdhpceaaDoor.Adl Go.Proofs.YthimfpkkdhpceaaDoor.Head Go.Proofs.YthimfpkkdhpceaaDoor.Geo Go.Proofs.YthimfpkkdhpceaaDoor.Rng Go.Proofs.YthimfpkkdhpceaaDoor.As
theorem zeroK : zeroC Tryd.prog 27 = chkA ck0 none 0 := by kernel_rfl
def outC (x : ChkC) (e : Value) : Value := .tuple #[.agg #[.int .u32 x.1, .int .u32 x.2.1, .int .u32 x.2.2.1, .int .i64 x.2.2.2.1, .int .i64 x.2.2.2.2.1, .int .i64 x.2.2.2.2.2.1, .slice x.2.2.2.2.2.2.1 x.2.2.2.2.2.2.2.1 x.2.2.2.2.2.2.2.2], e]
/-- A checkpoint stored into a variable, and answered. -/
theorem put_out {h1 : Heap} {b : Nat} {arr : Array Value} {T : TypeId} {c : Chk} {da : Option Addr} {dc : Nat} {K : Value → Heap → Prop} {e : Value} (bb : Blk h1 b arr T) (hs : arr.size = 7) (hK : ∀ h', Only b h1 h' → K (.tuple #[chkV c da dc, e]) h') :
    stLW ⟨b, 0, none⟩ [.int .u32 c.num, .int .u32 c.ses, .int .u32 c.seq, .int .i64 c.z, .int .i64 c.p, .int .i64 c.b, .slice da c.dir.length dc] (fun h4 => ldAggW ChkY ⟨b, 0, none⟩ (fun (x5 : ChkC) => K (outC x5 e) h4) h4) h1 := by
  refine stL_blk bb (by rw [hs]; exact Nat.le_refl 7) fun h2 b2 o2 => ?_
  rw [setsA_all (by rw [hs]; rfl)] at b2
  exact ldChk (c := c) (da := da) (dc := dc) b2 (hK h2 o2)
def chkI (b : List Int) (i : Nat) : Chk := ⟨wordAt b 0, wordAt b 4, wordAt b 8, wordAt b 12, wordAt b 16, wordAt b 20, (List.range i).map fun i => wordAt b (4 * (6 + i))⟩
theorem chkI_len (b : List Int) (i : Nat) : (chkI b i).dir.length = i := by simp [chkI]
theorem chkI_dir (b : List Int) (i : Nat) : (chkI b (i + 1)).dir = (chkI b i).dir ++ [wordAt b (4 * (6 + i))] := by unfold chkI; simp only [List.range_succ, List.map_append]; rfl
theorem cell6 (B : List Int) (i : Nat) (da : Option Addr) (dc : Nat) : (chkA (chkI B i) da dc)[0 + 6]? = some (.slice da i dc) := by
  have e : (chkA (chkI B i) da dc)[0 + 6]? = some (.slice da (chkI B i).dir.length dc) := rfl
  rw [chkI_len] at e; exact e
theorem RB.byt {h : Heap} {a : Option Addr} {l : List (List Int)} (r : RB h a l) : ∀ b ∈ l, Byt b := fun b hb => by
  obtain ⟨i, hi⟩ := List.getElem?_of_mem hb
  obtain ⟨_, _, _, _, _, _, _, s⟩ := r i b hi
  exact s.byt
theorem readC_3 {l : List (List Int)} (h : l.length < 2 ∨ l.any (fun b => decide (b.length ≠ 16)) = true) : readC l = (ck0, 3) := by unfold readC; rw [if_pos h]
def ReadP (l : List (List Int)) (h : Heap) (v : Value) (h' : Heap) : Prop := ∃ da dc, v = .tuple #[chkV (readC l).1 da dc, errV (readC l).2] ∧ OwnH h' h.size 22 1 da (readC l).1.dir.length dc ((readC l).1.dir.map (Value.int .u32)) ∧ New h h'
theorem read_ok (a : Option Addr) (c : Nat) (l : List (List Int)) (h : Heap) (r : RB h a l) (hl : l.length ≤ 1000) :
    CallsH Tryd.prog 14 [.slice a l.length c] h (ReadP l h) := by
  refine fun_ok Geo.hm' Tryd.func14 (by kernel_rfl) (F14_eq _ _ _ _ h) ?_
  unfold F14
  refine new_of fun h1 b1 n1 s1 => ?_
  rw [zeroK] at b1
  have err : ∀ (hx : Heap) (e : Int), e ≠ 0 → readC l = (ck0, e) → New h1 hx → ∀ h', Only h.size hx h' → ReadP l h (Value.tuple #[chkV ck0 none 0, .iface 35 (.int .i64 e)]) h' := by
    intro hx e he hr n h' o
    unfold ReadP
    rw [hr]
    refine ⟨none, 0, by rw [errV_ne he], OwnH.nil _ _ _ _, ⟨?_, fun b hb => ?_⟩⟩
    · rw [o.size]; exact Nat.le_trans n1.size n.size
    · rw [o.same b (by omega), n.same b (by omega), n1.same b hb]
  refine cut_q (ts := []) (fun _ h' => h' = h1 ∧ 2 ≤ l.length ∧ l.any (fun b => decide (b.length ≠ 16)) = false) ?_ ?_
  rotate_left
  · intro K hK
    refine br_of (fun hlt => ?_) fun hlt => call_of (has16_ok a c l h1 (r.new n1) (by omega)) ?_
    · have hlt : (l.length : Int) < 2 := of_decide_eq_true hlt
      exact put_out (K := ReadP l h) (c := ck0) (da := none) (dc := 0) b1 rfl (err h1 3 (by decide) (readC_3 (.inl (by omega))) (New.refl _))
    · have hlt : ¬ (l.length : Int) < 2 := of_decide_eq_false hlt
      rintro v h' ⟨rfl, hh⟩; subst h'
      refine ⟨_, rfl, br_of (fun hb => ?_) fun hb => hK () _ ⟨rfl, by omega, hb⟩⟩
      exact put_out (K := ReadP l h) (c := ck0) (da := none) (dc := 0) b1 rfl (err h1 3 (by decide) (readC_3 (.inr hb)) (New.refl _))
  rintro _ h' ⟨hh, h2l, h16⟩ _; subst h'
  have h16' : ∀ b ∈ l, b.length = 16 := fun b hb => Classical.not_not.1 fun hne => by
    have : l.any (fun b => decide (b.length ≠ 16)) = true := List.any_eq_true.2 ⟨b, hb, decide_eq_true hne⟩
    rw [h16] at this; cases this
  have hfl := flat_len l h16'
  have hByt := flat_byt r.byt
  have hrd : readC l = if rightB (wordAt l.flatten 12) (wordAt l.flatten 16) (wordAt l.flatten 20) = false then (ck0, 2)
      else if l.length ≠ manyN (wordAt l.flatten 20) then (ck0, 3)
      else if sumL (l.flatten.take (lenN (wordAt l.flatten 20))) ≠ wordAt l.flatten (lenN (wordAt l.flatten 20)) then (ck0, 4)
      else if (l.flatten.drop (lenN (wordAt l.flatten 20) + 4)).any (fun x => decide (x ≠ 0)) = true then (ck0, 2)
      else (chkOf l.flatten, 0) := by
    conv => lhs; unfold readC
    rw [if_neg (by rw [h16]; rintro (h | h); omega; cases h)]
  refine call_of (concat8_ok a c l h1 (r.new n1) hl (by omega) fun b hb e => by have := h16' b hb; rw [e] at this; cases this) ?_
  generalize hBB : l.flatten = B at *
  rintro v h2 ⟨a2, c2, rfl, o2, n2⟩
  refine ⟨(a2, B.length, c2), rfl, ?_⟩
  have s2 := own_sl o2 hByt
  have num : ∀ (i : Nat) (hi : 4 * i + 4 ≤ B.length) (hx : Heap), New h2 hx → CallsH Tryd.prog 53 [.slice a2 B.length c2, .int .i64 (i : Int)] hx fun v h' => v = .int .u32 (wordAt B (4 * i)) ∧ h' = hx := fun i hi hx n => number_ok a2 c2 B i B.length hx (s2.new n) hi (by omega)
  have hB32 : 32 ≤ B.length := by omega
  refine call_of (num 0 (by omega) h2 (New.refl _)) ?_
  rintro v h' ⟨rfl, hh⟩; subst h'
  refine ⟨wordAt B 0, rfl, call_of (num 1 (by omega) h2 (New.refl _)) ?_⟩
  rintro v h' ⟨rfl, hh⟩; subst h'
  refine ⟨wordAt B 4, rfl, call_of (num 2 (by omega) h2 (New.refl _)) ?_⟩
  rintro v h' ⟨rfl, hh⟩; subst h'
  refine ⟨wordAt B 8, rfl, call_of (num 3 (by omega) h2 (New.refl _)) ?_⟩
  rintro v h' ⟨rfl, hh⟩; subst h'
  refine ⟨wordAt B 12, rfl, call_of (num 4 (by omega) h2 (New.refl _)) ?_⟩
  rintro v h' ⟨rfl, hh⟩; subst h'
  refine ⟨wordAt B 16, rfl, call_of (num 5 (by omega) h2 (New.refl _)) ?_⟩
  rintro v h' ⟨rfl, hh⟩; subst h'
  refine ⟨wordAt B 20, rfl, ?_⟩
  have wr : ∀ i, IntKind.wrap .i64 (wordAt B i) = wordAt B i := fun i => by have := wordAt_range hByt i; exact wr64 (by omega) (by omega)
  rw [wr, wr, wr]
  have b1' := b1.new n2
  refine new_stL (by rw [zeroK]; rfl) fun h3 b3 n3 s3 => ?_
  have b3 : Blk h3 h2.size (chkA (chkI B 0) none 0) 27 := b3
  have b13 := b1'.new n3
  refine ldAgg_add (o := 0) (wordAt B 12, wordAt B 16, wordAt B 20) b3 ⟨rfl, rfl, rfl, trivial⟩ (call_of (Geo.right_ok (wordAt B 12) (wordAt B 16) (wordAt B 20) h3) ?_)
  rintro v h4 ⟨rfl, n4⟩
  have n14 := (n2.trans n3).trans n4
  have b14 := b13.new n4
  have b4 := b3.new n4
  refine ⟨_, rfl, br_of (fun hr => ?_) fun hr => ?_⟩
  · have hr : rightB (wordAt B 12) (wordAt B 16) (wordAt B 20) = false := by simpa using hr
    exact put_out (K := ReadP l h) (c := ck0) (da := none) (dc := 0) b14 rfl (err h4 2 (by decide) (by rw [hrd, if_pos hr]) n14)
  have hr : rightB (wordAt B 12) (wordAt B 16) (wordAt B 20) = true := by simpa using hr
  rw [if_neg (by rw [hr]; simp)] at hrd
  obtain ⟨_, _, hb1, hb2⟩ := right_facts hr
  refine ld_of (c := .int .i64) (wordAt B 20) (by rw [add_mk, add_mk, cellH_blk b4]; rfl) (call_of (many_ok (wordAt B 20) h4 ⟨hb1, hb2⟩) ?_)
  rintro v h' ⟨rfl, hh⟩; subst h'
  refine ⟨(manyN (wordAt B 20) : Int), rfl, br_of (fun hm => ?_) fun hm => ?_⟩
  · have hm : l.length ≠ manyN (wordAt B 20) := fun e => by rw [e] at hm; simp at hm
    exact put_out (K := ReadP l h) (c := ck0) (da := none) (dc := 0) b14 rfl (err h4 3 (by decide) (by rw [hrd, if_pos hm]) n14)
  have hm : l.length = manyN (wordAt B 20) := by simp at hm; omega
  rw [if_neg (fun h => h hm)] at hrd
  have hlN : lenN (wordAt B 20) + 4 ≤ B.length := by rw [hfl, hm]; unfold manyN; omega
  have hlt : lenN (wordAt B 20) = 4 * (6 + tabN (wordAt B 20)) := by unfold lenN; omega
  refine ld_of (c := .int .i64) (wordAt B 20) (by rw [add_mk, add_mk, cellH_blk b4]; rfl) (call_of (length_ok (wordAt B 20) h4 ⟨hb1, hb2⟩) ?_)
  rintro v h' ⟨rfl, hh⟩; subst h'
  refine ⟨(lenN (wordAt B 20) : Int), rfl, ?_⟩
  have s4 := (s2.new n3).new n4
  have hc2 := s4.le
  refine s4.sl 0 (lenN (wordAt B 20)) c2 rfl rfl rfl (by omega) (by omega) (by omega) (Nat.le_refl _) fun bb d sb => ?_
  rw [List.drop_zero, Nat.sub_zero] at sb
  have hsl : (B.take (lenN (wordAt B 20))).length = lenN (wordAt B 20) := by rw [List.length_take]; omega
  have so := Sum.of_ok bb d (B.take (lenN (wordAt B 20))) h4 sb.le sb.nil sb.byt sb.ar
  rw [hsl] at so
  refine call_of so ?_
  rintro v h5 ⟨rfl, n5⟩
  refine ⟨_, rfl, ?_⟩
  have e4 : IntKind.wrap .i64 (Int.tdiv (lenN (wordAt B 20) : Int) 4) = ((6 + tabN (wordAt B 20) : Nat) : Int) := by
    rw [Int.tdiv_eq_ediv_of_nonneg (by omega), wr64 (by omega) (by omega), hlt]; omega
  rw [e4]
  refine call_of (num (6 + tabN (wordAt B 20)) (by omega) h5 ((n3.trans n4).trans n5)) ?_
  rintro v h' ⟨rfl, hh⟩; subst h'
  rw [← hlt]
  have b15 := b14.new n5
  have b5 := b4.new n5
  have n15 := n14.trans n5
  refine ⟨_, rfl, br_of (fun hs => ?_) fun hs => ?_⟩
  · have hs : sumL (B.take (lenN (wordAt B 20))) ≠ wordAt B (lenN (wordAt B 20)) := by simpa using hs
    exact put_out (K := ReadP l h) (c := ck0) (da := none) (dc := 0) b15 rfl (err h5 4 (by decide) (by rw [hrd, if_pos hs]) n15)
  have hs : sumL (B.take (lenN (wordAt B 20))) = wordAt B (lenN (wordAt B 20)) := by simpa using hs
  rw [if_neg (fun h => h hs)] at hrd
  have e5 : IntKind.wrap .i64 ((lenN (wordAt B 20) : Int) + 4) = ((lenN (wordAt B 20) + 4 : Nat) : Int) := by rw [wr64 (by omega) (by omega)]; rfl
  rw [e5]
  have s5 := s4.new n5
  refine s5.sl (lenN (wordAt B 20) + 4) B.length c2 rfl rfl rfl hlN (Nat.le_refl _) hc2 (Nat.le_refl _) fun bb2 d2 sb2 => ?_
  have hdl : ((B.drop (lenN (wordAt B 20) + 4)).take (B.length - (lenN (wordAt B 20) + 4))) = B.drop (lenN (wordAt B 20) + 4) := List.take_of_length_le (by rw [List.length_drop]; omega)
  rw [hdl] at sb2
  have ho := has0_ok bb2 d2 (B.drop (lenN (wordAt B 20) + 4)) h5 sb2.ar (by rw [List.length_drop]; omega)
  rw [List.length_drop] at ho
  refine call_of ho ?_
  rintro v h' ⟨rfl, hh⟩; subst h'
  refine ⟨_, rfl, br_of (fun hz => ?_) fun hz => ?_⟩
  · exact put_out (K := ReadP l h) (c := ck0) (da := none) (dc := 0) b15 rfl (err h5 2 (by decide) (by rw [hrd, if_pos hz]) n15)
  rw [if_neg (by rw [hz]; simp)] at hrd
  refine ld_of (c := .int .i64) (wordAt B 20) (by rw [add_mk, add_mk, cellH_blk b5]; rfl) (call_of (tables_ok (wordAt B 20) h5 (by omega) (by omega)) ?_)
  rintro v h' ⟨rfl, hh⟩; subst h'
  refine ⟨((wordAt B 20 + 3) / 4 : Int), rfl, ?_⟩
  have etab : ((wordAt B 20 + 3) / 4 : Int) = (tabN (wordAt B 20) : Int) := by unfold tabN; omega
  rw [etab]
  have ht : tabN (wordAt B 20) ≤ 16 := by unfold tabN; omega
  have h25 : New h2 h5 := (n3.trans n4).trans n5
  have hs5 := h25.size
  have hb3 := b3.lt
  have hs45 := (n4.trans n5).size
  have hs12 := n2.size
  refine ⟨fun (s : Int) h' => ∃ i : Nat, s = i ∧ i ≤ tabN (wordAt B 20) ∧ Upd h2.size h5 h' ∧ ∃ da dc, Blk h' h2.size (chkA (chkI B i) da dc) 27 ∧ OwnH h' h5.size 22 1 da i dc ((chkI B i).dir.map (Value.int .u32)), fun (s : Int) _ => ((tabN (wordAt B 20) : Int) - s).toNat, ⟨0, rfl, Nat.zero_le _, Upd.refl _ _, none, 0, b5, OwnH.nil _ _ _ _⟩, ?_⟩
  rintro s j h6 ⟨i, rfl, hi, u6, da, dc, b6, o6⟩
  have N6 : New h2 h6 := ⟨Nat.le_trans hs5 u6.size, fun b hb => (u6.same b (by omega) (by omega)).trans (h25.same b hb)⟩
  refine br_of (fun hlt2 => ?_) (fun hlt2 => ?_)
  · have hlt2 : (i : Int) < (tabN (wordAt B 20) : Int) := of_decide_eq_true hlt2
    have e6 : IntKind.wrap .i64 (6 + (i : Int)) = ((6 + i : Nat) : Int) := by rw [wr64 (by omega) (by omega)]; omega
    have ez : IntKind.wrap .i64 ((i : Int) + 1) = ((i + 1 : Nat) : Int) := (by first | (rw [wr64 (by omega) (by omega)]; omega) | (simp only [IntKind.wrap_i64]; omega))
    rw [e6, ez]
    refine ld_of (c := .slice) (da, i, dc) (by rw [add_mk, cellH_blk b6]; exact cell6 B i da dc) (call_of (num (6 + i) (by omega) h6 N6) ?_)
    rintro v h' ⟨rfl, hh⟩; subst h'
    refine ⟨_, rfl, ⟨by rw [add_mk, cellH_blk b6]; exact cell6 B i da dc, ?_⟩⟩
    refine pushA ap32 o6 (by omega) (by decide) u6.size fun a' c' h7 o7 ab7 => ?_
    have b7 := b6.abo ab7 (by omega)
    rw [add_mk]
    refine st_blk b7 (by show 6 < 7; omega) fun h8 b8 o8 => ?_
    have ea : (chkA (chkI B i) da dc).setIfInBounds (0 + 6) (.slice a' (i + 1) c') = chkA (chkI B (i + 1)) a' c' := by
      unfold chkA
      rw [chkI_len B (i + 1)]
      rfl
    rw [ea] at b8
    have u8 : Upd h2.size h5 h8 := ⟨by rw [o8.size]; have := ab7.size; have := u6.size; omega, fun b hb hne => by rw [o8.same b hne, ab7.same b hb (by have := u6.size; omega), u6.same b hb hne]⟩
    refine ⟨⟨i + 1, rfl, by omega, u8, a', c', b8, ?_⟩, (by first | omega | (dsimp only; omega) | (simp only []; omega))⟩
    rw [chkI_dir]
    exact o7.keep fun g _ hg _ _ => o8.same g (by omega)
  · have hlt2 : ¬ (i : Int) < (tabN (wordAt B 20) : Int) := of_decide_eq_false hlt2
    have : i = tabN (wordAt B 20) := by omega
    subst this
    have b16 : Blk h6 h.size (chkA ck0 none 0) 27 := (u6.same h.size (by omega) (by omega)).trans b15
    refine ldChk b6 (put_out (K := ReadP l h) (c := chkI B (tabN (wordAt B 20))) (da := da) (dc := dc) b16 rfl fun h7 o7 => ?_)
    unfold ReadP
    rw [hrd]
    refine ⟨da, dc, rfl, ?_, ⟨?_, fun b hb => ?_⟩⟩
    · show OwnH h7 h.size 22 1 da (chkI B (tabN (wordAt B 20))).dir.length dc ((chkI B (tabN (wordAt B 20))).dir.map (Value.int .u32))
      rw [chkI_len]
      exact OwnH.low (base := h5.size) (o6.keep fun g _ hg _ _ => o7.same g (by omega)) (by omega)
    · rw [o7.size]; have := u6.size; omega
    · rw [o7.same b (by omega), N6.same b (by omega), n2.same b (by omega), n1.same b hb]
end Go.Proofs.YthimfpkkdhpceaaDoor.Ck
