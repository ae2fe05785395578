/-
  What the laws of layer 6 (ckpt) come to: what came in; the law's own functions.
-/
import Derived.Test.YthimfpkkdhpceaaDoorCkN
import Derived.Test.YthimfpkkdhpceaaDoorWL6
import Derived.Test.YthimfpkkdhpceaaDoorSame3
namespace Go.Proofs.YthimfpkkdhpceaaDoor.Ck
open Go.Pl Go.Proofs.YthimfpkkdhpceaaDoor.W Go.Proofs.YthimfpkkdhpceaaDoor.Byts Go.Proofs.YthimfpkkdhpceaaDoor.Four Go.Proofs.YthimfpkkdhpceaaDoor.Adl Go.Proofs.YthimfpkkdhpceaaDoor.Head Go.Proofs.YthimfpkkdhpceaaDoor.Geo Go.Proofs.YthimfpkkdhpceaaDoor.Rng Go.Proofs.YthimfpkkdhpceaaDoor.As
/- WHAT CAME IN. -/
abbrev ChkS : Sh := .pair (.int .u32) (.pair (.int .u32) (.pair (.int .u32) (.pair (.pair (.int .i64) (.pair (.int .i64) (.int .i64))) (.slice (.int .u32)))))
def chkX (x : ChkS.T) : Chk := ⟨x.1, x.2.1, x.2.2.1, x.2.2.2.1.1, x.2.2.2.1.2.1, x.2.2.2.1.2.2, x.2.2.2.2⟩
theorem chk_in {h : Heap} {v : Value} {x : ChkS.T} (r : ReadsV h ChkS v x) : ∃ da dc, v = chkV (chkX x) da dc ∧ Ar .u32 h da (chkX x).dir ∧ ChkOk (chkX x) := by
  obtain ⟨cs, rfl, c1, d1, rfl, ⟨rfl, w1⟩, c2, d2, rfl, ⟨rfl, w2⟩, c3, d3, rfl, ⟨rfl, w3⟩, c4, d4, rfl, ⟨e1, e2, rfl, ⟨rfl, w4⟩, e3, e4, rfl, ⟨rfl, w5⟩, ⟨rfl, w6⟩⟩, ⟨a, c, rfl, hs⟩⟩ := r
  have r5 : ReadsV h (.slice (.int .u32)) (.slice a (List.length (α := (Sh.int .u32).T) x.2.2.2.2) c) x.2.2.2.2 := ⟨_, rfl, a, c, rfl, hs⟩
  obtain ⟨a', c', e, _, _, _, ar, hw⟩ := Ar.reads r5
  injection e with e1 e2 e3
  subst e1; subst e3
  exact ⟨a, c, rfl, ar, u32_wf w1, u32_wf w2, u32_wf w3, fun y hy => u32_wf (hw y hy)⟩
theorem rows_in {h : Heap} {v : Value} {l : List (List Int)} (r : ReadsV h (.slice (.slice (.int .u8))) v l) : ∃ a c, v = .slice a l.length c ∧ RB h a l ∧ l.length ≤ maxLen ∧ ∀ b ∈ l, b.length ≤ maxLen := by
  obtain ⟨cs, hcs, a, c, rfl, hl, hc, _, hr⟩ := r
  obtain rfl := (List.cons.inj hcs).1
  have rb : RB h a l := fun i bs hi => by
    obtain ⟨b, o, es, e1, hb, hel, hce, rr⟩ := hr i bs hi
    obtain ⟨a', c', rfl, hs⟩ := rr
    have r5 : ReadsV h (.slice (.int .u8)) (.slice a' (List.length (α := (Sh.int .u8).T) bs) c') bs := ⟨_, rfl, a', c', rfl, hs⟩
    obtain ⟨a2, c2, e, sb⟩ := Sl8.reads r5
    injection e with e2 e3 e4
    subst e2; subst e4
    have e0 := hce 0 Nat.one_pos
    rw [show o + (i * (Sh.slice (.int .u8)).n + 0) = o + i by simp [Sh.n]] at e0
    exact ⟨b, o, a', c', e1, hb, e0, sb⟩
  refine ⟨a, c, rfl, rb, Nat.le_trans hl hc, fun b hb => ?_⟩
  obtain ⟨i, hi⟩ := List.getElem?_of_mem hb
  obtain ⟨_, _, _, c', _, _, _, s⟩ := rb i b hi
  exact Nat.le_trans s.le s.cap
/- ANSWERS OF BLOCKS, BOTH WAYS. -/
theorem RB.nil (h : Heap) (a : Option Addr) : RB h a [] := fun i bs hi => by simp at hi
theorem blocks_ok (c : Chk) (da : Option Addr) (dc : Nat) (h : Heap) (hd : Ar .u32 h da c.dir) :
    CallsH Tryd.prog 11 [chkV c da dc] h fun v h' => ∃ la lc, v = .tuple #[.slice la (blocksC c).1.length lc, errV (blocksC c).2] ∧ RB h' la (blocksC c).1 ∧ New h h' := by
  cases hr : rightC c with
  | false =>
    refine (blocks_no c da dc h hr).mono ?_
    rintro v h' ⟨rfl, n⟩
    have e : blocksC c = ([], 1) := by unfold blocksC; rw [if_pos hr]
    rw [e]
    exact ⟨none, 0, rfl, RB.nil _ _, n⟩
  | true =>
    refine (blocks_yes c da dc h hr hd).mono ?_
    rintro v h' ⟨la, lc, rfl, l, n⟩
    have e : blocksC c = (chunks (manyN c.b) (bytesC c), 0) := by unfold blocksC; rw [if_neg (by rw [hr]; simp)]
    rw [e]
    exact ⟨la, lc, by rw [chunks_len]; rfl, l.rb, n⟩
theorem blocks_code (c : Chk) : ((blocksC c).2 = 0) = (rightC c = true) := by
  unfold blocksC
  cases hr : rightC c <;> simp
/- THE LAW'S OWN FUNCTIONS. -/
theorem own_ok (c : Chk) (da : Option Addr) (dc : Nat) (h : Heap) : CallsH Tryd.prog 13 [chkV c da dc] h fun v h' => v = chkV c da dc ∧ New h h' := by
  refine fun_ok Geo.hm' Tryd.func13 (by kernel_rfl) (F13_eq _ _ _ _ _ _ _ _ _ _ h) ?_
  unfold F13
  have zR : zeroC Tryd.prog 40 = chkA ck0 none 0 := by kernel_rfl
  refine new_of fun h1 b1 n1 s1 => new_of fun h2 b2 n2 s2 => ?_
  have b1' : Blk h2 h.size (chkA c da dc) 27 := b1.new n2
  rw [zR] at b2
  refine ld_of (c := .int .u32) c.num (by rw [add_mk, cellH_blk b1']; rfl) (ld_of (c := .int .u32) c.ses (by rw [add_mk, cellH_blk b1']; rfl) (ld_of (c := .int .u32) c.seq (by rw [add_mk, cellH_blk b1']; rfl) (ldAgg_add (o := 0) (c.z, c.p, c.b) b1' ⟨rfl, rfl, rfl, trivial⟩ (ld_of (c := .slice) (da, c.dir.length, dc) (by rw [add_mk, cellH_blk b1']; rfl) ?_))))
  refine stL_blk b2 (show 0 + 7 ≤ 7 by omega) fun h3 b3 o3 => ?_
  rw [setsA_all (by rfl)] at b3
  exact ldChk (c := c) (da := da) (dc := dc) b3 ⟨rfl, o3.upd.new (n1.trans n2) (by have := n1.size; omega)⟩
theorem lsame_ok (a b : Option Addr) (ca cb : Nat) (l m : List (List Int)) (h : Heap) (ra : RB h a l) (rb : RB h b m) (hl : l.length ≤ 1000000) (hx : ∀ x ∈ l, x.length ≤ 1000000) :
    CallsH Tryd.prog 18 [.slice a l.length ca, .slice b m.length cb] h fun v h' => v = .bool (decide (l = m)) ∧ h' = h := by
  refine fun_ok Geo.hm' Tryd.func18 (by kernel_rfl) (F18_eq _ _ _ _ _ _ _ h) ?_
  unfold F18
  refine br_of (fun hne => ?_) (fun heq => ?_)
  · have : l ≠ m := fun e => by subst e; simp at hne
    exact ⟨by simp [this], rfl⟩
  have hlm : l.length = m.length := by simp at heq; omega
  refine ⟨fun (s : Int) h' => h' = h ∧ ∃ i : Nat, s = i ∧ i ≤ l.length ∧ l.take i = m.take i, fun (s : Int) _ => (l.length - s).toNat, ⟨rfl, 0, rfl, by omega, rfl⟩, ?_⟩
  rintro s j h' ⟨hh, i, rfl, hi, hpre⟩
  subst h'
  refine br_of (fun hlt => ?_) (fun hlt => ?_)
  · have hlt : (i : Int) < (l.length : Int) := of_decide_eq_true hlt
    have hiL : i < l.length := by omega
    refine ra.ld hiL hiL fun a' c' sa => rb.ld (show i < m.length by omega) (show i < m.length by omega) fun b' d' sb => ?_
    have hm := hx _ (List.getElem_mem hiL)
    have hm' : l[i].length ≤ 9223372036854775806 := by omega
    refine call_of (Same3.same_ok a' b' _ _ c' d' h l[i] m[i] rfl rfl hm' sa.ar sb.ar) ?_
    rintro v h' ⟨rfl, hh⟩; subst h'
    refine ⟨decide (l[i] = m[i]), rfl, br_of (fun hd => ?_) (fun hd => ?_)⟩
    · have hd : l[i] ≠ m[i] := by simpa using hd
      have : l ≠ m := fun e => by subst e; exact hd rfl
      exact ⟨by simp [this], by trivial⟩
    · have hd : l[i] = m[i] := by simpa using hd
      have ez : IntKind.wrap .i64 ((i : Int) + 1) = ((i + 1 : Nat) : Int) := (by first | (rw [wr64 (by omega) (by omega)]; omega) | (simp only [IntKind.wrap_i64]; omega))
      rw [ez]
      refine ⟨⟨by trivial, i + 1, rfl, by omega, ?_⟩, by dsimp only; omega⟩
      rw [List.take_add_one, List.take_add_one, hpre, List.getElem?_eq_getElem hiL, List.getElem?_eq_getElem (show i < m.length by omega), hd]
  · have hlt : ¬ (i : Int) < (l.length : Int) := of_decide_eq_false hlt
    have : i = l.length := by omega
    subst this
    rw [List.take_length, List.take_of_length_le (by omega)] at hpre
    exact ⟨by simp [hpre], rfl⟩
def largeL (l : List (List Int)) : Bool := decide (40 < l.length) || l.any fun b => decide (100 < b.length)
theorem large_no {l : List (List Int)} (h : largeL l = false) : l.length ≤ 40 ∧ ∀ b ∈ l, b.length ≤ 100 := by
  unfold largeL at h
  rw [Bool.or_eq_false_iff] at h
  refine ⟨by have := of_decide_eq_false h.1; omega, fun b hb => ?_⟩
  have := List.any_eq_false.1 h.2 b hb
  simp at this; exact this
theorem large_ok (a : Option Addr) (c : Nat) (l : List (List Int)) (h : Heap) (r : RB h a l) :
    CallsH Tryd.prog 10 [.slice a l.length c] h fun v h' => v = .bool (largeL l) ∧ h' = h := by
  refine fun_ok Geo.hm' Tryd.func10 (by kernel_rfl) (F10_eq _ _ _ _ h) ?_
  unfold F10
  refine br_of (fun hg => ?_) (fun hg => ?_)
  · have hg : (l.length : Int) > 40 := of_decide_eq_true hg
    refine ⟨?_, rfl⟩
    unfold largeL; rw [decide_eq_true (show 40 < l.length by omega)]; rfl
  have hg : ¬ (l.length : Int) > 40 := of_decide_eq_false hg
  refine ⟨fun (s : Int) h' => h' = h ∧ ∃ i : Nat, s = i ∧ i ≤ l.length ∧ ∀ b ∈ l.take i, b.length ≤ 100, fun (s : Int) _ => (l.length - s).toNat, ⟨rfl, 0, rfl, by omega, by simp⟩, ?_⟩
  rintro s j h' ⟨hh, i, rfl, hi, hno⟩
  subst h'
  refine br_of (fun hlt => ?_) (fun hlt => ?_)
  · have hlt : (i : Int) < (l.length : Int) := of_decide_eq_true hlt
    have hiL : i < l.length := by omega
    refine r.ld hiL hiL fun a' c' sa => br_of (fun hb => ⟨?_, rfl⟩) fun hb => ?_
    · have hb : (l[i].length : Int) > 100 := of_decide_eq_true hb
      unfold largeL
      have : l.any (fun b => decide (100 < b.length)) = true := List.any_eq_true.2 ⟨_, List.getElem_mem hiL, decide_eq_true (by omega)⟩
      rw [this, Bool.or_true]
    · have hb : ¬ (l[i].length : Int) > 100 := of_decide_eq_false hb
      have ez : IntKind.wrap .i64 ((i : Int) + 1) = ((i + 1 : Nat) : Int) := (by first | (rw [wr64 (by omega) (by omega)]; omega) | (simp only [IntKind.wrap_i64]; omega))
      rw [ez]
      refine ⟨⟨rfl, i + 1, rfl, hiL, fun b hb' => ?_⟩, (by first | omega | (dsimp only; omega) | (simp only []; omega))⟩
      rw [← List.take_append_getElem hiL] at hb'
      rcases List.mem_append.1 hb' with hb' | hb'
      · exact hno b hb'
      · rw [List.mem_singleton.1 hb']; omega
  · have hlt : ¬ (i : Int) < (l.length : Int) := of_decide_eq_false hlt
    have : i = l.length := by omega
    subst this
    rw [List.take_length] at hno
    refine ⟨?_, rfl⟩
    unfold largeL
    rw [decide_eq_false (by omega)]
    have : l.any (fun b => decide (100 < b.length)) = false := List.any_eq_false.2 fun b hb => by have := hno b hb; simp; omega
    rw [this]; rfl
theorem blocks_short (c : Chk) : (blocksC c).1.length ≤ 100 ∧ ∀ b ∈ (blocksC c).1, b.length ≤ 16 := by
  unfold blocksC
  cases hr : rightC c with
  | false => simp
  | true =>
    obtain ⟨_, _, _, hb, hd⟩ := right_c hr
    rw [if_neg (by simp)]
    refine ⟨?_, fun b hb => ?_⟩
    · rw [chunks_len]; unfold manyN lenN tabN; omega
    · exact Nat.le_of_eq (chunks_each (bytes_len hr) b hb)
def cA : Chk := ⟨1, 2, 3, 11, 4, 6, [4, 0]⟩
theorem cA_right : rightC cA = true := by decide
theorem u32_dec {x : Int} (h : decide (0 ≤ x ∧ x < 4294967296) = true) : U32 x := by
  have := of_decide_eq_true h
  exact this
theorem cA_ok : ChkOk cA := ⟨u32_dec rfl, u32_dec rfl, u32_dec rfl, fun x hx => by
  have hx : x ∈ ([4, 0] : List Int) := hx
  simp only [List.mem_cons, List.not_mem_nil, or_false] at hx
  rcases hx with rfl | rfl <;> exact u32_dec rfl⟩
theorem awake_ok (h : Heap) (hg : Laid h) : CallsH Tryd.prog 9 [] h fun v h' => v = .bool true ∧ New h h' := by
  refine fun_ok Geo.hm' Tryd.func9 (by kernel_rfl) (F9_eq _ h) ?_
  unfold F9
  refine new_of fun h1 b1 n1 s1 => new_stL (by rw [zeroK]; rfl) fun h2 b2 n2 s2 => ?_
  have b2 : Blk h2 h1.size (chkA cA (some ⟨h.size, 0, none⟩) 2) 27 := b2
  have ar : Ar .u32 h2 (some ⟨h.size, 0, none⟩) cA.dir := (Ar.blk (xs := [4, 0]) b1).new n2
  have n02 := n1.trans n2
  refine ldChk b2 (call_of (blocks_ok cA _ 2 h2 ar) ?_)
  rintro v h3 ⟨la, lc, rfl, rb3, n3⟩
  have hlen : (blocksC cA).1.length = 3 := by decide
  have hcode : (blocksC cA).2 = 0 := by decide
  refine ⟨((la, (blocksC cA).1.length, lc), errV (blocksC cA).2), rfl, ?_⟩
  refine call_of (read_ok la lc (blocksC cA).1 h3 rb3 (by omega)) ?_
  rintro v h4 ⟨da, dc, rfl, o4, n4⟩
  rw [back_c cA_ok cA_right] at o4 ⊢
  refine ⟨(chkC cA da dc, errV 0), rfl, new_stL (by rw [zeroK]; rfl) fun h5 b5 n5 s5 => ?_⟩
  have b5 : Blk h5 h4.size (chkA cA da dc) 27 := b5
  have n05 := ((n02.trans n3).trans n4).trans n5
  refine call_of (read_ok none 0 [] h5 (RB.nil _ _) (by simp)) ?_
  have er : readC [] = (ck0, 3) := readC_3 (.inl (by simp))
  rintro v h6 ⟨da2, dc2, rfl, o6, n6⟩
  rw [er] at o6 ⊢
  refine ⟨(chkC ck0 da2 dc2, errV 3), rfl, new_stL (by rw [zeroK]; rfl) fun h7 b7 n7 s7 => ?_⟩
  have n07 := (n05.trans n6).trans n7
  refine call_of (many_ok 6 h7 (by decide)) ?_
  rintro v h' ⟨rfl, hh⟩; subst h'
  have n27 := (((n3.trans n4).trans n5).trans n6).trans n7
  have n57 := n6.trans n7
  rw [hlen, hcode]
  refine ⟨(manyN 6 : Int), rfl, br_t (by decide) (br_t rfl ⟨errV_if 0, br_t rfl ?_⟩)⟩
  refine ldChk (b2.new n27) (ldChk (b5.new n57) (call_of (csame_ok cA cA _ _ _ _ h7 (ar.new n27) (Ar.own ((o4.grow n5).grow n57)) (by decide)) ?_))
  rintro v h8 ⟨rfl, n8⟩
  refine ⟨sameC cA cA, rfl, br_t ((sameC_iff _ _).2 rfl) ⟨errV_if 0, br_t rfl (ldChk (b2.new (n27.trans n8)) (call_of (right_ok cA _ _ h8) ?_))⟩⟩
  rintro v h9 ⟨rfl, n9⟩
  refine ⟨rightC cA, rfl, br_t cA_right (call_of (right_ok ck0 none 0 h9) ?_)⟩
  rintro v h10 ⟨rfl, n10⟩
  have n010 := ((n07.trans n8).trans n9).trans n10
  refine ⟨rightC ck0, rfl, br_t (by decide) (call_of (code_err 3 h10 (hg.new n010)) ?_)⟩
  rintro v h11 ⟨rfl, n11⟩
  exact ⟨(3 : Int), rfl, rfl, n010.trans n11⟩
end Go.Proofs.YthimfpkkdhpceaaDoor.Ck
