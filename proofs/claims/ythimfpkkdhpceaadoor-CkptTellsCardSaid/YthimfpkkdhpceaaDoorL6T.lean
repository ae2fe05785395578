/-
  CkptTells.
-/
import Derived.Test.YthimfpkkdhpceaaDoorR6B
namespace Go.Proofs.YthimfpkkdhpceaaDoor.Ck
open Go.Pl Go.Proofs.YthimfpkkdhpceaaDoor.W Go.Proofs.YthimfpkkdhpceaaDoor.Byts Go.Proofs.YthimfpkkdhpceaaDoor.Four Go.Proofs.YthimfpkkdhpceaaDoor.Adl Go.Proofs.YthimfpkkdhpceaaDoor.Head Go.Proofs.YthimfpkkdhpceaaDoor.Geo Go.Proofs.YthimfpkkdhpceaaDoor.Rng Go.Proofs.YthimfpkkdhpceaaDoor.As
theorem tells_law (h : Heap) (v0 v1 v2 : Value) (x y : ChkS.T) (l : List (List Int)) (r0 : ReadsV h ChkS v0 x) (r1 : ReadsV h ChkS v1 y) (r2 : ReadsV h (.slice (.slice (.int .u8))) v2 l) (hg : Laid h) :
    CallsH Tryd.prog 3 [v0, v1, v2] h fun v h' => v = .bool true ∧ New h h' := by
  obtain ⟨da, dc, rfl, hd, hk⟩ := chk_in r0
  obtain ⟨ea, ec, rfl, he, hk'⟩ := chk_in r1
  obtain ⟨a, cc, rfl, rb, _, _⟩ := rows_in r2
  generalize chkX x = c at hd hk ⊢
  generalize chkX y = d at he hk' ⊢
  refine fun_ok Geo.hm' Tryd.func3 (by kernel_rfl) (F3_eq c.num c.ses c.seq c.z c.p c.b da c.dir.length dc d.num d.ses d.seq d.z d.p d.b ea d.dir.length ec a l.length cc _ h) ?_
  unfold F3
  refine new_of fun h1 b1 n1 s1 => new_of fun h2 b2 n2 s2 => call_of (awake_ok h2 (hg.new (n1.trans n2))) ?_
  have b1 : Blk h1 h.size (chkA c da dc) 27 := b1
  have b2 : Blk h2 h1.size (chkA d ea ec) 27 := b2
  rintro v h3 ⟨rfl, n3⟩
  have n03 := (n1.trans n2).trans n3
  have c3 := (b1.new n2).new n3
  have d3 := b2.new n3
  refine ⟨true, rfl, br_f rfl (cut_q (ts := []) (fun _ h' => h' = h3 ∧ largeL l = false ∧ c.dir.length ≤ 100 ∧ d.dir.length ≤ 100) ?_ ?_)⟩
  rotate_left
  · intro K hK
    refine call_of (large_ok a cc l h3 (rb.new n03)) ?_
    rintro v h' ⟨rfl, hh⟩; subst h'
    refine ⟨largeL l, rfl, br_of (fun _ => ⟨rfl, n03⟩) fun hl => ld_of (c := .slice) (da, c.dir.length, dc) (by rw [add_mk, cellH_blk c3]; rfl) (br_of (fun _ => ⟨rfl, n03⟩) fun hd => ld_of (c := .slice) (ea, d.dir.length, ec) (by rw [add_mk, cellH_blk d3]; rfl) (br_of (fun _ => ⟨rfl, n03⟩) fun he => hK () _ ⟨rfl, hl, ?_, ?_⟩))⟩
    · have hd : ¬ (c.dir.length : Int) > 100 := of_decide_eq_false hd
      omega
    · have he : ¬ (d.dir.length : Int) > 100 := of_decide_eq_false he
      omega
  rintro _ h' ⟨hh, hl, hdl, hel⟩ _; subst h'
  obtain ⟨hl40, hb100⟩ := large_no hl
  obtain ⟨hs1, hs2⟩ := blocks_short c
  refine ldChk c3 (call_of (blocks_ok c da dc h3 (hd.new n03)) ?_)
  rintro v h4 ⟨la, lc, rfl, rb4, n4⟩
  have n04 := n03.trans n4
  refine ⟨((la, (blocksC c).1.length, lc), errV (blocksC c).2), rfl, ldChk (c3.new n4) (call_of (own_ok c da dc h4) ?_)⟩
  rintro v h5 ⟨rfl, n5⟩
  have n05 := n04.trans n5
  refine ⟨chkC c da dc, rfl, call_of (rblocks_ok c hk da dc h5 (hd.new n05)) ?_⟩
  rintro v h6 ⟨ma, mc, rfl, rb6, n6⟩
  have n06 := n05.trans n6
  refine ⟨((ma, (blocksC c).1.length, mc), (blocksC c).2), rfl, call_of (read_ok a cc l h6 (rb.new n06) (by omega)) ?_⟩
  rintro v h7 ⟨da7, dc7, rfl, o7, n7⟩
  refine ⟨(chkC (readC l).1 da7 dc7, errV (readC l).2), rfl, new_stL (by rw [zeroK]; rfl) fun h8 b8 n8 s8 => ?_⟩
  have b8 : Blk h8 h7.size (chkA (readC l).1 da7 dc7) 27 := b8
  have n08 := (n06.trans n7).trans n8
  refine call_of (rread_ok a cc l h8 (rb.new n08) (by omega)) ?_
  rintro v h9 ⟨da9, dc9, rfl, o9, n9⟩
  refine ⟨(chkC (readC l).1 da9 dc9, (readC l).2), rfl, new_stL (by rw [zeroR6]; rfl) fun h10 b10 n10 s10 => ?_⟩
  have b10 : Blk h10 h9.size (chkA (readC l).1 da9 dc9) 40 := b10
  have n310 := (((((n4.trans n5).trans n6).trans n7).trans n8).trans n9).trans n10
  have n010 := n03.trans n310
  have c10 := c3.new n310
  have d10 := d3.new n310
  have e10 := (b8.new n9).new n10
  refine cut_q (ts := []) (fun _ h' => New h10 h') ?_ ?_
  rotate_left
  · intro K hK
    refine ld_of (c := .int .i64) c.b (by rw [add_mk, add_mk, cellH_blk c10]; rfl) (br_of (fun h1 => br_of (fun h2 => ?_) fun _ => hK () _ (New.refl _)) fun _ => hK () _ (New.refl _))
    have h1 : c.b ≥ 1 := of_decide_eq_true h1
    have h2 : c.b ≤ 64 := of_decide_eq_true h2
    refine call_of (many_ok c.b h10 ⟨h1, h2⟩) ?_
    rintro v h' ⟨rfl, hh⟩; subst h'
    refine ⟨(manyN c.b : Int), rfl, call_of (rmany_ok c.b h10 ⟨h1, h2⟩) ?_⟩
    rintro v h' ⟨rfl, hh⟩; subst h'
    exact ⟨(manyN c.b : Int), rfl, br_f (by simp) (hK () _ (New.refl _))⟩
  rintro _ h11 n11 _
  have n011 := n010.trans n11
  refine call_of (lsame_ok la ma lc mc (blocksC c).1 (blocksC c).1 h11 (((((((rb4.new n5).new n6).new n7).new n8).new n9).new n10).new n11) (((((rb6.new n7).new n8).new n9).new n10).new n11) (by omega) fun b hb => by have := hs2 b hb; omega) ?_
  rintro v h' ⟨rfl, hh⟩; subst h'
  refine ⟨decide ((blocksC c).1 = (blocksC c).1), rfl, br_t (by simp) (call_of (code_err (blocksC c).2 h11 (hg.new n011)) ?_)⟩
  rintro v h12 ⟨rfl, n12⟩
  have n1012 := n11.trans n12
  have n012 := n010.trans n1012
  refine ⟨(blocksC c).2, rfl, br_t (by simp) (ldChk (e10.new n1012) (ldChk (b10.new n1012) (call_of (own_ok (readC l).1 da7 dc7 h12) ?_)))⟩
  rintro v h13 ⟨rfl, n13⟩
  have n1013 := n1012.trans n13
  have hdl7 : (readC l).1.dir.length ≤ 1000 := by
    by_cases e : (readC l).2 = 0
    · obtain ⟨hr, _, _⟩ := of_read rb.byt e
      obtain ⟨_, _, _, hb, hdd⟩ := right_c hr
      rw [hdd]; unfold tabN; omega
    · rcases readC_cases l with ⟨_, e0⟩ | ⟨e0, _⟩
      · rw [e0]; decide
      · rw [e0] at e; exact (e rfl).elim
  have ar7 := Ar.own (o7.grow (((n8.trans n9).trans n10).trans n1013))
  have ar9 := Ar.own (o9.grow (n10.trans n1013))
  refine ⟨chkC (readC l).1 da7 dc7, rfl, asks7 (b10.new n1013) (call_of (rsame_ok (readC l).1 (readC l).1 da7 da9 dc7 dc9 h13 ar7 ar9 hdl7) ?_)⟩
  rintro v h14 ⟨rfl, n14⟩
  have n014 := (n010.trans n1013).trans n14
  refine ⟨sameC (readC l).1 (readC l).1, rfl, br_t ((sameC_iff _ _).2 rfl) (call_of (code_err (readC l).2 h14 (hg.new n014)) ?_)⟩
  rintro v h15 ⟨rfl, n15⟩
  have n1015 := (n1013.trans n14).trans n15
  have c15 := c10.new n1015
  refine ⟨(readC l).2, rfl, br_t (by simp) (ldChk c15 (ldChk c15 (call_of (right_ok c da dc h15) ?_)))⟩
  rintro v h16 ⟨rfl, n16⟩
  refine ⟨rightC c, rfl, asks7 (c15.new n16) (call_of (own_ok c da dc h16) ?_)⟩
  rintro v h17 ⟨rfl, n17⟩
  refine ⟨chkC c da dc, rfl, call_of (rright6_ok c da dc h17) ?_⟩
  rintro v h18 ⟨rfl, n18⟩
  have n1018 := ((n1015.trans n16).trans n17).trans n18
  have n018 := n010.trans n1018
  have c18 := c10.new n1018
  have d18 := d10.new n1018
  refine ⟨rightC c, rfl, br_t (by simp) (ldChk c18 (ldChk d18 (ldChk c18 (ldChk d18 (call_of (csame_ok c d da ea dc ec h18 (hd.new n018) (he.new n018) (by omega)) ?_)))))⟩
  rintro v h19 ⟨rfl, n19⟩
  refine ⟨sameC c d, rfl, asks7 (d18.new n19) (asks7 (c18.new n19) (call_of (own_ok c da dc h19) ?_))⟩
  rintro v h20 ⟨rfl, n20⟩
  refine ⟨chkC c da dc, rfl, asks7 ((d18.new n19).new n20) (call_of (own_ok d ea ec h20) ?_)⟩
  rintro v h21 ⟨rfl, n21⟩
  have n021 := ((n018.trans n19).trans n20).trans n21
  refine ⟨chkC d ea ec, rfl, call_of (rsame_ok c d da ea dc ec h21 (hd.new n021) (he.new n021) (by omega)) ?_⟩
  rintro v h22 ⟨rfl, n22⟩
  exact ⟨sameC c d, rfl, by simp, n021.trans n22⟩
end Go.Proofs.YthimfpkkdhpceaaDoor.Ck
