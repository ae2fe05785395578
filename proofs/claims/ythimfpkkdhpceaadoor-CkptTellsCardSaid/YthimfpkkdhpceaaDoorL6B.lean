/-
  CkptBack, CkptAlike, CkptChanged.
-/
import Derived.Test.YthimfpkkdhpceaaDoorL6A
import Derived.Test.YthimfpkkdhpceaaDoorR2
import Derived.Test.YthimfpkkdhpceaaDoorWR6
namespace Go.Proofs.YthimfpkkdhpceaaDoor.Ck
open Go.Pl Go.Proofs.YthimfpkkdhpceaaDoor.W Go.Proofs.YthimfpkkdhpceaaDoor.Byts Go.Proofs.YthimfpkkdhpceaaDoor.Four Go.Proofs.YthimfpkkdhpceaaDoor.Adl Go.Proofs.YthimfpkkdhpceaaDoor.Head Go.Proofs.YthimfpkkdhpceaaDoor.Geo Go.Proofs.YthimfpkkdhpceaaDoor.Rng Go.Proofs.YthimfpkkdhpceaaDoor.As
theorem boundFrom_tab (z p : Int) : ∀ n, (boundFrom z p n + 3) / 4 ≤ p ∨ boundFrom z p n = 0
  | 0 => .inr rfl
  | n + 1 => by
    have ih := boundFrom_tab z p n
    simp only [boundFrom]
    split
    · rename_i h
      unfold okB at h
      rw [Bool.and_eq_true] at h
      exact .inl (of_decide_eq_true h.1)
    · exact ih
theorem right_tab {z p b : Int} (h : rightB z p b = true) : (b + 3) / 4 ≤ p := by
  obtain ⟨hz, hp, h1, _⟩ := right_facts h
  unfold rightB at h
  rw [Bool.and_eq_true] at h
  have h2 := of_decide_eq_true h.1
  unfold boundF at h2
  rw [if_pos ⟨hz, hp⟩] at h2
  rcases boundFrom_tab z p 64 with h3 | h3
  · omega
  · omega
theorem pages_c {c : Chk} (h : rightC c = true) : (manyN c.b : Int) ≤ c.p := by
  obtain ⟨hr, hz, hp, hb, _⟩ := right_c h
  have := right_tab hr
  unfold manyN lenN tabN; omega
theorem rright6_ok (c : Chk) (da : Option Addr) (dc : Nat) (h : Heap) : CallsH Tryd.prog 22 [chkV c da dc] h fun v h' => v = .bool (rightC c) ∧ New h h' := by
  refine fun_ok Geo.hm' Tryd.func22 (by kernel_rfl) (F22_eq _ _ _ _ _ _ _ _ _ _ h) ?_
  unfold F22
  refine new_of fun h1 b1 n1 s1 => ldAgg_add (o := 0) (c.z, c.p, c.b) b1 ⟨rfl, rfl, rfl, trivial⟩ (call_of (R2.rright_ok c.z c.p c.b h1) ?_)
  rintro v h2 ⟨rfl, n2⟩
  have b2 := b1.new n2
  refine ⟨_, rfl, br_of (fun hr => ?_) (fun hr => ⟨by unfold rightC; rw [hr]; rfl, n1.trans n2⟩)⟩
  obtain ⟨_, _, hb1, hb2⟩ := right_facts hr
  refine ld_of (c := .slice) (da, c.dir.length, dc) (by rw [add_mk, cellH_blk b2]; rfl) (ld_of (c := .int .i64) c.b (by rw [add_mk, add_mk, cellH_blk b2]; rfl) ⟨(c.b + 3) / 4, fun h' _ => R2.tab_ok c.b h' (by omega) (by omega), ?_, n1.trans n2⟩)
  unfold rightC
  rw [hr, Bool.true_and]
  rfl
/-- What a variable holds, asked for cell by cell. -/
theorem asks7 {h : Heap} {b : Nat} {T : TypeId} {c : Chk} {da : Option Addr} {dc : Nat} (bb : Blk h b (chkA c da dc) T) {Q : Prop} (hQ : Q) :
    (cellH h (Addr.add ⟨b, 0, none⟩ 0) = some (.int .u32 (chkC c da dc).1) ∧ (cellH h (Addr.add ⟨b, 0, none⟩ 1) = some (.int .u32 (chkC c da dc).2.1) ∧ (cellH h (Addr.add ⟨b, 0, none⟩ 2) = some (.int .u32 (chkC c da dc).2.2.1) ∧ (cellH h (Addr.add ⟨b, 0, none⟩ 3) = some (.int .i64 (chkC c da dc).2.2.2.1) ∧ (cellH h (Addr.add ⟨b, 0, none⟩ 4) = some (.int .i64 (chkC c da dc).2.2.2.2.1) ∧ (cellH h (Addr.add ⟨b, 0, none⟩ 5) = some (.int .i64 (chkC c da dc).2.2.2.2.2.1) ∧ (cellH h (Addr.add ⟨b, 0, none⟩ 6) = some (.slice (chkC c da dc).2.2.2.2.2.2.1 (chkC c da dc).2.2.2.2.2.2.2.1 (chkC c da dc).2.2.2.2.2.2.2.2) ∧ Q))))))) := by
  refine ⟨?_, ?_, ?_, ?_, ?_, ?_, ?_, hQ⟩ <;> (rw [add_mk, cellH_blk bb]; rfl)
theorem back_law (h : Heap) (v0 v1 : Value) (x : ChkS.T) (l : List (List Int)) (r0 : ReadsV h ChkS v0 x) (r1 : ReadsV h (.slice (.slice (.int .u8))) v1 l) (hg : Laid h) :
    CallsH Tryd.prog 4 [v0, v1] h fun v h' => v = .bool true ∧ New h h' := by
  obtain ⟨da, dc, rfl, hd, hk⟩ := chk_in r0
  obtain ⟨a, cc, rfl, rb, _, _⟩ := rows_in r1
  generalize chkX x = c at hd hk ⊢
  refine fun_ok Geo.hm' Tryd.func4 (by kernel_rfl) (F4_eq c.num c.ses c.seq c.z c.p c.b da c.dir.length dc a l.length cc _ h) ?_
  unfold F4
  refine new_of fun h1 b1 n1 s1 => call_of (awake_ok h1 (hg.new n1)) ?_
  have b1 : Blk h1 h.size (chkA c da dc) 27 := b1
  rintro v h2 ⟨rfl, n2⟩
  have n02 := n1.trans n2
  refine ⟨true, rfl, br_f rfl (cut_q (ts := []) (fun _ h' => h' = h2 ∧ largeL l = false ∧ c.dir.length ≤ 100) ?_ ?_)⟩
  rotate_left
  · intro K hK
    refine call_of (large_ok a cc l h2 (rb.new n02)) ?_
    rintro v h' ⟨rfl, hh⟩; subst h'
    refine ⟨largeL l, rfl, br_of (fun _ => ⟨rfl, n02⟩) fun hl => ld_of (c := .slice) (da, c.dir.length, dc) (by rw [add_mk, cellH_blk (b1.new n2)]; rfl) (br_of (fun _ => ⟨rfl, n02⟩) fun hd => hK () _ ⟨rfl, hl, ?_⟩)⟩
    have hd : ¬ (c.dir.length : Int) > 100 := of_decide_eq_false hd
    omega
  rintro _ h' ⟨hh, hl, hdl⟩ _; subst h'
  obtain ⟨hl40, hb100⟩ := large_no hl
  obtain ⟨hs1, hs2⟩ := blocks_short c
  refine ldChk (b1.new n2) (call_of (blocks_ok c da dc h2 (hd.new n02)) ?_)
  rintro v h3 ⟨la, lc, rfl, rb3, n3⟩
  have n03 := n02.trans n3
  have b3 := (b1.new n2).new n3
  refine ⟨((la, (blocksC c).1.length, lc), errV (blocksC c).2), rfl, errV_if _, ldChk b3 (call_of (right_ok c da dc h3) ?_)⟩
  rintro v h4 ⟨rfl, n4⟩
  have n04 := n03.trans n4
  have b4 := b3.new n4
  refine ⟨rightC c, rfl, br_f ?_ (cut_q (ts := []) (fun _ h' => New h4 h') ?_ ?_)⟩
  · simp only [errV_nil]
    have := blocks_code c
    cases hr : rightC c <;> rw [hr] at this <;> simp_all
  rotate_left
  · intro K hK
    refine ⟨errV_if _, br_of (fun he => ?_) fun he => hK () _ (New.refl _)⟩
    have he : isNilV (errV (blocksC c).2) = true := he
    rw [errV_nil] at he
    have hr : rightC c = true := by rw [← blocks_code]; exact of_decide_eq_true he
    refine call_of (read_ok la lc (blocksC c).1 h4 (rb3.new n4) (by omega)) ?_
    rintro v h5 ⟨da5, dc5, rfl, o5, n5⟩
    rw [back_c hk hr] at o5 ⊢
    refine ⟨(chkC c da5 dc5, errV 0), rfl, new_stL (by rw [zeroK]; rfl) fun h6 b6 n6 s6 => ⟨errV_if 0, br_f rfl ?_⟩⟩
    have b6 : Blk h6 h5.size (chkA c da5 dc5) 27 := b6
    have n46 := n5.trans n6
    refine ldChk (b4.new n46) (ldChk b6 (call_of (csame_ok c c da da5 dc dc5 h6 (hd.new (n04.trans n46)) (Ar.own (o5.grow n6)) (by omega)) ?_))
    rintro v h7 ⟨rfl, n7⟩
    have b7 := (b4.new n46).new n7
    obtain ⟨_, _, _, hb, _⟩ := right_c hr
    have hbl : (blocksC c).1.length = manyN c.b := by unfold blocksC; rw [if_neg (by rw [hr]; simp), chunks_len]
    refine ⟨sameC c c, rfl, br_f (by rw [(sameC_iff c c).2 rfl]; rfl) (ld_of (c := .int .i64) c.p (by rw [add_mk, add_mk, cellH_blk b7]; rfl) (br_f ?_ (ld_of (c := .int .i64) c.b (by rw [add_mk, add_mk, cellH_blk b7]; rfl) (call_of (many_ok c.b h7 hb) ?_))))⟩
    · have := pages_c hr
      simp only [hbl]
      exact decide_eq_false (by omega)
    rintro v h' ⟨rfl, hh⟩; subst h'
    refine ⟨(manyN c.b : Int), rfl, br_f (by simp only [hbl]; simp) (hK () _ (n46.trans n7))⟩
  rintro _ h5 n5 _
  have n05 := n04.trans n5
  refine call_of (read_ok a cc l h5 (rb.new n05) (by omega)) ?_
  rintro v h6 ⟨da6, dc6, rfl, o6, n6⟩
  refine ⟨(chkC (readC l).1 da6 dc6, errV (readC l).2), rfl, new_stL (by rw [zeroK]; rfl) fun h7 b7 n7 s7 => ⟨errV_if _, ?_⟩⟩
  have b7 : Blk h7 h6.size (chkA (readC l).1 da6 dc6) 27 := b7
  have n07 := (n05.trans n6).trans n7
  have ar7 := Ar.own (o6.grow n7)
  refine br_of (fun he => ?_) fun he => ?_
  · have he : (!(isNilV (errV (readC l).2))) = true := he
    rw [errV_nil] at he
    have he : (readC l).2 ≠ 0 := by simpa using he
    rcases readC_cases l with ⟨_, e0⟩ | ⟨e0, _⟩
    · rw [e0] at ar7 b7
      refine ldChk b7 (call_of (csame_ok ck0 ck0 da6 none dc6 0 h7 ar7 (Ar.nil _ _ _) (by decide)) ?_)
      rintro v h8 ⟨rfl, n8⟩
      exact ⟨sameC ck0 ck0, rfl, by rw [(sameC_iff _ _).2 rfl], n07.trans n8⟩
    · rw [e0] at he; exact (he rfl).elim
  · have he : (!(isNilV (errV (readC l).2))) = false := he
    rw [errV_nil] at he
    have he : (readC l).2 = 0 := by simpa using he
    obtain ⟨hr, ho, hb⟩ := of_read rb.byt he
    refine ldChk b7 (call_of (blocks_ok (readC l).1 da6 dc6 h7 ar7) ?_)
    rintro v h8 ⟨la8, lc8, rfl, rb8, n8⟩
    rw [hb] at rb8 ⊢
    refine ⟨((la8, l.length, lc8), errV 0), rfl, errV_if 0, br_t rfl (call_of (lsame_ok la8 a lc8 cc l l h8 rb8 (rb.new (n07.trans n8)) (by omega) fun b hb => by have := hb100 b hb; omega) ?_)⟩
    rintro v h' ⟨rfl, hh⟩; subst h'
    exact ⟨decide (l = l), rfl, by simp, n07.trans n8⟩
theorem alike_law (h : Heap) (v0 v1 : Value) (x y : ChkS.T) (r0 : ReadsV h ChkS v0 x) (r1 : ReadsV h ChkS v1 y) (hg : Laid h) :
    CallsH Tryd.prog 6 [v0, v1] h fun v h' => v = .bool true ∧ New h h' := by
  obtain ⟨da, dc, rfl, hd, hk⟩ := chk_in r0
  obtain ⟨ea, ec, rfl, he, hk'⟩ := chk_in r1
  generalize chkX x = c at hd hk ⊢
  generalize chkX y = d at he hk' ⊢
  refine fun_ok Geo.hm' Tryd.func6 (by kernel_rfl) (F6_eq c.num c.ses c.seq c.z c.p c.b da c.dir.length dc d.num d.ses d.seq d.z d.p d.b ea d.dir.length ec _ h) ?_
  unfold F6
  refine new_of fun h1 b1 n1 s1 => new_of fun h2 b2 n2 s2 => call_of (awake_ok h2 (hg.new (n1.trans n2))) ?_
  have b1 : Blk h1 h.size (chkA c da dc) 27 := b1
  have b2 : Blk h2 h1.size (chkA d ea ec) 27 := b2
  rintro v h3 ⟨rfl, n3⟩
  have n03 := (n1.trans n2).trans n3
  have b13 := (b1.new n2).new n3
  have b23 := b2.new n3
  refine ⟨true, rfl, br_f rfl (cut_q (ts := []) (fun _ h' => New h3 h' ∧ rightC c = true ∧ rightC d = true) ?_ ?_)⟩
  rotate_left
  · intro K hK
    refine ldChk b13 (call_of (own_ok c da dc h3) ?_)
    rintro v h4 ⟨rfl, n4⟩
    refine ⟨chkC c da dc, rfl, call_of (rright6_ok c da dc h4) ?_⟩
    rintro v h5 ⟨rfl, n5⟩
    refine ⟨rightC c, rfl, br_of (fun _ => ⟨rfl, (n03.trans n4).trans n5⟩) fun hr => ?_⟩
    refine ldChk ((b23.new n4).new n5) (call_of (own_ok d ea ec h5) ?_)
    rintro v h6 ⟨rfl, n6⟩
    refine ⟨chkC d ea ec, rfl, call_of (rright6_ok d ea ec h6) ?_⟩
    rintro v h7 ⟨rfl, n7⟩
    exact ⟨rightC d, rfl, br_of (fun _ => ⟨rfl, (((n03.trans n4).trans n5).trans n6).trans n7⟩) fun hr' => hK () _ ⟨((n4.trans n5).trans n6).trans n7, by simpa using hr, by simpa using hr'⟩⟩
  rintro _ h4 ⟨n4, hr, hr'⟩ _
  have n04 := n03.trans n4
  have b14 := b13.new n4
  have b24 := b23.new n4
  have hc0 : (blocksC c).2 = 0 := by rw [blocks_code]; exact hr
  have hd0 : (blocksC d).2 = 0 := by rw [blocks_code]; exact hr'
  obtain ⟨_, _, _, hbc, hdc⟩ := right_c hr
  obtain ⟨_, _, _, hbd, hdd⟩ := right_c hr'
  have htc : tabN c.b ≤ 16 := by unfold tabN; omega
  have htd : tabN d.b ≤ 16 := by unfold tabN; omega
  obtain ⟨hs1, hs2⟩ := blocks_short c
  refine ldChk b14 (call_of (blocks_ok c da dc h4 (hd.new n04)) ?_)
  rintro v h5 ⟨la, lc, rfl, rb5, n5⟩
  rw [hc0]
  refine ⟨((la, (blocksC c).1.length, lc), errV 0), rfl, ldChk (b24.new n5) (call_of (blocks_ok d ea ec h5 (he.new (n04.trans n5))) ?_)⟩
  rintro v h6 ⟨ma, mc, rfl, rb6, n6⟩
  rw [hd0]
  have n46 := n5.trans n6
  have n06 := n04.trans n46
  have b16 := b14.new n46
  have b26 := b24.new n46
  refine ⟨((ma, (blocksC d).1.length, mc), errV 0), rfl, errV_if 0, br_t rfl ⟨errV_if 0, br_t rfl (ldChk b16 (ldChk b26 (call_of (csame_ok c d da ea dc ec h6 (hd.new n06) (he.new n06) (by omega)) ?_)))⟩⟩
  rintro v h7 ⟨rfl, n7⟩
  have n07 := n06.trans n7
  refine ⟨sameC c d, rfl, call_of (lsame_ok la ma lc mc (blocksC c).1 (blocksC d).1 h7 ((rb5.new n6).new n7) (rb6.new n7) (by omega) fun b hb => by have := hs2 b hb; omega) ?_⟩
  rintro v h' ⟨rfl, hh⟩; subst h'
  have hcd : sameC c d = decide ((blocksC c).1 = (blocksC d).1) := by
    rw [Bool.eq_iff_iff, sameC_iff, decide_eq_true_iff, alike_c hk hr hk' hr']
  have hdcx : sameC c d = sameC d c := by
    rw [Bool.eq_iff_iff, sameC_iff, sameC_iff]; exact eq_comm
  have b17 := b16.new n7
  have b27 := b26.new n7
  refine ⟨_, rfl, br_t (by rw [hcd]; simp) (ldChk b17 (ldChk b27 (ldChk b27 (ldChk b17 (call_of (csame_ok c d da ea dc ec h7 (hd.new n07) (he.new n07) (by omega)) ?_)))))⟩
  rintro v h8 ⟨rfl, n8⟩
  have n08 := n07.trans n8
  refine ⟨sameC c d, rfl, asks7 (b17.new n8) (asks7 (b27.new n8) (call_of (csame_ok d c ea da ec dc h8 (he.new n08) (hd.new n08) (by omega)) ?_))⟩
  rintro v h9 ⟨rfl, n9⟩
  have n09 := n08.trans n9
  have b19 := (b17.new n8).new n9
  refine ⟨sameC d c, rfl, br_t (by rw [hdcx]; simp) (ldChk b19 (ldChk b19 (call_of (csame_ok c c da da dc dc h9 (hd.new n09) (hd.new n09) (by omega)) ?_)))⟩
  rintro v h10 ⟨rfl, n10⟩
  exact ⟨sameC c c, rfl, by rw [(sameC_iff c c).2 rfl], n09.trans n10⟩
end Go.Proofs.YthimfpkkdhpceaaDoor.Ck
