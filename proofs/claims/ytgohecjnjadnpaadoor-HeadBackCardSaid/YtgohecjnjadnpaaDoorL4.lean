/-
  What the laws of layer 4 (head) come to.
-/
import Derived.Test.YtgohecjnjadnpaaDoorWL4
import Derived.Test.YtgohecjnjadnpaaDoorR4
import Derived.Test.YtgohecjnjadnpaaDoorSame3
namespace Go.Proofs.YtgohecjnjadnpaaDoor.L4
open Go.Pl Go.Proofs.YtgohecjnjadnpaaDoor.W Go.Proofs.YtgohecjnjadnpaaDoor.Four Go.Proofs.YtgohecjnjadnpaaDoor.Byts Go.Proofs.YtgohecjnjadnpaaDoor.Adl Go.Proofs.YtgohecjnjadnpaaDoor.As Go.Proofs.YtgohecjnjadnpaaDoor.Head Go.Proofs.YtgohecjnjadnpaaDoor.R4
/- Plain laws. -/
theorem pageL_len (x : Hd) {bs : List Int} (h : bs.length = 16) : (pageL x bs).length = 33 := by simp [pageL, headL_len, four_len, h]
theorem pageL_byt {x : Hd} {bs : List Int} (hx : HdOk x) (hb : Byt bs) : Byt (pageL x bs) := ((headL_byt hx).app (four_byt _)).app hb
theorem pageL_take (x : Hd) (bs : List Int) : (pageL x bs).take 13 = headL x := by
  unfold pageL; rw [List.append_assoc, List.take_append_of_le_length (by rw [headL_len]; omega), List.take_of_length_le (by rw [headL_len]; omega)]
theorem pageL_drop (x : Hd) (bs : List Int) : (pageL x bs).drop 17 = bs := by
  unfold pageL
  have : (headL x ++ four (sumL (headL x ++ bs))).length = 17 := by rw [List.length_append, headL_len, four_len]
  rw [← this, List.drop_left]
theorem pageL_drop13 (x : Hd) (bs : List Int) : (pageL x bs).drop 13 = four (sumL (headL x ++ bs)) ++ bs := by
  unfold pageL
  rw [List.append_assoc, ← headL_len x, List.drop_left]
theorem pageL_sum (x : Hd) (bs : List Int) : wordAt (pageL x bs) 13 = sumL (headL x ++ bs) := by
  have := wordAt_drop (pageL x bs) 13 0
  rw [pageL_drop13, wordAt_four (sumL_range _)] at this
  rw [this]
theorem bys_headL (x : Hd) (bs : List Int) {i : Nat} (hi : i < 13) : bys (pageL x bs) i = bys (headL x) i := by
  rw [← bys_take (xs := pageL x bs) hi, pageL_take]
theorem hdOf_pageL {x : Hd} (hx : HdOk x) (bs : List Int) : hdOf (pageL x bs) = x := by
  obtain ⟨k, s, i, q⟩ := x
  obtain ⟨h0, h1, h2, h3⟩ := hx
  simp only [] at h0 h1 h2 h3
  have e0 : bys (pageL (k, s, i, q) bs) 0 = k := by rw [bys_headL _ _ (by omega)]; rfl
  have w : ∀ (j : Nat), j < 10 → wordAt (pageL (k, s, i, q) bs) j = wordAt (headL (k, s, i, q)) j := fun j hj => by
    simp only [wordAt, bys_headL _ _ (show j < 13 by omega), bys_headL _ _ (show j + 1 < 13 by omega), bys_headL _ _ (show j + 2 < 13 by omega), bys_headL _ _ (show j + 3 < 13 by omega)]
  have e1 : wordAt (pageL (k, s, i, q) bs) 1 = s := by rw [w 1 (by omega)]; exact back_four h1
  have e2 : wordAt (pageL (k, s, i, q) bs) 5 = i := by rw [w 5 (by omega)]; exact back_four h2
  have e3 : wordAt (pageL (k, s, i, q) bs) 9 = q := by rw [w 9 (by omega)]; exact back_four h3
  simp only [hdOf, e0, e1, e2, e3]
theorem read_page {x : Hd} (hx : HdOk x) {bs : List Int} (h : bs.length = 16) (hr : isR x = true) : readF (pageL x bs) = (x, bs, 0) := by
  unfold readF
  rw [if_neg (by rw [pageL_len x h]; omega), if_neg (by rw [pageL_take, pageL_drop, pageL_sum]; simp), if_neg (by rw [hdOf_pageL hx, hr]; simp), hdOf_pageL hx, pageL_drop]
theorem bytes_back {p : List Int} (hp : Byt p) (h : (readF p).2.2 = 0) : bytesF (readF p).1 (readF p).2.1 = (p, 0) := by
  unfold readF at h ⊢
  split at h
  · cases h
  rename_i hl
  have hl : p.length = 33 := Classical.not_not.1 hl
  rw [if_neg (by omega)]
  split at h
  · cases h
  rename_i hs
  have hs : sumL (p.take 13 ++ p.drop 17) = wordAt p 13 := Classical.not_not.1 hs
  rw [if_neg (by rw [hs]; simp)]
  split at h
  · cases h
  rename_i hr
  rw [if_neg hr]
  have hr : isR (hdOf p) = true := by cases e : isR (hdOf p) <;> simp_all
  have hd : (p.drop 17).length = 16 := by simp; omega
  simp only [bytesF, hr, hd]
  rw [if_neg (by simp), if_neg (by simp)]
  have eh : headL (hdOf p) = p.take 13 := by
    have f1 := four_wordAt hp (i := 1) (by omega)
    have f2 := four_wordAt hp (i := 5) (by omega)
    have f3 := four_wordAt hp (i := 9) (by omega)
    simp only [headL, hdOf, fours, List.map_cons, List.map_nil, List.flatten_cons, List.flatten_nil, List.append_nil, f1, f2, f3]
    apply List.ext_getElem?
    intro i
    cases i with
    | zero => rw [List.getElem?_cons_zero, List.getElem?_take, if_pos (by omega), List.getElem?_eq_getElem (by omega), bys_get (by omega)]
    | succ i =>
      rw [List.getElem?_cons_succ, List.getElem?_take]
      by_cases h4 : i < 4
      · rw [List.getElem?_append_left (by simp; omega), List.getElem?_take, if_pos h4, List.getElem?_drop, if_pos (by omega)]; congr 1; omega
      rw [List.getElem?_append_right (by simp; omega)]
      have e4 : ((p.drop 1).take 4).length = 4 := by simp; omega
      have e5 : ((p.drop 5).take 4).length = 4 := by simp; omega
      have e6 : ((p.drop 9).take 4).length = 4 := by simp; omega
      rw [e4]
      by_cases h8 : i < 8
      · rw [List.getElem?_append_left (by rw [e5]; omega), List.getElem?_take, if_pos (by omega), List.getElem?_drop, if_pos (by omega)]; congr 1; omega
      rw [List.getElem?_append_right (by rw [e5]; omega), e5, List.getElem?_take]
      by_cases h12 : i < 12
      · rw [if_pos (by omega), List.getElem?_drop, if_pos (by omega)]; congr 1; omega
      · rw [if_neg (by omega), if_neg (by omega)]
  have e : pageL (hdOf p) (p.drop 17) = p := by
    unfold pageL
    rw [eh, hs, four_wordAt hp (i := 13) (by omega), show p.drop 17 = (p.drop 13).drop 4 by rw [List.drop_drop], List.append_assoc, List.take_append_drop, List.take_append_drop]
  rw [e]
theorem sum_set {l : List Int} (hl : Byt l) {k : Nat} (hk : k < l.length) {c : Int} (hc : 0 ≤ c ∧ c < 256) (hne : l[k] ≠ c) : sumL (l.set k c) ≠ sumL l := by
  have e : l.take k ++ l[k] :: l.drop (k + 1) = l := by rw [List.getElem_cons_drop, List.take_append_drop]
  have e2 : l.set k c = l.take k ++ c :: l.drop (k + 1) := by rw [List.set_eq_take_append_cons_drop, if_pos hk]
  rw [e2]
  conv => rhs; rw [← e]
  exact sum_changed hc (hl _ (List.getElem_mem hk)) (Ne.symm hne)
theorem read_changed {x : Hd} (hx : HdOk x) {bs : List Int} (h : bs.length = 16) (hb : Byt bs) {at_ : Nat} (ha : at_ < 33) {c : Int} (hc : 0 ≤ c ∧ c < 256) (hne : bys (pageL x bs) at_ ≠ c) : readF ((pageL x bs).set at_ c) = ((0, 0, 0, 0), [], 4) := by
  have hl := pageL_len x h
  have hB := pageL_byt hx hb
  have hne' : (pageL x bs)[at_]'(by omega) ≠ c := by rw [← bys_get]; exact hne
  unfold readF
  rw [if_neg (by rw [List.length_set, hl]; omega), if_pos ?_]
  intro e
  by_cases h1 : at_ < 13
  · have e1 : ((pageL x bs).set at_ c).take 13 = (headL x).set at_ c := by rw [List.take_set, pageL_take]
    have e2 : ((pageL x bs).set at_ c).drop 17 = bs := by rw [List.drop_set, if_pos (by omega), pageL_drop]
    have e3 : wordAt ((pageL x bs).set at_ c) 13 = sumL (headL x ++ bs) := by
      rw [← pageL_sum x bs]
      have := wordAt_drop ((pageL x bs).set at_ c) 13 0
      rw [List.drop_set, if_pos (by omega), wordAt_drop] at this
      exact this.symm
    rw [e1, e2, e3, ← List.set_append_left _ _ (by rw [headL_len]; omega)] at e
    have hk : at_ < (headL x ++ bs).length := by rw [List.length_append, headL_len]; omega
    refine sum_set ((headL_byt hx).app hb) hk hc ?_ e
    intro e'
    apply hne'
    rw [← e', List.getElem_append_left (by rw [headL_len]; omega)]
    have : (pageL x bs)[at_]? = (headL x)[at_]? := by
      have : ((pageL x bs).take 13)[at_]? = (pageL x bs)[at_]? := List.getElem?_take_of_lt h1
      rw [← this, pageL_take]
    rw [List.getElem?_eq_getElem (by omega), List.getElem?_eq_getElem (by rw [headL_len]; omega)] at this
    exact Option.some.inj this
  · have e1 : ((pageL x bs).set at_ c).take 13 = headL x := by rw [List.take_set_of_le (by omega), pageL_take]
    by_cases h2 : at_ < 17
    · have e2 : ((pageL x bs).set at_ c).drop 17 = bs := by rw [List.drop_set, if_pos (by omega), pageL_drop]
      rw [e1, e2] at e
      have hb' : Byt ((pageL x bs).set at_ c) := fun y hy => by
        rcases List.mem_or_eq_of_mem_set hy with hy | rfl
        · exact hB y hy
        · exact hc
      have f := four_wordAt hb' (i := 13) (by rw [List.length_set]; omega)
      rw [← e, List.drop_set, if_neg (by omega), pageL_drop13] at f
      have g : (((four (sumL (headL x ++ bs)) ++ bs).set (at_ - 13) c).take 4)[at_ - 13]? = some c := by
        rw [List.getElem?_take_of_lt (by omega), List.getElem?_set_self (by rw [List.length_append, four_len]; omega)]
      rw [← f] at g
      apply hne'
      have : ((pageL x bs).drop 13)[at_ - 13]? = some c := by
        rw [pageL_drop13, List.getElem?_append_left (by rw [four_len]; omega)]; exact g
      rw [List.getElem?_drop, show 13 + (at_ - 13) = at_ by omega, List.getElem?_eq_getElem (by omega)] at this
      exact Option.some.inj this
    · have e2 : ((pageL x bs).set at_ c).drop 17 = bs.set (at_ - 17) c := by rw [List.drop_set, if_neg (by omega), pageL_drop]
      have e3 : wordAt ((pageL x bs).set at_ c) 13 = sumL (headL x ++ bs) := by
        rw [← pageL_sum x bs]
        have hbs : ∀ i, i < 17 → bys ((pageL x bs).set at_ c) i = bys (pageL x bs) i := fun i hi => by
          simp only [bys, List.getD_eq_getElem?_getD]; rw [List.getElem?_set_ne (by omega)]
        simp only [wordAt, hbs 13 (by omega), hbs (13 + 1) (by omega), hbs (13 + 2) (by omega), hbs (13 + 3) (by omega)]
      rw [e1, e2, e3] at e
      have e4 : headL x ++ bs.set (at_ - 17) c = (headL x ++ bs).set (at_ - 4) c := by
        rw [List.set_append_right _ _ (by rw [headL_len]; omega), headL_len, Nat.sub_sub]
      rw [e4] at e
      have hk : at_ - 4 < (headL x ++ bs).length := by rw [List.length_append, headL_len]; omega
      refine sum_set ((headL_byt hx).app hb) hk hc ?_ e
      intro e'
      apply hne'
      have h5 : (headL x ++ bs)[at_ - 4]? = (pageL x bs)[at_]? := by
        rw [List.getElem?_append_right (by rw [headL_len]; omega), headL_len, ← pageL_drop x bs, List.getElem?_drop]; congr 1; omega
      rw [List.getElem?_eq_getElem hk, List.getElem?_eq_getElem (by omega), e'] at h5
      exact (Option.some.inj h5).symm
theorem hd_eq (x y : Hd) : ∀ w, (Op.equal 24 (hdV x) (hdV y)).run Tryd.prog w = .ok (decide (x = y)) w := by
  intro w
  obtain ⟨x0, x1, x2, x3⟩ := x
  obtain ⟨y0, y1, y2, y3⟩ := y
  have hS : Tryd.prog.underlying 24 = some (.struct (Tryd.prog.fieldsOf 24)) := by kernel_rfl
  have hp : Tryd.prog.stoodInHeld 24 = false := by kernel_rfl
  have u3 := Tryd.underlying5
  have a3 := Tryd.isAgg5
  have z3 := Tryd.sizeOf5
  have u4 := Tryd.underlying22
  have a4 := Tryd.isAgg22
  have z4 := Tryd.sizeOf22
  show ((Op.equalIn (9999 + 1) 24 (.agg _) (.agg _)).run _ _) = _
  rw [run_equalIn_agg w 9999 24 _ _ hS hp]
  simp only [Program.fieldsOf, Tryd.underlying24]
  go_simp
  by_cases h1 : x0 = y0 <;> by_cases h2 : x1 = y1 <;> by_cases h3 : x2 = y2 <;> by_cases h4 : x3 = y3 <;> simp [h1, h2, h3, h4]
theorem hdR_eq (x y : Hd) : ∀ w, (Op.equal 34 (hdV x) (hdV y)).run Tryd.prog w = .ok (decide (x = y)) w := by
  intro w
  obtain ⟨x0, x1, x2, x3⟩ := x
  obtain ⟨y0, y1, y2, y3⟩ := y
  have hS : Tryd.prog.underlying 34 = some (.struct (Tryd.prog.fieldsOf 34)) := by kernel_rfl
  have hp : Tryd.prog.stoodInHeld 34 = false := by kernel_rfl
  have u3 := Tryd.underlying5
  have a3 := Tryd.isAgg5
  have z3 := Tryd.sizeOf5
  have u4 := Tryd.underlying22
  have a4 := Tryd.isAgg22
  have z4 := Tryd.sizeOf22
  show ((Op.equalIn (9999 + 1) 34 (.agg _) (.agg _)).run _ _) = _
  rw [run_equalIn_agg w 9999 34 _ _ hS hp]
  simp only [Program.fieldsOf, Tryd.underlying34]
  go_simp
  by_cases h1 : x0 = y0 <;> by_cases h2 : x1 = y1 <;> by_cases h3 : x2 = y2 <;> by_cases h4 : x3 = y3 <;> simp [h1, h2, h3, h4]
/- The laws. -/
theorem size8 : sizeN Tryd.prog 5 = 1 := by kernel_rfl
theorem zero8 : zeroC Tryd.prog 5 = #[.int .u8 0] := by kernel_rfl
theorem bytes8 : bytesN Tryd.prog 5 = 1 := by kernel_rfl
abbrev x0 : Hd := (1, 1, 2, 258)
def z16 : List Int := List.replicate 16 0
theorem z16_len : z16.length = 16 := List.length_replicate
theorem z16_arr : (z16.map (Value.int .u8)).toArray = Array.replicate 16 (Value.int .u8 0) := by simp only [z16, List.map_replicate, List.toArray_replicate]
theorem x0_ok : HdOk x0 := ⟨by decide, by decide, by decide, by decide⟩
theorem z16_byt : Byt z16 := fun x hx => by rw [List.eq_of_mem_replicate hx]; omega
theorem ldH {h : Heap} {b : Nat} {T : TypeId} {x : Hd} (bb : Blk h b (hdA x) T) {F : Int × Int × Int × Int → Prop} (hF : F x) : ldAggW [.int .u8, .int .u32, .int .u32, .int .u32] ⟨b, 0, none⟩ F h := ldAgg_blk x bb ⟨rfl, rfl, rfl, rfl, trivial⟩ hF
theorem awake_ok (h : Heap) (hg : Laid h) : CallsH Tryd.prog 14 [] h fun v h' => v = .bool true ∧ New h h' := by
  refine fun_ok hm' Tryd.func14 (by kernel_rfl) (F14_eq _ h) ?_
  unfold F14
  refine new_stL (by rw [zeroH]; rfl) fun h1 b1 n1 s1 => ?_
  have b1 : Blk h1 h.size (hdA x0) 24 := b1
  refine ldH b1 (mk_of (n := 16) size8 zero8 (by rw [bytes8]; omega) (by omega) fun h2 b2 n2 s2 => ?_)
  rw [← z16_arr] at b2
  have sz : Sl8 h2 (some ⟨h1.size, 0, none⟩) 16 z16 := ⟨Ar.blk b2, by rw [z16_len]; omega, by simp [maxLen], (fun e => by cases e), z16_byt⟩
  have hb := Head.bytes_ok x0 x0_ok (some ⟨h1.size, 0, none⟩) 16 z16 h2 sz
  rw [z16_len] at hb
  refine call_of hb ?_
  have eb : bytesF x0 z16 = (pageL x0 z16, 0) := by simp [bytesF, isR, z16_len]
  rw [eb]
  rintro v h3 ⟨a3, c3, rfl, g3, _⟩
  have hl : (pageL x0 z16).length = 33 := pageL_len x0 z16_len
  have hB := pageL_byt x0_ok z16_byt
  have n03 := (n1.trans n2).trans g3.new
  refine ⟨((a3, (pageL x0 z16).length, c3), errV 0), rfl, cut_q (ts := []) (fun _ h' => New h3 h') ?_ ?_⟩
  rotate_left
  · intro K hK
    refine call_of (code_err 0 h3 (hg.new n03)) ?_
    rintro v h4 ⟨rfl, n4⟩
    exact ⟨(0 : Int), rfl, br_f rfl (br_f (by rw [hl]; rfl) (hK () h4 n4))⟩
  rintro _ h4 n4 _
  have s4 : Sl8 h4 a3 c3 (pageL x0 z16) := (Sl8.got g3 hB).new n4
  refine call_of (Head.read_ok a3 c3 (pageL x0 z16) h4 s4) ?_
  rintro v h5 ⟨a5, c5, rfl, g5⟩
  rw [read_page x0_ok z16_len (by decide)] at g5 ⊢
  refine ⟨(x0, (a5, z16.length, c5), errV 0), rfl, new_stL (by rw [zeroH]; rfl) fun h6 b6 n6 s6 => ?_⟩
  have b6 : Blk h6 h5.size (hdA x0) 24 := b6
  have n46 := g5.new.trans n6
  have s6' := s4.new n46
  have hle := s4.le
  refine s6'.sl 1 33 c3 rfl (by rw [hl]) rfl (by omega) (by omega) (by omega) (Nat.le_refl _) fun b7 d7 s7 => ?_
  have e7 : ((pageL x0 z16).drop 1).take (33 - 1) = (pageL x0 z16).drop 1 := List.take_of_length_le (by simp [hl])
  rw [e7] at s7
  have l7 : ((pageL x0 z16).drop 1).length = 32 := by simp [hl]
  have hr := Head.read_ok b7 d7 _ h6 s7
  rw [l7] at hr
  refine call_of hr ?_
  rintro v h8 ⟨a8, c8, rfl, g8⟩
  have e8 : readF ((pageL x0 z16).drop 1) = ((0, 0, 0, 0), [], 3) := if_pos (by rw [l7]; omega)
  rw [e8]
  refine ⟨(((0, 0, 0, 0) : Hd), (a8, 0, c8), errV 3), rfl, new_stL (by rw [zeroH]; rfl) fun h9 b9 n9 s9 => ?_⟩
  have n69 := g8.new.trans n9
  refine (s6'.new n69).sl 0 13 c3 rfl rfl rfl (by omega) (by omega) (by omega) (Nat.le_refl _) fun b10 d10 s10 => ?_
  rw [List.drop_zero] at s10
  have e10 : (pageL x0 z16).take (13 - 0) = headL x0 := pageL_take x0 z16
  rw [e10] at s10
  refine new_of fun h11 b11 n11 s11 => ?_
  have n611 := n69.trans n11
  have n011 := ((n03.trans n4).trans n46).trans n611
  refine call_of (Same3.same_ok _ _ _ _ _ _ h11 (headL x0) [1, 1, 0, 0, 0, 2, 0, 0, 0, 2, 1, 0, 0] rfl rfl (show (13 : Nat) ≤ 9223372036854775806 by omega) (s10.ar.new n11) (Ar.blk b11)) ?_
  rintro v h' ⟨rfl, hh⟩; subst h'
  refine ⟨true, by rw [decide_eq_true (by decide)] <;> rfl, br_t rfl (ldH (b6.new n611) (ldH (b1.new ((((n2.trans g3.new).trans n4).trans n46).trans n611)) ⟨_, hd_eq x0 x0, br_t (by simp) (br_t (by rw [z16_len]; rfl) (call_of (code_err 0 h11 (hg.new n011)) ?_))⟩))⟩
  rintro v h12 ⟨rfl, n12⟩
  refine ⟨(0 : Int), rfl, br_t rfl (call_of (code_err 3 h12 (hg.new (n011.trans n12))) ?_)⟩
  rintro v h13 ⟨rfl, n13⟩
  refine ⟨(3 : Int), rfl, br_t rfl (ldH (b1.new ((((((n2.trans g3.new).trans n4).trans n46).trans n611).trans n12).trans n13)) (call_of (Head.right_ok x0 h13) ?_))⟩
  rintro v h14 ⟨rfl, n14⟩
  refine ⟨isR x0, rfl, br_t rfl (call_of (Head.right_ok (0, 0, 0, 0) h14) ?_)⟩
  rintro v h15 ⟨rfl, n15⟩
  exact ⟨isR (0, 0, 0, 0), rfl, rfl, (((n011.trans n12).trans n13).trans n14).trans n15⟩
abbrev HdS : Sh := .pair (.int .u8) (.pair (.int .u32) (.pair (.int .u32) (.int .u32)))
theorem hd_in {h : Heap} {v : Value} {x : Hd} (r : ReadsV h HdS v x) : v = hdV x ∧ HdOk x := by
  obtain ⟨cs, rfl, c1, d1, rfl, ⟨rfl, w1⟩, c2, d2, rfl, ⟨rfl, w2⟩, c3, d3, rfl, ⟨rfl, w3⟩, ⟨rfl, w4⟩⟩ := r
  exact ⟨rfl, u8_wf w1, u32_wf w2, u32_wf w3, u32_wf w4⟩
theorem tells_law (h : Heap) (v0 v1 v2 : Value) (x : Hd) (bs p : List Int) (r0 : ReadsV h HdS v0 x) (r1 : ReadsV h (.slice (.int .u8)) v1 bs) (r2 : ReadsV h (.slice (.int .u8)) v2 p) (hg : Laid h) :
    CallsH Tryd.prog 3 [v0, v1, v2] h fun v h' => v = .bool true ∧ New h h' := by
  obtain ⟨rfl, hx⟩ := hd_in r0
  obtain ⟨a, c, rfl, sb⟩ := Sl8.reads r1
  obtain ⟨b, d, rfl, sp⟩ := Sl8.reads r2
  refine fun_ok hm' Tryd.func3 (by kernel_rfl) (F3_eq x.1 x.2.1 x.2.2.1 x.2.2.2 a bs.length c b p.length d _ h) ?_
  unfold F3
  refine new_of fun h1 b1 n1 s1 => call_of (awake_ok h1 (hg.new n1)) ?_
  have b1 : Blk h1 h.size (hdA x) 24 := b1
  rintro v h2 ⟨rfl, n2⟩
  refine ⟨true, rfl, br_f rfl (cut_q (ts := []) (fun _ h' => h' = h2 ∧ bs.length ≤ 1000 ∧ p.length ≤ 1000) ?_ ?_)⟩
  rotate_left
  · intro K hK
    refine br_of (fun _ => ⟨rfl, n1.trans n2⟩) fun h0 => br_of (fun _ => ⟨rfl, n1.trans n2⟩) fun h1 => hK () _ ⟨rfl, ?_, ?_⟩
    · have := of_decide_eq_false h0; omega
    · have := of_decide_eq_false h1; omega
  rintro _ h' ⟨hh, hl1, hl2⟩ _; subst h'
  have n02 := n1.trans n2
  refine ldH (b1.new n2) (call_of (Head.bytes_ok x hx a c bs h2 (sb.new n02)) ?_)
  rintro v h3 ⟨a3, c3, rfl, g3, _⟩
  refine ⟨((a3, (bytesF x bs).1.length, c3), errV (bytesF x bs).2), rfl, ldH (b1.new (n2.trans g3.new)) (call_of (R4.bytes_ok x hx a c bs h3 (sb.new (n02.trans g3.new))) ?_)⟩
  rintro v h4 ⟨a4, c4, rfl, g4⟩
  have n04 := (n02.trans g3.new).trans g4.new
  refine ⟨((a4, (bytesF x bs).1.length, c4), (bytesF x bs).2), rfl, call_of (Head.read_ok b d p h4 (sp.new n04)) ?_⟩
  rintro v h5 ⟨a5, c5, rfl, g5⟩
  refine ⟨((readF p).1, (a5, (readF p).2.1.length, c5), errV (readF p).2.2), rfl, new_stL (by rw [zeroH]; rfl) fun h6 b6 n6 s6 => ?_⟩
  have b6 : Blk h6 h5.size (hdA (readF p).1) 24 := b6
  have n06 := (n04.trans g5.new).trans n6
  refine call_of (R4.read_ok b d p h6 (sp.new n06)) ?_
  rintro v h7 ⟨a7, c7, rfl, g7⟩
  refine ⟨((readF p).1, (a7, (readF p).2.1.length, c7), (readF p).2.2), rfl, new_stL (by rw [zeroR]; rfl) fun h8 b8 n8 s8 => ?_⟩
  have b8 : Blk h8 h7.size (hdA (readF p).1) 34 := b8
  have n78 := g7.new.trans n8
  have n08 := n06.trans n78
  have n38 : New h3 h8 := ((g4.new.trans g5.new).trans n6).trans n78
  have n48 : New h4 h8 := (g5.new.trans n6).trans n78
  have lb : (bytesF x bs).1.length ≤ 9223372036854775806 := by
    unfold bytesF; split
    · simp
    · split
      · simp
      · rename_i _ hl; have := pageL_len x (Classical.not_not.1 hl); simp only []; omega
  have lr : (readF p).2.1.length ≤ 9223372036854775806 := by
    unfold readF; split
    · simp
    · split
      · simp
      · split
        · simp
        · simp only [List.length_drop]; omega
  refine call_of (Same3.same_ok _ _ _ _ _ _ h8 (bytesF x bs).1 (bytesF x bs).1 rfl rfl lb (g3.ar.new n38) (g4.ar.new n48)) ?_
  rintro v h' ⟨rfl, hh⟩; subst h'
  refine ⟨true, by rw [decide_eq_true rfl]; rfl, br_t rfl (call_of (code_err (bytesF x bs).2 h8 (hg.new n08)) ?_)⟩
  rintro v h9 ⟨rfl, n9⟩
  refine ⟨(bytesF x bs).2, rfl, br_t (by simp) (ldH (b6.new (n78.trans n9)) (ldH (b8.new n9) ⟨_, hdR_eq (readF p).1 (readF p).1, br_t (by simp) (call_of (Same3.same_ok _ _ _ _ _ _ h9 (readF p).2.1 (readF p).2.1 rfl rfl lr (g5.ar.new ((n6.trans n78).trans n9)) (g7.ar.new (n8.trans n9))) ?_)⟩))⟩
  rintro v h' ⟨rfl, hh⟩; subst h'
  refine ⟨true, by rw [decide_eq_true rfl]; rfl, br_t rfl (call_of (code_err (readF p).2.2 h9 (hg.new (n08.trans n9))) ?_)⟩
  rintro v h10 ⟨rfl, n10⟩
  have n110 : New h1 h10 := ((n2.trans g3.new).trans n38).trans (n9.trans n10)
  refine ⟨(readF p).2.2, rfl, br_t (by simp) (ldH (b1.new n110) (ldH (b1.new n110) (call_of (Head.right_ok x h10) ?_)))⟩
  rintro v h11 ⟨rfl, n11⟩
  have b1' := b1.new (n110.trans n11)
  refine ⟨isR x, rfl, by simp only [add_mk, cellH_blk b1']; rfl, by simp only [add_mk, cellH_blk b1']; rfl, by simp only [add_mk, cellH_blk b1']; rfl, by simp only [add_mk, cellH_blk b1']; rfl, call_of (R4.right_ok x h11) ?_⟩
  rintro v h12 ⟨rfl, n12⟩
  exact ⟨isR x, rfl, by simp, n1.trans ((n110.trans n11).trans n12)⟩
theorem bytesF_cases (x : Hd) (bs : List Int) : ((bytesF x bs).2 = 0 ∧ isR x = true ∧ bs.length = 16 ∧ bytesF x bs = (pageL x bs, 0)) ∨ ((bytesF x bs).2 ≠ 0 ∧ (bytesF x bs).1 = [] ∧ ¬ (isR x = true ∧ bs.length = 16)) := by
  unfold bytesF
  split
  · rename_i h; exact .inr ⟨by simp, rfl, fun e => by rw [e.1] at h; cases h⟩
  · rename_i h
    split
    · rename_i h2; exact .inr ⟨by simp, rfl, fun e => h2 e.2⟩
    · rename_i h2; exact .inl ⟨rfl, by cases e : isR x <;> simp_all, Classical.not_not.1 h2, rfl⟩
theorem readF_bad {p : List Int} (h : (readF p).2.2 ≠ 0) : (readF p).1 = (0, 0, 0, 0) ∧ (readF p).2.1 = [] := by
  unfold readF at h ⊢
  split
  · exact ⟨rfl, rfl⟩
  · rename_i h1
    rw [if_neg h1] at h
    split
    · exact ⟨rfl, rfl⟩
    · rename_i h2
      rw [if_neg h2] at h
      split
      · exact ⟨rfl, rfl⟩
      · rename_i h3
        rw [if_neg h3] at h; exact (h rfl).elim
theorem back_law (h : Heap) (v0 v1 v2 : Value) (x : Hd) (bs p : List Int) (r0 : ReadsV h HdS v0 x) (r1 : ReadsV h (.slice (.int .u8)) v1 bs) (r2 : ReadsV h (.slice (.int .u8)) v2 p) (hg : Laid h) :
    CallsH Tryd.prog 4 [v0, v1, v2] h fun v h' => v = .bool true ∧ New h h' := by
  obtain ⟨rfl, hx⟩ := hd_in r0
  obtain ⟨a, c, rfl, sb⟩ := Sl8.reads r1
  obtain ⟨b, d, rfl, sp⟩ := Sl8.reads r2
  refine fun_ok hm' Tryd.func4 (by kernel_rfl) (F4_eq x.1 x.2.1 x.2.2.1 x.2.2.2 a bs.length c b p.length d _ h) ?_
  unfold F4
  refine new_of fun h1 b1 n1 s1 => call_of (awake_ok h1 (hg.new n1)) ?_
  have b1 : Blk h1 h.size (hdA x) 24 := b1
  rintro v h2 ⟨rfl, n2⟩
  refine ⟨true, rfl, br_f rfl (cut_q (ts := []) (fun _ h' => h' = h2 ∧ bs.length ≤ 1000 ∧ p.length ≤ 1000) ?_ ?_)⟩
  rotate_left
  · intro K hK
    refine br_of (fun _ => ⟨rfl, n1.trans n2⟩) fun h0 => br_of (fun _ => ⟨rfl, n1.trans n2⟩) fun h1 => hK () _ ⟨rfl, ?_, ?_⟩
    · have := of_decide_eq_false h0; omega
    · have := of_decide_eq_false h1; omega
  rintro _ h' ⟨hh, hl1, hl2⟩ _; subst h'
  have n02 := n1.trans n2
  refine ldH (b1.new n2) (call_of (Head.bytes_ok x hx a c bs h2 (sb.new n02)) ?_)
  rintro v h3 ⟨a3, c3, rfl, g3, _⟩
  have n13 := n2.trans g3.new
  have n03 := n1.trans n13
  refine ⟨((a3, (bytesF x bs).1.length, c3), errV (bytesF x bs).2), rfl, cut_q (ts := []) (fun _ h' => New h3 h') ?_ ?_⟩
  rotate_left
  · intro K hK
    refine ⟨errV_if _, ?_⟩
    rw [errV_nil]
    rcases bytesF_cases x bs with ⟨e0, hr, h16, ef⟩ | ⟨e0, ef, hno⟩
    · rw [ef] at g3 ⊢
      have hl := pageL_len x h16
      refine br_t rfl (call_of (Head.read_ok a3 c3 (pageL x bs) h3 (Sl8.got g3 (pageL_byt hx sb.byt))) ?_)
      rintro v h4 ⟨a4, c4, rfl, g4⟩
      rw [read_page hx h16 hr] at g4 ⊢
      refine ⟨(x, (a4, bs.length, c4), errV 0), rfl, new_stL (by rw [zeroH]; rfl) fun h5 b5 n5 s5 => ⟨errV_if 0, br_f rfl ?_⟩⟩
      have b5 : Blk h5 h4.size (hdA x) 24 := b5
      have n35 := g4.new.trans n5
      refine ldH b5 (ldH (b1.new (n13.trans n35)) ⟨_, hd_eq x x, br_f (by simp) (call_of (Same3.same_ok _ _ _ _ _ _ h5 bs bs rfl rfl (show bs.length ≤ 9223372036854775806 by omega) (g4.ar.new n5) (sb.ar.new (n03.trans n35))) ?_)⟩)
      rintro v h' ⟨rfl, hh⟩; subst h'
      exact ⟨true, by rw [decide_eq_true rfl] <;> rfl, br_f rfl (hK () _ n35)⟩
    · refine br_f (decide_eq_false e0) (ldH (b1.new n13) (call_of (Head.right_ok x h3) ?_))
      rintro v h4 ⟨rfl, n4⟩
      refine ⟨isR x, rfl, ?_⟩
      rw [ef]
      cases hr : isR x with
      | false => exact br_f rfl (br_f rfl (hK () _ n4))
      | true =>
        have h16 : bs.length ≠ 16 := fun e => hno ⟨hr, e⟩
        exact br_t rfl (br_f (by simp; omega) (br_f rfl (hK () _ n4)))
  rintro _ h4 n4 _
  have n04 := n03.trans n4
  refine call_of (Head.read_ok b d p h4 (sp.new n04)) ?_
  rintro v h5 ⟨a5, c5, rfl, g5⟩
  refine ⟨((readF p).1, (a5, (readF p).2.1.length, c5), errV (readF p).2.2), rfl, new_stL (by rw [zeroH]; rfl) fun h6 b6 n6 s6 => ⟨errV_if _, ?_⟩⟩
  have b6 : Blk h6 h5.size (hdA (readF p).1) 24 := b6
  have n06 := (n04.trans g5.new).trans n6
  rw [errV_nil]
  by_cases e0 : (readF p).2.2 = 0
  · have hb := bytes_back sp.byt e0
    refine br_f (by simp [e0]) (ldH b6 (call_of (Head.bytes_ok (readF p).1 (readF_ok sp.byt) a5 c5 (readF p).2.1 h6 ((Sl8.got g5 (readF_byt sp.byt)).new n6)) ?_))
    rintro v h7 ⟨a7, c7, rfl, g7, _⟩
    rw [hb] at g7 ⊢
    refine ⟨((a7, p.length, c7), errV 0), rfl, errV_if 0, br_t rfl (call_of (Same3.same_ok _ _ _ _ _ _ h7 p p rfl rfl (show p.length ≤ 9223372036854775806 by omega) g7.ar (sp.ar.new (n06.trans g7.new))) ?_)⟩
    rintro v h' ⟨rfl, hh⟩; subst h'
    exact ⟨true, by rw [decide_eq_true rfl] <;> rfl, rfl, n06.trans g7.new⟩
  · obtain ⟨r1, r2⟩ := readF_bad e0
    rw [r1] at b6; rw [r2]
    refine br_t (by simp [e0]) (cut_q (ts := [.sc .bool]) (fun (t : Bool) h' => t = true ∧ h' = h6) ?_ ?_)
    · rintro t h' ⟨rfl, hh⟩ _; subst h'
      exact ⟨rfl, n06⟩
    · intro K hK
      exact ldH b6 ⟨_, hd_eq (0, 0, 0, 0) (0, 0, 0, 0), br_t (by simp) (hK _ _ ⟨rfl, rfl⟩)⟩
theorem int_of {k : IntKind} {h : Heap} {v : Value} {n : Int} (r : ReadsV h (.int k) v n) : v = .int k n ∧ (Lit.int k n).wf = true := by
  obtain ⟨cs, hcs, e, w⟩ := r
  simp only at hcs; subst hcs; injection e with e
  exact ⟨e, w⟩
theorem changed_law (h : Heap) (v0 v1 v2 v3 : Value) (x : Hd) (bs : List Int) (at_ cc : Int) (r0 : ReadsV h HdS v0 x) (r1 : ReadsV h (.slice (.int .u8)) v1 bs) (r2 : ReadsV h (.int .i64) v2 at_) (r3 : ReadsV h (.int .u8) v3 cc) (hg : Laid h) :
    CallsH Tryd.prog 5 [v0, v1, v2, v3] h fun v h' => v = .bool true ∧ New h h' := by
  obtain ⟨rfl, hx⟩ := hd_in r0
  obtain ⟨a, c, rfl, sb⟩ := Sl8.reads r1
  obtain ⟨rfl, _⟩ := int_of r2
  obtain ⟨rfl, wc⟩ := int_of r3
  have hc := u8_wf wc
  refine fun_ok hm' Tryd.func5 (by kernel_rfl) (F5_eq x.1 x.2.1 x.2.2.1 x.2.2.2 a bs.length c at_ cc _ h) ?_
  unfold F5
  refine new_of fun h1 b1 n1 s1 => call_of (awake_ok h1 (hg.new n1)) ?_
  have b1 : Blk h1 h.size (hdA x) 24 := b1
  rintro v h2 ⟨rfl, n2⟩
  have n02 := n1.trans n2
  refine ⟨true, rfl, br_f rfl (ldH (b1.new n2) (call_of (Head.bytes_ok x hx a c bs h2 (sb.new n02)) ?_))⟩
  rintro v h3 ⟨a3, c3, rfl, g3, ow⟩
  have n13 := n2.trans g3.new
  have n03 := n1.trans n13
  refine ⟨((a3, (bytesF x bs).1.length, c3), errV (bytesF x bs).2), rfl, cut_q (ts := []) (fun _ h' => h' = h3 ∧ (bytesF x bs).2 = 0 ∧ ∃ i : Nat, at_ = i ∧ i < 33 ∧ bys (pageL x bs) i ≠ cc) ?_ ?_⟩
  rotate_left
  · intro K8 hK8
    refine cut_q (ts := [.sc .bool]) (fun (t : Bool) h' => h' = h3 ∧ (t = true ∨ (t = false ∧ (bytesF x bs).2 = 0 ∧ ∃ i : Nat, at_ = i ∧ i < 33 ∧ bys (pageL x bs) i ≠ cc))) ?_ ?_
    · rintro t h' ⟨hh, ht⟩ _; subst h'
      rcases ht with rfl | ⟨rfl, hq⟩
      · refine br_t rfl ⟨errV_if _, ?_⟩
        rw [errV_nil]
        rcases bytesF_cases x bs with ⟨e0, hr, h16, ef⟩ | ⟨e0, ef, hno⟩
        · exact br_t (decide_eq_true e0) ⟨rfl, n03⟩
        · refine br_f (decide_eq_false e0) (ldH (b1.new n13) (call_of (Head.right_ok x h3) ?_))
          rintro v h4 ⟨rfl, n4⟩
          refine ⟨isR x, rfl, ?_⟩
          cases hr : isR x with
          | false => exact br_t rfl ⟨rfl, n03.trans n4⟩
          | true =>
            have h16 : bs.length ≠ 16 := fun e => hno ⟨hr, e⟩
            exact br_f rfl ⟨by simp; omega, n03.trans n4⟩
      · exact br_f rfl (hK8 () _ ⟨rfl, hq⟩)
    · intro K9 hK9
      refine ⟨errV_if _, ?_⟩
      rw [errV_nil]
      rcases bytesF_cases x bs with ⟨e0, hr, h16, ef⟩ | ⟨e0, ef, hno⟩
      · have hl := pageL_len x h16
        rw [ef] at g3 ⊢
        dsimp only at g3 ⊢
        refine br_f (by simp) (br_of (fun _ => hK9 _ _ ⟨rfl, .inl rfl⟩) fun h4 => br_of (fun _ => hK9 _ _ ⟨rfl, .inl rfl⟩) fun h5 => ?_)
        have h4 := of_decide_eq_false h4; have h5 := of_decide_eq_false h5
        rw [hl] at h5
        obtain ⟨i, rfl⟩ := Int.eq_ofNat_of_zero_le (show 0 ≤ at_ by omega)
        refine (Sl8.got g3 (pageL_byt hx sb.byt)).at_ i rfl (by omega) (by omega) ?_
        by_cases he : bys (pageL x bs) i = cc
        · exact hK9 _ _ ⟨rfl, .inl (by simp [he])⟩
        · exact hK9 _ _ ⟨rfl, .inr ⟨by simp [he], e0, i, rfl, by omega, he⟩⟩
      · exact br_t (by simp [e0]) (hK9 _ _ ⟨rfl, .inl rfl⟩)
  rintro _ h' ⟨hh, e0, i, rfl, hi, hne⟩ _; subst h'
  rcases bytesF_cases x bs with ⟨_, hr, h16, ef⟩ | ⟨e0', _, _⟩
  rotate_left
  · exact (e0' e0).elim
  have hl := pageL_len x h16
  have hB := pageL_byt hx sb.byt
  have ow := ow e0
  rw [ef] at g3 ow ⊢
  rcases ow.row with ⟨_, ⟨_, h0, _⟩ | ⟨g, cur, rfl, _, bg, hnc, hcs, ht⟩⟩
  · rw [hl] at h0; cases h0
  have hge := g3.at_ (fun e => by simp only [] at e; rw [e] at hl; cases hl) g rfl
  simp only [hl] at hnc ht ⊢
  refine ptr_of ⟨⟨by omega, rfl⟩, ?_⟩
  rw [add_mk, Int.toNat_natCast, Nat.mul_one, Nat.zero_add]
  refine st_blk bg (by omega) fun h4 b4 o4 => ?_
  have n04 : New h h4 := o4.upd.new n03 (by have := n1.trans n2; have := this.size; omega)
  have hlen : ((pageL x bs).set i cc).length = 33 := by rw [List.length_set, hl]
  have hB' : Byt ((pageL x bs).set i cc) := fun y hy => by
    rcases List.mem_or_eq_of_mem_set hy with hy | rfl
    · exact hB y hy
    · exact hc
  have s4 : Sl8 h4 (some ⟨g, 0, none⟩) c3 ((pageL x bs).set i cc) := by
    refine ⟨Ar.blk' b4 fun j y hj => ?_, by rw [hlen]; exact hnc, g3.row.capMax, (fun e => by cases e), hB'⟩
    have hjl : j < 33 := by have := (List.getElem?_eq_some_iff.1 hj).1; omega
    rw [Array.getElem?_setIfInBounds]
    by_cases e : i = j
    · subst e
      rw [List.getElem?_set_self (by omega)] at hj
      obtain rfl := Option.some.inj hj
      rw [if_pos rfl, if_pos (by omega)]
    · rw [List.getElem?_set_ne e] at hj
      rw [if_neg e]
      have : (cur.toList.take (33 * 1))[j]? = some (.int .u8 y) := by rw [ht, List.getElem?_map, hj]; rfl
      rw [List.getElem?_take_of_lt (by omega)] at this
      simpa using this
  have hread := Head.read_ok (some ⟨g, 0, none⟩) c3 _ h4 s4
  rw [hlen] at hread
  refine call_of hread ?_
  rintro v h5 ⟨a5, c5, rfl, g5⟩
  rw [read_changed hx h16 sb.byt hi hc hne] at g5 ⊢
  refine ⟨(((0, 0, 0, 0) : Hd), (a5, 0, c5), errV 4), rfl, new_stL (by rw [zeroH]; rfl) fun h6 b6 n6 s6 => ?_⟩
  have b6 : Blk h6 h5.size (hdA (0, 0, 0, 0)) 24 := b6
  have n06 := (n04.trans g5.new).trans n6
  refine call_of (code_err 4 h6 (hg.new n06)) ?_
  rintro v h7 ⟨rfl, n7⟩
  exact ⟨(4 : Int), rfl, br_t rfl (ldH (b6.new n7) ⟨_, hd_eq (0, 0, 0, 0) (0, 0, 0, 0), br_t (by simp) ⟨rfl, n06.trans n7⟩⟩)⟩
end Go.Proofs.YtgohecjnjadnpaaDoor.L4
