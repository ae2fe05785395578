/-
  What ZnsAgain and ZnsApart of layer 7 come to.
-/
import Derived.Test.YtgohecjnjadnpaaDoorL7
namespace Go.Proofs.YtgohecjnjadnpaaDoor.L7B
open Go.Pl Go.Proofs.YtgohecjnjadnpaaDoor.W Go.Proofs.YtgohecjnjadnpaaDoor.Byts Go.Proofs.YtgohecjnjadnpaaDoor.As Go.Proofs.YtgohecjnjadnpaaDoor.Zns Go.Proofs.YtgohecjnjadnpaaDoor.L7A
theorem Grow.trans {h0 h h' : Heap} {r0 : Option Nat} {e : TypeId} {size n c n' c' : Nat} {a a' : Option Addr} {xs ys : List Value} (g : Grow h0 r0 h e size a n c xs) (g' : Grow h (blkOf a) h' e size a' n' c' ys) : Grow h0 r0 h' e size a' n' c' ys := by
  refine ⟨g'.row, ⟨Nat.le_trans g.upd.size g'.upd.size, fun k hk hr => ?_⟩, ?_⟩
  · refine (g'.upd.same k (Nat.lt_of_lt_of_le hk g.upd.size) fun e => ?_).trans (g.upd.same k hk hr)
    rcases g.at_ with h1 | ⟨b, h1, h2⟩
    · exact hr (by rw [e, h1])
    · rw [h1] at e; injection e with e; omega
  · rcases g'.at_ with h1 | ⟨b, h1, h2⟩
    · rw [h1]; exact g.at_
    · exact .inr ⟨b, h1, by have := g.upd.size; omega⟩
/- WHAT IS SEEN OF A ZONE. -/
/-- The pages of a zone, one behind the other, each behind its length. -/
def seenL (D : Dev) (n : Int) : Nat → List Int
  | 0 => []
  | p + 1 => seenL D n p ++ [((D.read n (p : Int)).1.length : Int)] ++ (D.read n (p : Int)).1
theorem seenL_len {D : Dev} (o : DevOk D) (n : Int) : ∀ p, (seenL D n p).length ≤ 34 * p
  | 0 => by simp [seenL]
  | p + 1 => by
    have := seenL_len o n p
    have := (read_len o n (p : Int)).1
    simp only [seenL, List.length_append, List.length_singleton]; omega
def seenF (D : Dev) (n : Int) : List Int := seenL D n (D.point n)
def nums (a b c : Int) : Value := .agg #[.int .i64 a, .int .i64 b, .int .i64 c]
theorem wru8' {n : Nat} (h : n < 256) : IntKind.wrap .u8 (n : Int) = (n : Int) := by rw [Four.wru8]; omega
theorem zero74 : (zeroC Tryd.prog 74).size = 3 := by kernel_rfl
theorem point_le {D : Dev} (o : DevOk D) (n : Int) : D.point n ≤ 16 := by
  have := (o.at_ n).most; have := o.pages; unfold Dev.point; omega
theorem seen_ok {k b : Nat} {t : Tags} {D : Dev} (o : DevOk D) (n : Int) (h : Heap) (r : PRep k t h b D) :
    CallsH Tryd.prog 39 [ptr b, .int .i64 n] h fun v h' => ∃ a c, v = .tuple #[.slice a (seenF D n).length c, nums (D.state n) (D.point n : Int) (D.sure n : Int)] ∧ Got .u8 5 h h' a c (seenF D n) := by
  refine fun_ok hm' Tryd.func39 (by kernel_rfl) (F39_eq _ _ _ h) ?_
  unfold F39
  refine new_of fun h1 b1 n1 s1 => call_of (ZnsP.point_ok n h1 (r.new n1)) ?_
  rintro v h2 ⟨rfl, n2⟩
  have n02 := n1.trans n2
  have hpl := point_le o n
  refine ⟨(D.point n : Int), rfl, ?_⟩
  refine ⟨fun (s : (Option Addr × Nat × Nat) × Int) h' => ∃ p : Nat, s.2 = p ∧ p ≤ D.point n ∧ s.1.2.1 = (seenL D n p).length ∧ (seenL D n p = [] → s.1.1 = none) ∧ Grow h2 none h' 5 1 s.1.1 s.1.2.1 s.1.2.2 ((seenL D n p).map (Value.int .u8)), fun (s : (Option Addr × Nat × Nat) × Int) _ => ((D.point n : Int) - s.2).toNat, ⟨0, rfl, Nat.zero_le _, rfl, fun _ => rfl, Grow.start (a := none) (RowS.nil h2 _ 1)⟩, ?_⟩
  rintro ⟨⟨a, m, c⟩, s⟩ j h3 ⟨p, hs, hp, hm, hno, g⟩
  simp only [] at hs hm hno g ⊢
  subst hs; subst hm
  have n23 : New h2 h3 := ⟨g.upd.size, fun x hx => g.upd.same x hx (by simp)⟩
  have n03 := n02.trans n23
  refine br_of (fun hlt => ?_) (fun hlt => ?_)
  · have hlt : p < D.point n := by have := of_decide_eq_true hlt; omega
    refine call_of (ZnsP.read_ok o n (p : Int) h3 (r.new n03)) ?_
    rintro v h4 ⟨a4, c4, rfl, g4⟩
    have hl := (read_len o n (p : Int)).1
    have hsl := seenL_len o n p
    refine ⟨((a4, (D.read n (p : Int)).1.length, c4), errV (D.read n (p : Int)).2), rfl, ?_⟩
    simp only []
    rw [wru8' (by omega)]
    have g34 := g.new g4.new
    refine Grow.push ap8 (Grow.start g34.row) rfl (by omega) (by omega) fun a5 c5 h5 q5 => ?_
    have e5 : ((seenL D n p).length + 1) = (seenL D n p ++ [((D.read n (p : Int)).1.length : Int)]).length := by simp
    have g5 : Grow h2 none h5 5 1 a5 (seenL D n p ++ [((D.read n (p : Int)).1.length : Int)]).length c5 ((seenL D n p ++ [((D.read n (p : Int)).1.length : Int)]).map (Value.int .u8)) := by
      rw [← e5, List.map_append]; exact Grow.trans g34 q5
    rw [e5]
    have r5 : Ar .u8 h5 a4 (D.read n (p : Int)).1 := fun i x hx => by
      obtain ⟨b', o', e', hb', hc'⟩ := g4.ar i x hx
      have hge := g4.at_ (fun e => by rw [e] at hx; simp at hx) b' (by rw [e']; rfl)
      refine ⟨b', o', e', Nat.lt_of_lt_of_le hb' q5.upd.size, ?_⟩
      rw [cellH_same (q5.upd.same b' hb' fun eb => ?_)]; exact hc'
      by_cases hne : seenL D n p = []
      · rw [hno hne] at eb; cases eb
      · have := g.row.lt (fun e => hne (List.map_eq_nil_iff.1 e)) b' eb.symm; omega
    refine Grow.ints ap8 g5 r5 rfl (by rw [← e5]; omega) (by omega) fun a6 c6 h6 g6 => ?_
    rw [wr64 (by omega) (by omega)]
    exact ⟨⟨p + 1, (by first | omega | (dsimp only; omega) | (simp only []; omega)), hlt, rfl, fun e => by simp [seenL] at e, g6⟩, (by first | omega | (dsimp only; omega) | (simp only []; omega))⟩
  · have hpe : p = D.point n := by have := of_decide_eq_false hlt; omega
    subst hpe
    refine call_of (ZnsP.state_ok n h3 (r.new n03)) ?_
    rintro v h4 ⟨rfl, n4⟩
    refine ⟨D.state n, rfl, call_of (ZnsP.point_ok n h4 (r.new (n03.trans n4))) ?_⟩
    rintro v h5 ⟨rfl, n5⟩
    refine ⟨(D.point n : Int), rfl, call_of (ZnsP.sure_ok n h5 (r.new ((n03.trans n4).trans n5))) ?_⟩
    rintro v h6 ⟨rfl, n6⟩
    have n36 := (n4.trans n5).trans n6
    refine ⟨(D.sure n : Int), rfl, ?_⟩
    have b6 := ((b1.new n2).new n23).new n36
    refine stL_blk b6 (by rw [zero74]; exact Nat.le_refl 3) fun h7 b7 o7 => ?_
    have b7 : Blk h7 h.size #[.int .i64 (D.state n), .int .i64 (D.point n : Int), .int .i64 (D.sure n : Int)] 74 := by rw [setsA_all (by rw [zero74]; rfl)] at b7; exact b7
    refine ldAgg_blk (D.state n, (D.point n : Int), (D.sure n : Int)) b7 ⟨rfl, rfl, rfl, trivial⟩ ⟨a, c, rfl, ?_⟩
    have gg : Got .u8 5 h2 h6 a c (seenF D n) := (g.new n36).got (New.refl h2) (fun b e => by cases e)
    have g0 := gg.before n02
    exact ⟨g0.row.keep (by rw [o7.size]; exact Nat.le_refl _) fun x hx hl => o7.same x fun e => by
      by_cases hne : seenF D n = []
      · rw [hno hne] at hx; cases hx
      · have := gg.at_ hne x hx; have := n2.size; omega, o7.upd.new g0.new (Nat.le_refl _), g0.at_⟩
theorem nums_eq (a b c a' b' c' : Int) : ∀ w, (Op.equal 74 (nums a b c) (nums a' b' c')).run Tryd.prog w = .ok (decide (a = a' ∧ b = b' ∧ c = c')) w := by
  intro w
  have hU : Tryd.prog.underlying 74 = some (.array 3 3) := by kernel_rfl
  have hI : (Tryd.prog.info? 3).isSome = true := by kernel_rfl
  obtain ⟨i, hi⟩ := Option.isSome_iff_exists.1 hI
  have hc : Tryd.prog.cellsOf 3 = 1 := by kernel_rfl
  have u3 := Tryd.underlying3
  have a3 := Tryd.isAgg3
  have z3 := Tryd.sizeOf3
  show ((Op.equalIn (9999 + 1) 74 (.agg _) (.agg _)).run _ _) = _
  rw [run_equalIn_array w 9999 _ _ hU hi, hc]
  show ((Op.eqItems 9999 3 1 _ _ [0, 1, 2]).run _ _) = _
  simp only [Op.eqItems]
  go_simp
  by_cases h1 : a = a' <;> by_cases h2 : b = b' <;> by_cases h3 : c = c' <;> simp [h1, h2, h3]
/- Plain laws: a crash behind a crash; what an act does with other zones. -/
theorem crash_twice (D : Dev) (k1 k2 : List Int) (t1 t2 : List Bool) : (D.crash k1 t1).crash k2 t2 = D.crash k1 t1 := by
  unfold Dev.crash
  simp only [Dev.mk.injEq, and_true]
  apply List.ext_getElem?
  intro j
  simp only [List.getElem?_mapIdx]
  cases D.zs[j]? with
  | none => rfl
  | some Z =>
    simp only [Option.map_some]
    congr 1
    have hz : (Z.crash k1 t1 j).sure = (Z.crash k1 t1 j).pages.length := rfl
    generalize Z.crash k1 t1 j = Y at hz
    have hst : Y.stay k2 j = Y.pages.length := by unfold Zn.stay; split <;> omega
    have ht : Y.torn k2 t2 j = false := by unfold Zn.torn; rw [hst]; simp
    unfold Zn.crash
    simp only [hst, ht, Bool.false_eq_true, if_false, List.append_nil, List.take_length]
    obtain ⟨p, s, f⟩ := Y
    simp only at hz
    rw [hz]
theorem read_zone {D E : Dev} (hd : D.down = E.down) (hP : D.P = E.P) (n : Int) (ht : D.there n = E.there n) (hp : (D.at_ n).pages = (E.at_ n).pages) (p : Int) : D.read n p = E.read n p := by
  unfold Dev.read; rw [hd, hP, ht, hp]
theorem seenL_zone {D E : Dev} (hd : D.down = E.down) (hP : D.P = E.P) (n : Int) (ht : D.there n = E.there n) (hp : (D.at_ n).pages = (E.at_ n).pages) : seenF D n = seenF E n := by
  unfold seenF
  have e : D.point n = E.point n := by unfold Dev.point; rw [hp]
  rw [e]
  have : ∀ i, seenL D n i = seenL E n i := by
    intro i
    induction i with
    | zero => rfl
    | succ i ih => simp only [seenL, ih, read_zone hd hP n ht hp]
  exact this _
/-- An act that is no crash leaves the pages of all zones but its own. -/
theorem act_apart (D : Dev) (x : L7A.Act) (h6 : x.op ≠ 6) (n : Nat) (hn : n < D.zs.length) (hne : (n : Int) ≠ x.zone) :
    (act D x).1.P = D.P ∧ (act D x).1.zs.length = D.zs.length ∧ ((act D x).1.at_ (n : Int)).pages = (D.at_ (n : Int)).pages := by
  have same : ∀ (E : Dev), E.zs = D.zs → E.P = D.P → E.P = D.P ∧ E.zs.length = D.zs.length ∧ (E.at_ (n : Int)).pages = (D.at_ (n : Int)).pages := fun E h1 h2 => ⟨h2, by rw [h1], by unfold Dev.at_ Dev.there; rw [h1]⟩
  have set : ∀ (E : Dev) (Z : Zn), E.zs = D.zs → E.P = D.P → D.there x.zone = true → (E.setZ x.zone Z).P = D.P ∧ (E.setZ x.zone Z).zs.length = D.zs.length ∧ ((E.setZ x.zone Z).at_ (n : Int)).pages = (D.at_ (n : Int)).pages := fun E Z h1 h2 ht => by
    obtain ⟨z, hz, hzl⟩ := there_nat ht
    have hzn : z ≠ n := fun e => hne (by rw [hz, e])
    refine ⟨h2, by simp [Dev.setZ, h1], ?_⟩
    have hl : n < (E.setZ x.zone Z).zs.length := by simp [Dev.setZ, h1]; exact hn
    rw [at_of hl, at_of hn]
    have : (E.setZ x.zone Z).zs[n] = D.zs[n] := by
      have h3 : (E.setZ x.zone Z).zs[n]? = D.zs[n]? := by
        simp only [Dev.setZ, hz, Int.toNat_natCast, h1]
        rw [List.getElem?_set_ne hzn]
      rw [List.getElem?_eq_getElem hl, List.getElem?_eq_getElem hn] at h3
      exact Option.some.inj h3
    rw [this]
  unfold act
  split
  · unfold Dev.append
    simp only []
    split
    · exact same _ (doing_zs ..) (doing_P ..)
    · rename_i h
      have hE := (doing_ok (Classical.not_not.1 h)).1
      refine set _ _ (doing_zs ..) (doing_P ..) ?_
      cases ht : D.there x.zone with
      | true => rfl
      | false => unfold Dev.appendE at hE; rw [if_pos (.inl ht)] at hE; cases hE
  split
  · exact same _ rfl rfl
  split
  · unfold Dev.reset
    simp only []
    split
    · exact same _ (doing_zs ..) (doing_P ..)
    · rename_i h
      have hE := (doing_ok (Classical.not_not.1 h)).1
      refine set _ _ (doing_zs ..) (doing_P ..) ?_
      cases ht : D.there x.zone with
      | true => rfl
      | false => unfold Dev.resetE at hE; rw [if_pos ht] at hE; cases hE
  split
  · unfold Dev.finish
    simp only []
    split
    · exact same _ (doing_zs ..) (doing_P ..)
    · rename_i h
      have hE := (doing_ok (Classical.not_not.1 h)).1
      refine set _ _ (doing_zs ..) (doing_P ..) ?_
      cases ht : D.there x.zone with
      | true => rfl
      | false => unfold Dev.finishE at hE; rw [if_pos ht] at hE; cases hE
  split
  · unfold Dev.flush
    simp only []
    split
    · exact same _ (doing_zs ..) (doing_P ..)
    · refine ⟨doing_P .., by simp [Dev.settle, doing_zs], ?_⟩
      have hl : n < (D.doing 0).1.settle.zs.length := by simp [Dev.settle, doing_zs]; exact hn
      rw [at_of hl, at_of hn]
      simp [Dev.settle, doing_zs, Zn.settle]
  split
  · exact same _ rfl rfl
  exact same _ rfl rfl
/- Acts that came in by themselves. -/
theorem act_arg {h : Heap} {v : Value} {x : ActT} (r : ReadsV h ActS v x) : ∃ ba bc ka kc ta tc, v = actV (actOf x) ba ka ta bc kc tc ∧ Reads h ActS (actA (actOf x) ba ka ta bc kc tc).toList x ∧ (x.2.2.2.1.length ≤ 1000 → ActIn h (actOf x) ba ka ta) := by
  obtain ⟨cs, e, r⟩ := r
  obtain ⟨ba, bc, ka, kc, ta, tc, rfl, hin⟩ := act_in r
  exact ⟨ba, bc, ka, kc, ta, tc, by rw [e]; rfl, r, hin⟩
theorem ActIn.new {h h' : Heap} {x : L7A.Act} {ba ka ta : Option Addr} (i : ActIn h x ba ka ta) (n : New h h') : ActIn h' x ba ka ta :=
  ⟨i.b.new n, i.keep.new n, fun j y hy => by
    obtain ⟨b, o, e, hb, hc⟩ := i.tear j y hy
    exact ⟨b, o, e, Nat.lt_of_lt_of_le hb n.size, by rw [cellH_same (n.same b hb)]; exact hc⟩, i.byt, i.page, i.kw, i.lb⟩
theorem one_at {h : Heap} {b : Nat} {es : List Value} {T : TypeId} {x : ActT} (bb : Blk h b es.toArray T) (hl : es.length = 6) (r : Reads h ActS es x) : SlAt h ActS (some ⟨b, 0, none⟩) [x] := fun i y hy => by
  have hi : i < 1 := (List.getElem?_eq_some_iff.1 hy).1
  have hi : i = 0 := by omega
  subst hi
  obtain rfl := Option.some.inj hy
  exact ⟨b, 0, es, rfl, bb.lt, hl, fun j _ => by rw [cellH_blk bb]; simp, r⟩
theorem two_at {h : Heap} {b : Nat} {es fs : List Value} {T : TypeId} {x y : ActT} (bb : Blk h b (es ++ fs).toArray T) (hl : es.length = 6) (hf : fs.length = 6) (r : Reads h ActS es x) (q : Reads h ActS fs y) : SlAt h ActS (some ⟨b, 0, none⟩) [x, y] := fun i z hz => by
  have hi : i < 2 := (List.getElem?_eq_some_iff.1 hz).1
  match i, hi with
  | 0, _ =>
    obtain rfl := Option.some.inj hz
    refine ⟨b, 0, es, rfl, bb.lt, hl, fun j hj => ?_, r⟩
    have hj : j < 6 := hj
    rw [cellH_blk bb]
    have : 0 + (0 * Sh.n ActS + j) = j := by omega
    rw [this, List.getElem?_toArray, List.getElem?_append_left (by omega)]
  | 1, _ =>
    obtain rfl := Option.some.inj hz
    refine ⟨b, 0, fs, rfl, bb.lt, hf, fun j hj => ?_, q⟩
    have hj : j < 6 := hj
    rw [cellH_blk bb]
    have : 0 + (1 * Sh.n ActS + j) = 6 + j := by show 0 + (1 * 6 + j) = 6 + j; omega
    rw [this, List.getElem?_toArray, List.getElem?_append_right (by omega), hl, Nat.add_sub_cancel_left]
theorem again_law (h00 : Heap) (v0 v1 v2 v3 v4 : Value) (zn pc : Int) (l : List ActT) (one two : ActT) (r0 : ReadsV h00 (.int .i64) v0 zn) (r1 : ReadsV h00 (.int .i64) v1 pc) (r2 : ReadsV h00 (.slice ActS) v2 l) (r3 : ReadsV h00 ActS v3 one) (r4 : ReadsV h00 ActS v4 two) (hg0 : Laid h00) :
    CallsH Tryd.prog 9 [v0, v1, v2, v3, v4] h00 fun v h' => v = .bool true ∧ New h00 h' := by
  obtain ⟨rfl⟩ : v0 = .int .i64 zn := by obtain ⟨cs, hcs, e, _⟩ := r0; simp only at hcs; subst hcs; injection e
  obtain ⟨rfl⟩ : v1 = .int .i64 pc := by obtain ⟨cs, hcs, e, _⟩ := r1; simp only at hcs; subst hcs; injection e
  obtain ⟨a, c, rfl, _, _, _, sl⟩ := SlAt.reads r2
  obtain ⟨ba1, bc1, ka1, kc1, ta1, tc1, rfl, rd1, in1⟩ := act_arg r3
  obtain ⟨ba2, bc2, ka2, kc2, ta2, tc2, rfl, rd2, in2⟩ := act_arg r4
  refine fun_ok hm' Tryd.func9 (by kernel_rfl) (F9_eq zn pc a l.length c _ _ _ _ _ _ _ _ _ _ _ _ _ _ _ _ _ _ _ _ _ _ _ _ _ h00) ?_
  unfold F9
  refine new_of fun h01 b01 n01 s01 => new_of fun h b02 n02 s02 => ?_
  have bo : Blk h h00.size (actA (actOf one) ba1 ka1 ta1 bc1 kc1 tc1) 56 := b01.new n02
  have bt : Blk h h01.size (actA (actOf two) ba2 ka2 ta2 bc2 kc2 tc2) 56 := b02
  have nb := n01.trans n02
  have hg := hg0.new nb
  have sl := sl.new nb
  have rd1 := rd1.new nb; have rd2 := rd2.new nb
  refine call_of (L7.awake_ok h hg) ?_
  rintro v h1 ⟨rfl, n1⟩
  refine ⟨true, rfl, br_f rfl ?_⟩
  by_cases hn : ¬ ((1 ≤ zn ∧ zn ≤ 24) ∧ 1 ≤ pc ∧ pc ≤ 16)
  · refine call_of (ZnsP.new_no zn pc h1 hn) ?_
    rintro v h' ⟨rfl, hh⟩; subst h'
    refine ⟨(none, errV 1), rfl, cut_q (ts := []) (fun _ _ => False) (fun _ _ hf _ => hf.elim) ?_⟩
    intro K hK
    exact br_t rfl ⟨rfl, nb.trans n1⟩
  have hn := Classical.not_not.1 hn
  obtain ⟨m, rfl⟩ := Int.eq_ofNat_of_zero_le (show 0 ≤ zn by omega)
  obtain ⟨pp, rfl⟩ := Int.eq_ofNat_of_zero_le (show 0 ≤ pc by omega)
  have bs1 : Bs h (fun _ => (0, 0)) h1 := (Bs.start hg).newer n1
  refine call_of (ZnsP.new_ok 1 (by decide) (fun _ => (0, 0)) m pp h1 (by omega) (by omega)) ?_
  rintro v h2 ⟨bp, rfl, n2, _, t2, ht2, rp2⟩
  have bs2 := bs1.tags n2 ht2
  have o0 : DevOk (Dev.empty m pp) := DevOk.empty (by omega) (by omega)
  refine ⟨(some ⟨bp, 0, none⟩, errV 0), rfl, cut_q (ts := []) (fun _ h' => New h2 h' ∧ isLarge l = false ∧ isLarge [one, two] = false) ?_ ?_⟩
  rotate_left
  · intro K hK
    refine br_f rfl (call_of (large_ok a c l h2 (sl.new bs2.new)) ?_)
    rintro v h3 ⟨rfl, n3⟩
    have n03 := (bs2.newer n3).new
    refine ⟨isLarge l, rfl, br_of (fun _ => ⟨rfl, nb.trans n03⟩) fun hl => ldAct (bo.new n03) (ldAct (bt.new n03) (new_of fun h4 b4 n4 s4 => ?_))⟩
    have n04 := n03.trans n4
    have b4 : Blk h4 h3.size ((actA (actOf one) ba1 ka1 ta1 bc1 kc1 tc1).toList ++ (actA (actOf two) ba2 ka2 ta2 bc2 kc2 tc2).toList).toArray 56 := b4
    refine call_of (large_ok (some ⟨h3.size, 0, none⟩) 2 [one, two] h4 (two_at b4 rfl rfl (rd1.new n04) (rd2.new n04))) ?_
    rintro v h5 ⟨rfl, n5⟩
    exact ⟨isLarge [one, two], rfl, br_of (fun _ => ⟨rfl, nb.trans (n04.trans n5)⟩) fun hl2 => hK () _ ⟨(n3.trans n4).trans n5, hl, hl2⟩⟩
  rintro _ h3 ⟨n3, hlg, hlg2⟩ _
  obtain ⟨hlen, hsm⟩ := notLarge hlg
  obtain ⟨_, hsm2⟩ := notLarge hlg2
  have in1 := ActIn.new (in1 (by have := (hsm2 one (by simp)).1; omega)) nb
  have in2 := ActIn.new (in2 (by have := (hsm2 two (by simp)).1; omega)) nb
  have bs3 := bs2.newer n3
  have rp3 := rp2.new n3
  refine ⟨fun (s : Int) h' => ∃ (i : Nat) (D : Dev) (t : Tags), s = i ∧ i ≤ l.length ∧ DevOk D ∧ Bs h t h' ∧ PRep 1 t h' bp D, fun (s : Int) _ => ((l.length : Int) - s).toNat, ⟨0, _, t2, rfl, Nat.zero_le _, o0, bs3, rp3⟩, ?_⟩
  rintro s j h4 ⟨i, D, t, rfl, hi, o, bs4, rp4⟩
  refine br_of (fun hlt => ?_) (fun hlt => ?_)
  · have hlt : i < l.length := by have := of_decide_eq_true hlt; omega
    obtain ⟨ba, bc, ka, kc, ta, tc, hin, ld⟩ := act_at sl bs4.new hlt
    have hin := hin (by have := (hsm _ (List.getElem_mem hlt)).1; omega)
    refine ld hlt (new_stL (by rw [zeroAct]; rfl) fun h5 b5 n5 s5 => ?_)
    have b5 : Blk h5 h4.size (actA (actOf l[i]) ba ka ta bc kc tc) 56 := b5
    refine ldAct b5 (call_of (do_ok o (actOf l[i]) ba ka ta bc kc tc h5 (bs4.newer n5) hin (rp4.new n5) (by decide)) ?_)
    rintro v h6 ⟨a6, c6, t6, rfl, rp6, f6, _⟩
    refine ⟨((act D (actOf l[i])).2.n, (act D (actOf l[i])).2.e, (a6, (act D (actOf l[i])).2.b.length, c6)), rfl, ?_⟩
    rw [wr64 (by omega) (by omega)]
    exact ⟨⟨i + 1, _, t6, rfl, hlt, DevOk.act o hin, (bs4.newer n5).own (by decide) f6, rp6⟩, (by first | omega | (dsimp only; omega) | (simp only []; omega))⟩
  have bo4 := bo.new bs4.new
  refine ld_of (c := .slice) (ka1, (actOf one).keep.length, kc1) (by rw [add_mk, cellH_blk bo4]; rfl) (ld_of (c := .slice) (ta1, (actOf one).tear.length, tc1) (by rw [add_mk, cellH_blk bo4]; rfl) (call_of (ZnsP.crash_ok o ka1 kc1 (actOf one).keep ta1 tc1 (actOf one).tear h4 rp4 (bs4.ins in1) in1.kw) ?_))
  rintro v h5 ⟨rfl, t5, rp5, f5⟩
  have bs5 := bs4.own (by decide) f5
  have oE := o.crash (actOf one).keep (actOf one).tear
  have tw : ∀ k2 t2, (D.crash (actOf one).keep (actOf one).tear).crash k2 t2 = D.crash (actOf one).keep (actOf one).tear := fun k2 t2 => crash_twice D _ k2 _ t2
  generalize D.crash (actOf one).keep (actOf one).tear = E at rp5 oE tw
  refine ⟨(), rfl, ?_⟩
  refine ⟨fun (s : Int) h' => ∃ (z : Nat) (t : Tags), s = z ∧ z ≤ m ∧ Bs h t h' ∧ PRep 1 t h' bp E, fun (s : Int) _ => ((m : Int) - s).toNat, ⟨0, t5, rfl, Nat.zero_le _, bs5, rp5⟩, ?_⟩
  rintro s j2 h6 ⟨z, t6, rfl, hz, bs6, rp6⟩
  refine br_of (fun hlt2 => ?_) (fun _ => ⟨rfl, nb.trans bs6.new⟩)
  have hlt2 : z < m := by have := of_decide_eq_true hlt2; omega
  refine call_of (seen_ok oE (z : Int) h6 rp6) ?_
  rintro v h7 ⟨a7, c7, rfl, g7⟩
  refine ⟨((a7, (seenF E (z : Int)).length, c7), (E.state (z : Int), (E.point (z : Int) : Int), (E.sure (z : Int) : Int))), rfl, new_stL (by rw [zero74]; rfl) fun h8 b8 n8 s8 => ?_⟩
  have b8 : Blk h8 h7.size #[.int .i64 (E.state (z : Int)), .int .i64 (E.point (z : Int) : Int), .int .i64 (E.sure (z : Int) : Int)] 74 := b8
  -- what was seen first is nobody's
  have f7 : Fr (fun p => p.1 ≠ 1) t6 h6 (lay t6 h6.size (0, 0)) h8 := Fr.lay (g7.new.trans n8) _
  have bs8 := bs6.own (by decide) f7
  have rp8 : PRep 1 (lay t6 h6.size (0, 0)) h8 bp E := ZnsP.PRep.lay rp6 (g7.new.trans n8)
  have im8 : Im .u8 (lay t6 h6.size (0, 0)) h8 a7 (seenF E (z : Int)) := (Im.got g7 (0, 0) rfl).new n8
  have tg8 : lay t6 h6.size (0, 0) h7.size = (0, 0) := lay_ge g7.new.size
  generalize lay t6 h6.size (0, 0) = t8 at bs8 rp8 im8 tg8
  have bt8 := bt.new bs8.new
  refine ld_of (c := .slice) (ka2, (actOf two).keep.length, kc2) (by rw [add_mk, cellH_blk bt8]; rfl) (ld_of (c := .slice) (ta2, (actOf two).tear.length, tc2) (by rw [add_mk, cellH_blk bt8]; rfl) (call_of (ZnsP.crash_ok oE ka2 kc2 (actOf two).keep ta2 tc2 (actOf two).tear h8 rp8 (bs8.ins in2) in2.kw) ?_))
  rintro v h9 ⟨rfl, t9, rp9, f9⟩
  rw [tw] at rp9
  have bs9 := bs8.own (by decide) f9
  have im9 := im8.fr f9 L7.own1
  have b9 := f9.blk b8 (by rw [tg8]; decide)
  refine ⟨(), rfl, call_of (seen_ok oE (z : Int) h9 rp9) ?_⟩
  rintro v h10 ⟨a10, c10, rfl, g10⟩
  refine ⟨((a10, (seenF E (z : Int)).length, c10), (E.state (z : Int), (E.point (z : Int) : Int), (E.sure (z : Int) : Int))), rfl, new_stL (by rw [zero74]; rfl) fun h11 b11 n11 s11 => ?_⟩
  have b11 : Blk h11 h10.size #[.int .i64 (E.state (z : Int)), .int .i64 (E.point (z : Int) : Int), .int .i64 (E.sure (z : Int) : Int)] 74 := b11
  have n911 := g10.new.trans n11
  have hsl : (seenF E (z : Int)).length ≤ 9223372036854775806 := by
    have := seenL_len oE (z : Int) (E.point (z : Int)); have := point_le oE (z : Int); unfold seenF; omega
  refine call_of (Same3.same_ok _ _ _ _ _ _ h11 (seenF E (z : Int)) (seenF E (z : Int)) rfl rfl hsl (im9.ar.new n911) (g10.ar.new n11)) ?_
  rintro v h' ⟨rfl, hh⟩; subst h'
  refine ⟨true, by rw [decide_eq_true rfl] <;> rfl, br_f rfl (ldAgg_blk (E.state (z : Int), (E.point (z : Int) : Int), (E.sure (z : Int) : Int)) (b9.new n911) ⟨rfl, rfl, rfl, trivial⟩ (ldAgg_blk (E.state (z : Int), (E.point (z : Int) : Int), (E.sure (z : Int) : Int)) b11 ⟨rfl, rfl, rfl, trivial⟩ ⟨_, nums_eq _ _ _ _ _ _, br_f (by simp) ?_⟩))⟩
  rw [wr64 (by omega) (by omega)]
  exact ⟨⟨z + 1, t9, rfl, hlt2, bs9.newer n911, rp9.new n911⟩, (by first | omega | (dsimp only; omega) | (simp only []; omega))⟩
end Go.Proofs.YtgohecjnjadnpaaDoor.L7B
