/-
  ValidDoes of layer 11: what is told of a zone, and the law.
-/
import Derived.Test.YticppjmldlhbiaaDoorR11S
import Derived.Test.YticppjmldlhbiaaDoorWL11
import Derived.Test.YticppjmldlhbiaaDoorAs
namespace Go.Proofs.YticppjmldlhbiaaDoor.L11
open Go.Pl Go.Proofs.YticppjmldlhbiaaDoor.W Go.Proofs.YticppjmldlhbiaaDoor.Geo Go.Proofs.YticppjmldlhbiaaDoor.Valid Go.Proofs.YticppjmldlhbiaaDoor.R11
open Go.Proofs.YticppjmldlhbiaaDoor.As hiding hm'
theorem pop_nought : ∀ m, Ones.popN 0 m = 0
  | 0 => rfl
  | m + 1 => by simp only [Ones.popN, Nat.zero_testBit, pop_nought m]; rfl
theorem pop_zero {x p : Nat} (hx : x < 2 ^ p) : Ones.popN x p = 0 ↔ x = 0 := by
  constructor
  · intro h
    apply Nat.eq_of_testBit_eq
    intro i
    rw [Nat.zero_testBit]
    by_cases hi : i < p
    · cases hb : x.testBit i with
      | false => rfl
      | true =>
        have key : ∀ n, i < n → 1 ≤ Ones.popN x n := by
          intro n
          induction n with
          | zero => intro h; omega
          | succ n ih =>
            intro h
            simp only [Ones.popN]
            by_cases e : i = n
            · subst e; rw [hb]; simp
            · have := ih (by omega); omega
        have := key p hi; omega
    · exact Nat.testBit_lt_two_pow (Nat.lt_of_lt_of_le hx (Nat.pow_le_pow_right (by omega) (by omega)))
  · rintro rfl
    exact pop_nought p
theorem bare_iff {z p : Nat} {W : Nat → Nat} {i : Nat} (hz : 11 ≤ z ∧ z ≤ 24) (hp : 4 ≤ p ∧ p ≤ 16) (h1 : i < z - 2) (hw : W i < 2 ^ p) : (ofL z p W i p).length = 0 ↔ W i = 0 := by
  rw [ofL_pop hz hp h1 p (Nat.le_refl _)]; exact pop_zero hw
theorem of_out {z p : Nat} {W : Nat → Nat} {zone : Int} (h : ¬ (0 ≤ zone ∧ zone < ((z - 2 : Nat) : Int))) (hz : 11 ≤ z ∧ z ≤ 24) : ∀ n, ofL z p W zone n = []
  | 0 => rfl
  | n + 1 => by
    rw [ofL_succ, of_out h hz n]
    have : ofF z p zone (n : Int) = 0 := by unfold ofF; rw [if_neg (by omega)]
    rw [this, live_lt]; rfl
theorem cnt_of {z p : Nat} {W : Nat → Nat} (hz : 11 ≤ z ∧ z ≤ 24) (hp : 4 ≤ p ∧ p ≤ 16) (hW : ∀ i, i < z - 2 → W i < 2 ^ p) (zone : Int) : cntW z W zone = (ofL z p W zone p).length := by
  by_cases h : 0 ≤ zone ∧ zone < ((z - 2 : Nat) : Int)
  · obtain ⟨n, rfl⟩ := Int.eq_ofNat_of_zero_le h.1
    exact (ofL_cnt hz hp (by omega) (hW n (by omega))).symm
  · rw [of_out h hz p]; unfold cntW; rw [if_neg h]; rfl
theorem rofl_ok {c q z p B : Nat} {L : List Int} {W : Nat → Nat} (rel : Rel z p W L) (zone : Int) (h : Heap) (r : RAt h c q z p B L) (hz : 11 ≤ z ∧ z ≤ 24) (hp : 4 ≤ p ∧ p ≤ 16) :
    CallsH Tryd.prog 17 [.pointer (some ⟨c, 0, none⟩), .int .i64 zone] h fun v h' => ∃ a d, v = .slice a (ofL z p W zone p).length d ∧ Got .u32 25 h h' a d (ofL z p W zone p) := by
  refine fun_ok hm' Tryd.func17 (by kernel_rfl) (F17_eq _ _ _ h) ?_
  unfold F17
  obtain ⟨⟨b, d, T, hb, _, _⟩, _, _⟩ := id r
  refine new_of fun h1 b1 n1 s1 => ?_
  have hr0 : ∀ b : Nat, blkOf (some (⟨h.size, 0, none⟩ : Addr)) = some b → h.size ≤ b := fun b e => by injection e with e; change h.size = b at e; omega
  refine ⟨fun (s : (Option Addr × Nat × Nat) × Int) h' => ∃ i : Nat, s.2 = i ∧ i ≤ p ∧ s.1.2.1 = (ofL z p W zone i).length ∧ Grow h1 (blkOf (some (⟨h.size, 0, none⟩ : Addr))) h' 25 1 s.1.1 s.1.2.1 s.1.2.2 ((ofL z p W zone i).map (Value.int .u32)),
    fun (s : (Option Addr × Nat × Nat) × Int) _ => ((p : Int) - s.2).toNat, ⟨0, rfl, by omega, rfl, Grow.start (RowS.nil' h1 _ 1 (some ⟨h.size, 0, none⟩))⟩, ?_⟩
  rintro ⟨⟨oa, on, oc⟩, s⟩ j h2 ⟨i, hs, hi, hon, g2⟩
  simp only [] at hs hon g2
  subst hs; subst hon
  have got2 := g2.got n1 hr0
  have hb2 := hb.new got2.new
  have hfl := ofL_len z p W zone i
  refine ld_of (c := .int .i64) (p : Int) (by rw [add_mk, add_mk, cellH_blk hb2]; rfl) (br_of (fun hlt => ?_) (fun hlt => ?_))
  · have hlt : (i : Int) < (p : Int) := of_decide_eq_true hlt
    refine ⟨((z : Int), (p : Int), (B : Int)), ⟨by rw [add_mk, add_mk, cellH_blk hb2]; rfl, by rw [add_mk, add_mk, cellH_blk hb2]; rfl, by rw [add_mk, add_mk, cellH_blk hb2]; rfl, trivial⟩, call_of (rof_ok z p B zone (i : Int) h2 (by omega) (by omega)) ?_⟩
    rintro v h3 ⟨rfl, n3⟩
    have g3 := g2.new n3
    have es := ofL_succ z p W zone i
    have hrg := (ofF_range hz hp zone (i : Int)).1
    generalize ofF z p zone (i : Int) = x at es hrg
    refine ⟨x, rfl, cut_q (ts := [.sc .bool]) (fun (s : Bool) h' => h' = h3 ∧ s = liveB z p W x) ?_ ?_⟩
    rotate_left
    · intro K hK
      refine br_of (fun h0 => ?_) fun h0 => hK _ _ ⟨rfl, ?_⟩
      · refine call_of (rlive_ok x h3 (r.new (got2.new.trans n3))) ?_
        rintro v h' ⟨rfl, hh⟩; subst h'
        exact ⟨decide (x ∈ L), rfl, hK _ _ ⟨rfl, (rel.live x hrg).symm⟩⟩
      · have h0 : x = 0 := by simpa using h0
        rw [h0, live_lt]
    rintro s h' ⟨hh, hs⟩ _; subst h'
    have hs : s = liveB z p W x := hs
    refine br_of (fun hl => ?_) fun hl => ?_
    · rw [hs] at hl
      rw [if_pos hl] at es
      refine Grow.push ap38 (v := .int .u32 x) g3 rfl (by omega) (by omega) fun a4 c4 h4 g4 => ?_
      rw [wr64 (by omega) (by omega)]
      refine ⟨⟨i + 1, rfl, by omega, by rw [es, List.length_append]; rfl, ?_⟩, (by first | omega | (dsimp only; omega) | (simp only []; omega))⟩
      rw [es, List.map_append]; exact g4
    · rw [hs] at hl
      rw [if_neg (by rw [hl]; simp), List.append_nil] at es
      rw [wr64 (by omega) (by omega)]
      refine ⟨⟨i + 1, rfl, by omega, by rw [es], ?_⟩, (by first | omega | (dsimp only; omega) | (simp only []; omega))⟩
      rw [es]; exact g3
  · have hlt : ¬ (i : Int) < (p : Int) := of_decide_eq_false hlt
    have : i = p := by omega
    subst this
    exact ⟨oa, oc, rfl, got2⟩
theorem rbare_ok {c q z p B : Nat} {L : List Int} {W : Nat → Nat} (rel : Rel z p W L) (hW : ∀ i, i < z - 2 → W i < 2 ^ p) (h : Heap) (r : RAt h c q z p B L) (hz : 11 ≤ z ∧ z ≤ 24) (hp : 4 ≤ p ∧ p ≤ 16) :
    CallsH Tryd.prog 22 [.pointer (some ⟨c, 0, none⟩)] h fun v h' => ∃ a d, v = .slice a (bareL W (z - 2)).length d ∧ Got .i64 3 h h' a d (bareL W (z - 2)) := by
  refine fun_ok hm' Tryd.func22 (by kernel_rfl) (F22_eq _ _ h) ?_
  unfold F22
  obtain ⟨⟨b, d, T, hb, _, _⟩, _, _⟩ := id r
  refine new_of fun h1 b1 n1 s1 => ?_
  have ez : IntKind.wrap .i64 ((z : Int) - 2) = ((z - 2 : Nat) : Int) := by rw [wr64 (by omega) (by omega)]; omega
  have hr0 : ∀ b : Nat, blkOf (some (⟨h.size, 0, none⟩ : Addr)) = some b → h.size ≤ b := fun b e => by injection e with e; change h.size = b at e; omega
  refine ⟨fun (s : (Option Addr × Nat × Nat) × Int) h' => ∃ i : Nat, s.2 = i ∧ i ≤ z - 2 ∧ s.1.2.1 = (bareL W i).length ∧ Grow h1 (blkOf (some (⟨h.size, 0, none⟩ : Addr))) h' 3 1 s.1.1 s.1.2.1 s.1.2.2 ((bareL W i).map (Value.int .i64)),
    fun (s : (Option Addr × Nat × Nat) × Int) _ => (((z - 2 : Nat) : Int) - s.2).toNat, ⟨0, rfl, by omega, rfl, Grow.start (RowS.nil' h1 _ 1 (some ⟨h.size, 0, none⟩))⟩, ?_⟩
  rintro ⟨⟨oa, on, oc⟩, s⟩ j h2 ⟨i, hs, hi, hon, g2⟩
  simp only [] at hs hon g2
  subst hs; subst hon
  have got2 := g2.got n1 hr0
  have hb2 := hb.new got2.new
  have hfl := bareL_len W i
  refine ld_of (c := .int .i64) (z : Int) (by rw [add_mk, add_mk, cellH_blk hb2]; rfl) ?_
  rw [ez]
  refine br_of (fun hlt => ?_) (fun hlt => ?_)
  · have hlt : (i : Int) < ((z - 2 : Nat) : Int) := of_decide_eq_true hlt
    refine call_of (rofl_ok rel (i : Int) h2 (r.new got2.new) hz hp) ?_
    rintro v h3 ⟨a3, d3, rfl, q3⟩
    have g3 := g2.new q3.new
    have es := bareL_succ W i
    have hbi := bare_iff (W := W) hz hp (show i < z - 2 by omega) (hW i (by omega))
    refine ⟨(a3, (ofL z p W (i : Int) p).length, d3), rfl, br_of (fun hl => ?_) fun hl => ?_⟩
    · have hl : (((ofL z p W (i : Int) p).length : Nat) : Int) = 0 := by simpa using hl
      rw [if_pos (hbi.1 (by omega))] at es
      refine Grow.push ap36 (v := .int .i64 (i : Int)) g3 rfl (by omega) (by omega) fun a4 c4 h4 g4 => ?_
      rw [wr64 (by omega) (by omega)]
      refine ⟨⟨i + 1, rfl, by omega, by rw [es, List.length_append]; rfl, ?_⟩, (by first | omega | (dsimp only; omega) | (simp only []; omega))⟩
      rw [es, List.map_append]; exact g4
    · have hl : (((ofL z p W (i : Int) p).length : Nat) : Int) ≠ 0 := by simpa using hl
      rw [if_neg (fun e => hl (by rw [hbi.2 e]; rfl)), List.append_nil] at es
      rw [wr64 (by omega) (by omega)]
      refine ⟨⟨i + 1, rfl, by omega, by rw [es], ?_⟩, (by first | omega | (dsimp only; omega) | (simp only []; omega))⟩
      rw [es]; exact g3
  · have hlt : ¬ (i : Int) < ((z - 2 : Nat) : Int) := of_decide_eq_false hlt
    have : i = z - 2 := by omega
    subst this
    exact ⟨oa, oc, rfl, got2⟩
theorem pnew_no (z p B : Int) (h : Heap) (hr : rightB z p B = false) :
    CallsH Tryd.prog 6 [.agg #[.int .i64 z, .int .i64 p, .int .i64 B]] h fun v h' => v = .tuple #[.pointer none, errV 1] ∧ New h h' := by
  refine fun_ok hm' Tryd.func6 (by kernel_rfl) (F6_eq _ _ _ _ h) ?_
  unfold F6
  refine new_of fun h2 b2 n2 s2 => ?_
  refine ⟨(z, p, B), ⟨by rw [add_mk, cellH_blk b2]; rfl, by rw [add_mk, cellH_blk b2]; rfl, by rw [add_mk, cellH_blk b2]; rfl, trivial⟩, ?_⟩
  refine call_of (right_ok z p B h2) ?_
  rintro v h3 ⟨rfl, n3⟩
  exact ⟨rightB z p B, rfl, br_t (by rw [hr]; rfl) ⟨rfl, n2.trans n3⟩⟩
abbrev AcS : Sh := .pair (.int .i64) (.int .u32)
theorem two_ld {h0 h : Heap} {a : Option Addr} {l : List (Int × Int)} (r : SlAt h0 AcS a l) (n : New h0 h) {i : Nat} (hi : i < l.length) : 0 ≤ l[i].2 ∧ l[i].2 < 4294967296 ∧
    ∀ {m : Nat} {F : Int × Int → Prop}, i < m → F (l[i].1, l[i].2) → ptrW a (fun p => idxW (i : Int) m true (ldAggW [.int .i64, .int .u32] (Addr.add p (Int.toNat (i : Int) * 2)) F h)) := by
  obtain ⟨b, o, es, rfl, hb, hel, hc, c1, c2, rfl, ⟨rfl, _⟩, ⟨rfl, w2⟩⟩ := r i _ (List.getElem?_eq_getElem hi)
  have w2 : (Lit.int .u32 l[i].2).wf = true := w2
  simp [Lit.wf, IntKind.min, IntKind.max, IntKind.bits, IntKind.signed] at w2
  refine ⟨by omega, by omega, fun hm hF => ?_⟩
  exact agg_at (k := 2) ((l[i].1, l[i].2) : Int × Int) (es := [.int .i64 l[i].1, .int .u32 l[i].2]) (fun j hj => by rw [cellH_same (n.same b hb)]; exact hc j hj) rfl rfl hm hF
theorem VAt.updc {h h' : Heap} {b q z p B c : Nat} {W : Nat → Nat} (v : VAt h b q z p B W) (n : Upd c h h') (h1 : b ≠ c) (h2 : q ≠ c) : VAt h' b q z p B W := by
  obtain ⟨⟨T, hd⟩, ⟨arr, T', hb, r⟩, r2, r3, r4, r5⟩ := v
  exact ⟨⟨T, hd.upd n h1⟩, ⟨arr, T', hb.upd n h2, r⟩, r2, r3, r4, r5⟩
theorem zeroA : (zeroC Tryd.prog 39).size = 2 := by kernel_rfl
theorem ar_p {k : IntKind} {h : Heap} {a : Option Addr} {xs : List Int} (r : Ar k h a xs) : ∀ i x, xs[i]? = some x → ∃ p, a = some p ∧ cellH h (p.add i) = some (.int k x) := fun i x hx => by
  obtain ⟨b, o, e, _, hc⟩ := r i x hx
  exact ⟨_, e, by rw [add_mk]; exact hc⟩
/-- Both sets, and what they tell. -/
structure Two (h0 h : Heap) (b q c z p B : Nat) (W : Nat → Nat) (L : List Int) : Prop where
  va : At h0 h b q z p B W
  ra : RAt h c q z p B L
  rel : Rel z p W L
theorem Two.new {h0 h h' : Heap} {b q c z p B : Nat} {W : Nat → Nat} {L : List Int} (t : Two h0 h b q c z p B W L) (n : New h h') : Two h0 h' b q c z p B W L := ⟨t.va.to n, t.ra.new n, t.rel⟩
theorem does_law (h00 : Heap) (v0 v1 v2 v3 : Value) (g : Int × Int × Int) (l : List (Int × Int)) (a zone : Int) (r0 : ReadsV h00 (.pair (.int .i64) (.pair (.int .i64) (.int .i64))) v0 g) (r1 : ReadsV h00 (.slice AcS) v1 l) (r2 : ReadsV h00 (.int .u32) v2 a) (r3 : ReadsV h00 (.int .i64) v3 zone) (hg0 : Laid h00) :
    CallsH Tryd.prog 3 [v0, v1, v2, v3] h00 fun v h' => v = .bool true ∧ New h00 h' := by
  obtain ⟨z, p, B⟩ := g
  obtain ⟨rfl⟩ : v0 = .agg #[.int .i64 z, .int .i64 p, .int .i64 B] := by
    obtain ⟨cs, hcs, c1, d1, rfl, ⟨rfl, _⟩, c2, d2, rfl, ⟨rfl, _⟩, ⟨rfl, _⟩⟩ := r0
    exact hcs
  obtain ⟨ha, rfl⟩ : (0 ≤ a ∧ a < 4294967296) ∧ v2 = .int .u32 a := by
    obtain ⟨cs, hcs, e, w⟩ := r2; simp only at hcs; subst hcs; injection e with e
    have w : (Lit.int .u32 a).wf = true := w
    simp [Lit.wf, IntKind.min, IntKind.max, IntKind.bits, IntKind.signed] at w
    exact ⟨by omega, e⟩
  obtain ⟨rfl⟩ : v3 = .int .i64 zone := by obtain ⟨cs, hcs, e, _⟩ := r3; simp only at hcs; subst hcs; injection e
  obtain ⟨la, lc, rfl, _, _, _, sl⟩ := SlAt.reads r1
  refine fun_ok hm' Tryd.func3 (by kernel_rfl) (F3_eq z p B la l.length lc a zone _ h00) ?_
  unfold F3
  refine new_of fun h0 b0 n0 s0 => call_of (awake_ok h0) ?_
  rintro v h1 ⟨rfl, n1⟩
  have n01 := n0.trans n1
  refine ⟨true, rfl, br_f rfl (br_of (fun _ => ⟨rfl, n01⟩) fun h300 => ldAgg_blk (z, p, B) (b0.new n1) ⟨rfl, rfl, rfl, trivial⟩ ?_)⟩
  have h300 : ¬ (l.length : Int) > 300 := of_decide_eq_false h300
  cases hr : rightB z p B with
  | false =>
    refine call_of (pnew_no z p B h1 hr) ?_
    rintro v h2 ⟨rfl, n2⟩
    refine ⟨(none, errV 1), rfl, ldAgg_blk (z, p, B) (b0.new (n1.trans n2)) ⟨rfl, rfl, rfl, trivial⟩ (call_of (rnew_no z p B h2 hr) ?_)⟩
    rintro v h3 ⟨rfl, n3⟩
    have n03 := (n01.trans n2).trans n3
    refine ⟨(none, (1 : Int)), rfl, cut_q (ts := []) (fun _ h' => New h3 h') ?_ ?_⟩
    · rintro _ h4 n4 _
      exact br_t rfl ⟨rfl, n03.trans n4⟩
    · intro K hK
      refine call_of (code_err 1 h3 (hg0.new n03)) ?_
      rintro v h4 ⟨rfl, n4⟩
      exact ⟨(1 : Int), rfl, br_f rfl (br_f rfl (hK () _ n4))⟩
  | true =>
  have hf := right_facts hr
  obtain ⟨z, rfl⟩ := Int.eq_ofNat_of_zero_le (show 0 ≤ z by omega)
  obtain ⟨p, rfl⟩ := Int.eq_ofNat_of_zero_le (show 0 ≤ p by omega)
  obtain ⟨B, rfl⟩ := Int.eq_ofNat_of_zero_le (show 0 ≤ B by omega)
  have hz : 11 ≤ z ∧ z ≤ 24 := by omega
  have hp : 4 ≤ p ∧ p ≤ 16 := by omega
  refine call_of (new_ok z p B h1 hr) ?_
  rintro v h2 ⟨b, q, hb, hq, rfl, va2, n2⟩
  have hql : q < h2.size := by obtain ⟨arr, T, hb, _⟩ := va2.ws; exact hb.lt
  have hbl : b < h2.size := by obtain ⟨T, hb⟩ := va2.hd; exact hb.lt
  refine ⟨(some ⟨b, 0, none⟩, .nilIface), rfl, ldAgg_blk ((z : Int), (p : Int), (B : Int)) (b0.new (n1.trans n2)) ⟨rfl, rfl, rfl, trivial⟩ (call_of (rnew_ok z p B q h2 hr hql) ?_)⟩
  rintro v h3 ⟨c, hc, rfl, ra3, n3⟩
  have n03 := (n01.trans n2).trans n3
  have hs00 := n01.size
  have hs2 := n2.size
  refine ⟨(some ⟨c, 0, none⟩, (0 : Int)), rfl, cut_q (ts := []) (fun _ h' => New h3 h') ?_ ?_⟩
  rotate_left
  · intro K hK
    refine call_of (code_err 0 h3 (hg0.new n03)) ?_
    rintro v h4 ⟨rfl, n4⟩
    exact ⟨(0 : Int), rfl, br_f rfl (br_f rfl (hK () _ n4))⟩
  rintro _ h4 n4 _
  have rel0 : Rel z p (fun _ => 0) [] := by
    refine ⟨fun x _ => by unfold liveB; simp, List.nodup_nil, ?_⟩
    have : ∀ n, totW z (fun _ => 0) n = 0 := by
      intro n
      induction n with
      | zero => rfl
      | succ n ih => simp only [totW, ih]; unfold cntW; split <;> simp [pop_nought]
    rw [this]; rfl
  have T4 : Two h00 h4 b q c z p B (fun _ => 0) [] := ⟨⟨(va2.new n3).new n4, n03.trans n4, by omega, by omega⟩, ra3.new n4, rel0⟩
  have hs4 := n4.size
  have hs3 := n3.size
  have hcl : c < h4.size := by obtain ⟨_, _, _, hb, _⟩ := T4.ra.row; exact hb.lt
  refine br_f rfl ⟨fun (s : Int) h' => ∃ (i : Nat) (W : Nat → Nat) (L : List Int), s = i ∧ i ≤ l.length ∧ L.length ≤ i ∧ h4.size ≤ h'.size ∧ Two h00 h' b q c z p B W L, fun (s : Int) _ => ((l.length : Int) - s).toNat, ⟨0, _, [], rfl, by omega, by simp, Nat.le_refl _, T4⟩, ?_⟩
  rintro s j h5 ⟨i, W, L, rfl, hi, hL, hs5, T5⟩
  have hW := T5.va.ok.lt
  have hW32 : ∀ i, i < z - 2 → W i < 4294967296 := fun i hi => T5.va.ok.w32 hi
  refine br_of (fun hlt => ?_) (fun _ => ?_)
  rotate_left
  · refine call_of (count_ok b q z p B W zone h5 T5.va.ok) ?_
    rintro v h' ⟨rfl, hh⟩; subst h'
    refine ⟨(cntW z W zone : Int), rfl, call_of (rofl_ok T5.rel zone h5 T5.ra hz hp) ?_⟩
    rintro v h6 ⟨a6, d6, rfl, q6⟩
    have T6 := T5.new q6.new
    have ofle := ofL_len z p W zone p
    have ofle : (ofL z p W zone p).length ≤ 9223372036854775807 := by omega
    refine ⟨(a6, (ofL z p W zone p).length, d6), rfl, br_t (by rw [cnt_of hz hp hW zone]; simp) (call_of (vof_ok b q z p B W zone h6 T6.va.ok) ?_)⟩
    rintro v h7 ⟨a7, d7, rfl, o7, n7⟩
    have T7 := T6.new n7
    refine ⟨(a7, (ofL z p W zone p).length, d7), rfl, call_of (rofl_ok T7.rel zone h7 T7.ra hz hp) ?_⟩
    rintro v h8 ⟨a8, d8, rfl, q8⟩
    have T8 := T7.new q8.new
    refine ⟨(a8, (ofL z p W zone p).length, d8), rfl, call_of (Same.nums_ok _ _ _ _ _ _ h8 (ofL z p W zone p) (ofL z p W zone p) rfl rfl ofle (own_u (o7.grow q8.new)) (ar_p q8.ar)) ?_⟩
    rintro v h' ⟨rfl, hh⟩; subst h'
    refine ⟨true, by rw [decide_eq_true rfl] <;> rfl, br_t rfl (call_of (bare_ok b q z p B W h8 T8.va.ok) ?_)⟩
    rintro v h9 ⟨a9, d9, rfl, o9, n9⟩
    have T9 := T8.new n9
    have ble := bareL_len W (z - 2)
    have ble : (bareL W (z - 2)).length ≤ 9223372036854775807 := by omega
    refine ⟨(a9, (bareL W (z - 2)).length, d9), rfl, call_of (rbare_ok T9.rel hW h9 T9.ra hz hp) ?_⟩
    rintro v h10 ⟨a10, d10, rfl, q10⟩
    refine ⟨(a10, (bareL W (z - 2)).length, d10), rfl, call_of (Same.same_ok _ _ _ _ _ _ h10 (bareL W (z - 2)) (bareL W (z - 2)) rfl rfl ble (own_i (o9.grow q10.new)) (ar_p q10.ar)) ?_⟩
    rintro v h' ⟨rfl, hh⟩; subst h'
    exact ⟨true, by rw [decide_eq_true rfl] <;> rfl, rfl, (T9.new q10.new).va.new⟩
  have hlt : (i : Int) < (l.length : Int) := of_decide_eq_true hlt
  have hiL : i < l.length := by omega
  obtain ⟨hx1, hx2, ld⟩ := two_ld sl T5.va.new hiL
  refine ld hiL (new_stL (by rw [zeroA]; rfl) fun h6 b6 n6 s6 => ?_)
  generalize l[i].1 = d at b6
  generalize l[i].2 = x at b6 hx1 hx2
  have b6 : Blk h6 h5.size #[.int .i64 d, .int .u32 x] 39 := b6
  have T6 := T5.new n6
  have hs6 := n6.size
  have hq6 : q < h6.size := by omega
  refine cut_q (ts := [.sc .bool]) (fun (s : Bool) h' => s = true ∧ ∃ (W : Nat → Nat) (L : List Int), L.length ≤ i + 1 ∧ h6.size ≤ h'.size ∧ Two h00 h' b q c z p B W L ∧ Blk h' h5.size #[.int .i64 d, .int .u32 x] 39) ?_ ?_
  rotate_left
  · intro K hK
    have c0 : ∀ {h' : Heap}, Blk h' h5.size #[.int .i64 d, .int .u32 x] 39 → ∀ (q : Nat) (v : Value), (#[.int .i64 d, .int .u32 x] : Array Value)[q]? = some v → cellH h' (Addr.add ⟨h5.size, 0, none⟩ q) = some v := fun hb q v hv => by rw [add_mk, cellH_blk hb, Nat.zero_add]; exact hv
    refine ld_of (c := .int .i64) d (c0 b6 0 _ rfl) (br_of (fun _ => ?_) fun _ => br_of (fun _ => ?_) fun _ => hK _ _ ⟨rfl, W, L, by omega, Nat.le_refl _, T6, b6⟩)
    · refine ld_of (c := .int .u32) x (c0 b6 1 _ rfl) (ld_of (c := .int .u32) x (c0 b6 1 _ rfl) (call_of (mark_ok b q z p B W x h6 T6.va.ok ⟨hx1, hx2⟩) ?_))
      rintro v h7 ⟨rfl, va7, u7⟩
      have b7 := b6.upd u7 (show h5.size ≠ q by omega)
      have ra7 := T6.ra.upd u7
      have A7 := T6.va.upd u7 va7
      have hs7 := u7.size
      refine ⟨_, rfl, c0 b7 1 _ rfl, call_of (rmark_ok x h7 ra7 hz hp ⟨hx1, hx2⟩ (by omega) (by omega)) ?_⟩
      rintro v h8 ⟨rfl, ra8, u8⟩
      have b8 := b7.upd u8 (show h5.size ≠ c by omega)
      have rel8 := T6.rel.mark hz hp hx1
      have hs8 := u8.size
      refine ⟨_, rfl, hK _ _ ⟨by rw [T6.rel.live x hx1]; simp, _, _, ?_, by omega, ⟨⟨VAt.updc va7 u8 (by omega) (by omega), u8.new A7.new (by omega), A7.gb, A7.gq⟩, ra8, rel8⟩, b8⟩⟩
      split
      · rw [List.length_append, List.length_singleton]; omega
      · omega
    · refine ld_of (c := .int .u32) x (c0 b6 1 _ rfl) (ld_of (c := .int .u32) x (c0 b6 1 _ rfl) (call_of (unmark_ok b q z p B W x h6 T6.va.ok ⟨hx1, hx2⟩) ?_))
      rintro v h7 ⟨rfl, va7, u7⟩
      have b7 := b6.upd u7 (show h5.size ≠ q by omega)
      have ra7 := T6.ra.upd u7
      have A7 := T6.va.upd u7 va7
      have hs7 := u7.size
      refine ⟨_, rfl, c0 b7 1 _ rfl, call_of (runmark_ok x h7 ra7 (by omega)) ?_⟩
      rintro v h8 ⟨rfl, ra8, u8⟩
      have b8 := b7.upd u8 (show h5.size ≠ c by omega)
      have rel8 := T6.rel.unmark hz hp hx1 hW32
      have hs8 := u8.size
      exact ⟨_, rfl, hK _ _ ⟨by rw [T6.rel.live x hx1]; simp, _, _, Nat.le_trans (List.length_filter_le _ _) (by omega), by omega, ⟨⟨VAt.updc va7 u8 (by omega) (by omega), u8.new A7.new (by omega), A7.gb, A7.gq⟩, ra8, rel8⟩, b8⟩⟩
  rintro s h7 ⟨hst, W7, L7, hL7, hs7, T7, b7⟩ _
  have hst : s = true := hst
  subst hst
  refine br_f rfl (call_of (live_ok b q z p B W7 a h7 T7.va.ok ha) ?_)
  rintro v h8 ⟨rfl, n8⟩
  have T8 := T7.new n8
  refine ⟨_, rfl, call_of (rlive_ok a h8 T8.ra) ?_⟩
  rintro v h' ⟨rfl, hh⟩; subst h'
  refine ⟨_, rfl, br_f (by rw [T7.rel.live a ha.1]; simp) ?_⟩
  have b8 := b7.new n8
  refine ld_of (c := .int .u32) x (by rw [add_mk, cellH_blk b8]; rfl) (ld_of (c := .int .u32) x (by rw [add_mk, cellH_blk b8]; rfl) (call_of (live_ok b q z p B W7 x h8 T8.va.ok ⟨hx1, hx2⟩) ?_))
  rintro v h9 ⟨rfl, n9⟩
  have T9 := T8.new n9
  refine ⟨_, rfl, by rw [add_mk, cellH_blk (b8.new n9)]; rfl, call_of (rlive_ok x h9 T9.ra) ?_⟩
  rintro v h' ⟨rfl, hh⟩; subst h'
  refine ⟨_, rfl, br_f (by rw [T7.rel.live x hx1]; simp) ?_⟩
  obtain ⟨⟨ra, rd, T, hrb, _, _⟩, _, _⟩ := T9.ra
  have c3 : cellH h9 (Addr.add ⟨c, 0, none⟩ 3) = some (.slice ra L7.length rd) := by rw [add_mk, cellH_blk hrb]; rfl
  refine Valid.ptr_of (ld_of (c := .slice) (ra, L7.length, rd) c3 (call_of (total_ok b q z p B W7 h9 T9.va.ok) ?_))
  rintro v h' ⟨rfl, hh⟩; subst h'
  refine ⟨(totW z W7 (z - 2) : Int), rfl, c3, br_f (by rw [← T9.rel.tot]; simp) ?_⟩
  rw [wr64 (by omega) (by omega)]
  have hs8 := n8.size
  have hs9 := n9.size
  exact ⟨⟨i + 1, W7, L7, rfl, hiL, hL7, by omega, T9⟩, (by first | omega | (dsimp only; omega) | (simp only []; omega))⟩
end Go.Proofs.YticppjmldlhbiaaDoor.L11
