/-
  What ValidCounts comes to.
-/
import Derived.Test.YticppjmldlhbiaaValidLaw
import Derived.ProofKit
namespace Go.Proofs.Yticppjmldlhbiaa.Valid
open Go.Pl Go.Proofs.Yticppjmldlhbiaa.W Go.Proofs.Yticppjmldlhbiaa.Geo
/-- The acts that came in: each two cells. -/
def ActsAt (h : Heap) (l : Option Addr) (n : Nat) : Prop :=
  ∀ i, i < n → ∃ x, l = some x ∧ x.block < h.size ∧ ∃ d a : Int, cellH h (x.add (i * 2)) = some (.int .i64 d) ∧ cellH h ((x.add (i * 2)).add 1) = some (.int .u32 a) ∧ (Lit.int .i64 d).wf = true ∧ (Lit.int .u32 a).wf = true
theorem u32_range {a : Int} (h : (Lit.int .u32 a).wf = true) : 0 ≤ a ∧ a < 4294967296 := by
  simp [Lit.wf, IntKind.min, IntKind.max, IntKind.bits, IntKind.signed] at h
  omega
theorem add_block (a : Addr) (n : Nat) : (a.add n).block = a.block := by unfold Addr.add; split <;> rfl
theorem cellH_new {h h' : Heap} {a : Addr} (hn : New h h') (ha : a.block < h.size) : cellH h' a = cellH h a :=
  World.cell?_of_block (w := hw h) (w' := hw h') (a := a) (hn.same a.block ha)
theorem zero33 : zeroC Try.prog 33 = #[.int .i64 0, .int .u32 0] := by kernel_rfl
theorem pop_nought : ∀ m, Ones.popN 0 m = 0
  | 0 => rfl
  | m + 1 => by simp only [Ones.popN, Nat.zero_testBit, pop_nought m]; rfl
theorem pop_zero {x p : Nat} (hx : x < 2 ^ p) : Ones.popN x p = 0 ↔ x = 0 := by
  constructor
  · intro h
    apply Nat.eq_of_testBit_eq
    intro i
    rw [Nat.zero_testBit]
    by_cases hi : i < p
    · cases hb : x.testBit i with
      | false => rfl
      | true =>
        have key : ∀ n, i < n → 1 ≤ Ones.popN x n := by
          intro n
          induction n with
          | zero => intro h; omega
          | succ n ih =>
            intro h
            simp only [Ones.popN]
            by_cases e : i = n
            · subst e; rw [hb]; simp
            · have := ih (by omega); omega
        have := key p hi; omega
    · exact Nat.testBit_lt_two_pow (Nat.lt_of_lt_of_le hx (Nat.pow_le_pow_right (by omega) (by omega)))
  · rintro rfl
    exact pop_nought p
theorem bare_iff {z p : Nat} {W : Nat → Nat} {i : Nat} (hz : 11 ≤ z ∧ z ≤ 24) (hp : 4 ≤ p ∧ p ≤ 16) (h1 : i < z - 2) (hw : W i < 2 ^ p) : (ofL z p W i p).length = 0 ↔ W i = 0 := by
  rw [ofL_pop hz hp h1 p (Nat.le_refl _)]; exact pop_zero hw
/-- What stands behind an act. -/
def Behind (h3 : Heap) (b q z p B A : Nat) (d a : Int) (t : Int) (h' : Heap) : Prop :=
  ∃ W', At h3 h' b q z p B W' ∧ t = (totW z W' (z - 2) : Int) ∧ (d = 1 → liveB z p W' a = false) ∧ Blk h' A #[.int .i64 d, .int .u32 a] 33
set_option maxHeartbeats 2000000 in
theorem counts_law (gz gp gb : Int) (l : Option Addr) (len cap : Nat) (h : Heap) (hl : ActsAt h l len) :
    CallsH Try.prog 3 [.agg #[.int .i64 gz, .int .i64 gp, .int .i64 gb], .slice l len cap] h fun v h' => v = .bool true ∧ New h h' := by
  refine fun_ok hm' Try.func3 (by kernel_rfl) (F3_eq _ _ _ _ _ _ _ h) ?_
  unfold F3
  refine new_of fun h2 b2 n2 s2 => call_of (awake_ok h2) ?_
  rintro v h3 ⟨rfl, n3⟩
  have n03 := n2.trans n3
  have bg := b2.new n3
  generalize hG : h.size = G at bg
  have hGl := bg.lt
  refine ⟨true, rfl, br_f rfl ⟨(gz, gp, gb), ⟨by rw [add_mk, cellH_blk bg]; rfl, by rw [add_mk, cellH_blk bg]; rfl, by rw [add_mk, cellH_blk bg]; rfl, trivial⟩, ?_⟩⟩
  cases hr : rightB gz gp gb with
  | false =>
    refine call_of (new_no gz gp gb h3 hr) ?_
    rintro v h4 ⟨⟨e, rfl⟩, n4⟩
    exact ⟨(none, e), rfl, cut_of (br_t rfl ⟨rfl, n03.trans n4⟩)⟩
  | true =>
  have hf := right_facts hr
  obtain ⟨z, rfl⟩ := Int.eq_ofNat_of_zero_le (show 0 ≤ gz by omega)
  obtain ⟨p, rfl⟩ := Int.eq_ofNat_of_zero_le (show 0 ≤ gp by omega)
  obtain ⟨B, rfl⟩ := Int.eq_ofNat_of_zero_le (show 0 ≤ gb by omega)
  have hz : 11 ≤ z ∧ z ≤ 24 := by omega
  have hp : 4 ≤ p ∧ p ≤ 16 := by omega
  refine call_of (new_ok z p B h3 hr) ?_
  rintro v h4 ⟨b, q, gb', gq, rfl, v4, n4⟩
  have a4 : At h3 h4 b q z p B _ := ⟨v4, n4, gb', gq⟩
  refine ⟨(some ⟨b, 0, none⟩, .nilIface), rfl, cut_of (br_f rfl (br_of (fun _ => ⟨rfl, n03.trans n4⟩) fun hlen _ => ?_))⟩
  have hlen : len ≤ 300 := by simp at hlen; omega
  refine ⟨fun (s : Int) h' => ∃ (W : Nat → Nat) (i : Nat), s = i ∧ i ≤ len ∧ At h3 h' b q z p B W, fun (s : Int) _ => ((len : Int) - s).toNat, ⟨_, 0, rfl, by omega, a4⟩, ?_⟩
  rintro s j h5 ⟨W, i, rfl, hi, a5⟩
  refine br_of (fun hlt => ?_) (fun hlt => ?_)
  · have hlt : i < len := by simp at hlt; omega
    obtain ⟨x, rfl, hxb, d, a, e1, e2, _, hwa⟩ := hl i hlt
    have ha := u32_range hwa
    have nh : New h h5 := n03.trans a5.new
    have hc : ∀ m, cellH h5 ((x.add (i * 2)).add m) = cellH h ((x.add (i * 2)).add m) := fun m => cellH_new nh (by rw [add_block, add_block]; exact hxb)
    refine ⟨⟨by omega, rfl⟩, ?_⟩
    simp only [Int.toNat_natCast]
    refine ⟨((d, a) : Int × Int), ⟨by rw [hc]; exact e1, by rw [hc]; exact e2, trivial⟩, ?_⟩
    rw [zero33]
    refine new_of fun h6 b6 n6 s6 => stL_blk b6 (by simp) fun h7 b7 o7 => ?_
    have n7 : New h5 h7 := o7.upd.new n6 (Nat.le_refl _)
    have a7 := a5.to n7
    have hbx : setsA #[Value.int .i64 0, .int .u32 0] 0 [.int .i64 d, .int .u32 a] = #[.int .i64 d, .int .u32 a] := rfl
    rw [hbx] at b7
    have hqA : q < h5.size := by obtain ⟨arr, T, hb, _⟩ := a5.ok.ws; exact hb.lt
    generalize hA : h5.size = A at *
    have c0 : ∀ {h' : Heap}, Blk h' A #[.int .i64 d, .int .u32 a] 33 → cellH h' ((⟨A, 0, none⟩ : Addr).add 0) = some (.int .i64 d) := fun hb => by rw [add_mk, cellH_blk hb]; rfl
    have c1 : ∀ {h' : Heap}, Blk h' A #[.int .i64 d, .int .u32 a] 33 → cellH h' ((⟨A, 0, none⟩ : Addr).add 1) = some (.int .u32 a) := fun hb => by rw [add_mk, cellH_blk hb]; rfl
    refine call_of (total_ok b q z p B W h7 a7.ok) ?_
    rintro v h' ⟨rfl, hh⟩
    subst h'
    refine ⟨(totW z W (z - 2) : Int), rfl, ?_⟩
    have hT := totW_le z W (z - 2)
    have hw32 : ∀ i, i < z - 2 → W i < 4294967296 := fun i hi => a5.ok.w32 hi
    refine cut_q (ts := [.sc (.int .i64)]) (fun (t : Int) h' => Behind h3 b q z p B A d a t h') ?_ ?_
    · rintro t h8 ⟨W', a8, rfl, hdead, b8⟩ j8
      refine call_of (total_ok b q z p B W' h8 a8.ok) ?_
      rintro v h' ⟨rfl, hh⟩
      subst h'
      refine ⟨(totW z W' (z - 2) : Int), rfl, br_f (by simp) (ld_of (c := .int .i64) d (c0 b8) (br_of (fun h1 => ?_) (fun h1 => ?_)))⟩
      · refine ld_of (c := .int .u32) a (c1 b8) (call_of (live_ok b q z p B W' a h8 a8.ok ha) ?_)
        rintro v h9 ⟨rfl, n9⟩
        rw [hdead (by simpa using h1)]
        refine ⟨false, rfl, br_f rfl ?_⟩
        rw [wr64 (by omega) (by omega)]
        exact ⟨⟨W', i + 1, rfl, by omega, a8.to n9⟩, by omega⟩
      · rw [wr64 (by omega) (by omega)]
        exact ⟨⟨W', i + 1, rfl, by omega, a8⟩, by omega⟩
    · intro K hK
      refine cut_q (ts := [.sc .bool]) (fun (t : Bool) h' => (d = 0 ∧ At h3 h' b q z p B (markW z p W a) ∧ t = ((atF z p a).2.2 && !liveB z p W a) ∧ Blk h' A #[.int .i64 d, .int .u32 a] 33) ∨ (d ≠ 0 ∧ At h3 h' b q z p B W ∧ t = false ∧ Blk h' A #[.int .i64 d, .int .u32 a] 33)) ?_ ?_
      · rintro t h8 hQ j8
        rcases hQ with ⟨hd, a8, ht, b8⟩ | ⟨hd, a8, rfl, b8⟩
        · have hm := mark_tot (z := z) (p := p) (W := W) (a := a) hz hp ha.1
          rw [← ht] at hm
          refine br_of (fun h1 => hK _ _ ⟨_, a8, ?_, fun h => by omega, b8⟩) (fun h1 => ld_of (c := .int .i64) d (c0 b8) (br_f (by simp; omega) (hK _ _ ⟨_, a8, ?_, fun h => by omega, b8⟩)))
          · rw [if_pos h1] at hm; rw [wr64 (by omega) (by omega), hm]; rfl
          · rw [h1, if_neg (by simp)] at hm; rw [hm]; rfl
        · refine br_f rfl (ld_of (c := .int .i64) d (c0 b8) (br_of (fun h1 => ?_) (fun h1 => hK _ _ ⟨W, a8, rfl, fun h => absurd h (by simpa using h1), b8⟩)))
          refine ld_of (c := .int .u32) a (c1 b8) (call_of (unmark_ok b q z p B W a h8 a8.ok ha) ?_)
          rintro v h9 ⟨rfl, v9, u9⟩
          have a9 := a8.upd u9 v9
          have b9 := b8.upd u9 (show A ≠ q by omega)
          have hu := unmark_tot (z := z) (p := p) (W := W) (a := a) hz hp ha.1 hw32
          have hdead := un_dead (z := z) (p := p) (W := W) (a := a) hp ha.1
          refine ⟨liveB z p W a, rfl, br_of (fun h2 => hK _ _ ⟨_, a9, ?_, fun _ => hdead, b9⟩) (fun h2 => hK _ _ ⟨_, a9, ?_, fun _ => hdead, b9⟩)⟩
          · rw [if_pos h2] at hu; rw [wr64 (by omega) (by omega)]; omega
          · rw [h2, if_neg (by simp)] at hu; omega
      · intro K' hK'
        refine ld_of (c := .int .i64) d (c0 b7) (br_of (fun h1 => ?_) (fun h1 => hK' _ _ (.inr ⟨by simpa using h1, a7, rfl, b7⟩)))
        refine ld_of (c := .int .u32) a (c1 b7) (call_of (mark_ok b q z p B W a h7 a7.ok ha) ?_)
        rintro v h8 ⟨rfl, v8, u8⟩
        exact ⟨_, rfl, hK' _ _ (.inl ⟨by simpa using h1, a7.upd u8 v8, rfl, b7.upd u8 (show A ≠ q by omega)⟩)⟩
  · refine new_of fun h6 b6 n6 s6 => ?_
    have ow6 : OwnH h6 h5.size 3 1 (some ⟨h5.size, 0, none⟩) 0 0 (vI []) :=
      ⟨by simp [vI], .inr ⟨h5.size, 0, #[], rfl, Nat.le_refl _, b6, Nat.le_refl _, by simp [maxLen], rfl, rfl⟩⟩
    have cg : ∀ {h'}, New h3 h' → cellH h' ((⟨G, 0, none⟩ : Addr).add 0) = some (.int .i64 z) ∧ cellH h' ((⟨G, 0, none⟩ : Addr).add 1) = some (.int .i64 p) ∧ cellH h' ((⟨G, 0, none⟩ : Addr).add 2) = some (.int .i64 B) := fun hn => by
      refine ⟨?_, ?_, ?_⟩ <;> (rw [add_mk, cellH_blk (bg.new hn)]; rfl)
    have n36 := a5.new.trans n6
    refine ⟨((z : Int), (p : Int), (B : Int)), ⟨(cg n36).1, (cg n36).2.1, (cg n36).2.2, trivial⟩, ?_⟩
    refine call_of (log_ok z p B h6 (by omega) (by omega)) ?_
    rintro v h7 ⟨rfl, n7⟩
    refine ⟨((z : Int) - 2 : Int), rfl, ?_⟩
    have ez : (z : Int) - 2 = ((z - 2 : Nat) : Int) := by omega
    rw [ez]
    refine ⟨fun (s : Int × (Option Addr × Nat × Nat) × Int) h' => ∃ zi : Nat, s.1 = (totW z W zi : Int) ∧ s.2.2 = (zi : Int) ∧ zi ≤ z - 2 ∧ New h5 h' ∧ s.2.1.2.1 = (bareL W zi).length ∧ OwnH h' h5.size 3 1 s.2.1.1 s.2.1.2.1 s.2.1.2.2 (vI (bareL W zi)),
      fun (s : Int × (Option Addr × Nat × Nat) × Int) _ => (((z - 2 : Nat) : Int) - s.2.2).toNat, ⟨0, rfl, rfl, by omega, n6.trans n7, rfl, ow6.grow n7⟩, ?_⟩
    rintro ⟨s1, ⟨a, n, c⟩, s3⟩ j8 h8 ⟨zi, hs1, hs3, hzi, n8, hn, ow8⟩
    simp only [] at hs1 hs3 hn ow8 ⊢
    subst hs1; subst hs3; subst hn
    have a8 := a5.to n8
    have hT := totW_le z W zi
    have hbl := bareL_len W zi
    refine br_of (fun hlt => ?_) (fun hlt => ?_)
    · have hlt : zi < z - 2 := by simp at hlt; omega
      refine call_of (vof_ok b q z p B W (zi : Int) h8 a8.ok) ?_
      rintro v h9 ⟨ao, co, rfl, oo, n9⟩
      have a9 := a8.to n9
      have hcnt := ofL_cnt (W := W) hz hp hlt (a5.ok.lt zi hlt)
      have hcl := cntW_le z W (zi : Int)
      refine ⟨(ao, (ofL z p W zi p).length, co), rfl, call_of (count_ok b q z p B W (zi : Int) h9 a9.ok) ?_⟩
      rintro v h' ⟨rfl, hh⟩
      subst h'
      refine ⟨(cntW z W (zi : Int) : Int), rfl, br_f (by simp [hcnt]) ?_⟩
      dsimp only
      have hget := ofL_get (W := W) hz hp hlt p (Nat.le_refl _)
      have hrise := ofL_rise (W := W) hz hp hlt p (Nat.le_refl _)
      have hbi := bare_iff (W := W) hz hp hlt (a5.ok.lt zi hlt)
      generalize hO : ofL z p W (zi : Int) p = O at *
      have n59 := n8.trans n9
      refine ⟨fun (s : Int) h' => ∃ k : Nat, s = k ∧ k ≤ O.length ∧ New h9 h', fun (s : Int) _ => ((O.length : Int) - s).toNat, ⟨0, rfl, by omega, New.refl _⟩, ?_⟩
      rintro s4 j10 h10 ⟨k, rfl, hk, n10⟩
      have n510 := n59.trans n10
      have a10 := a5.to n510
      refine br_of (fun hlk => ?_) (fun hlk => ?_)
      · have hkl : k < O.length := by simp at hlk; omega
        have hgx : O[k]? = some O[k] := List.getElem?_eq_getElem hkl
        obtain ⟨pp, rfl, hpp⟩ := own_u (oo.grow n10) k _ hgx
        obtain ⟨hlive, g, hg, ea, eat⟩ := hget O[k] (List.getElem_mem _)
        have hrng : 0 ≤ O[k] ∧ O[k] < 4294967296 := by rw [← hO] at *; exact ⟨by omega, by have hm : zi * p ≤ 22 * 16 := Nat.mul_le_mul (by omega) (by omega); omega⟩
        refine ⟨⟨by omega, rfl⟩, ?_⟩
        simp only [Int.toNat_natCast, Nat.mul_one]
        refine ld_of (c := .int .u32) (O[k] : Int) hpp ?_
        have ng := a5.new.trans n510
        refine ⟨((z : Int), (p : Int), (B : Int)), ⟨(cg ng).1, (cg ng).2.1, (cg ng).2.2, trivial⟩, ?_⟩
        refine call_of (at_ok z p B O[k] h10 (by omega) (by omega) hrng) ?_
        rintro v h11 ⟨rfl, n11⟩
        rw [eat]
        refine ⟨((zi : Int), (g : Int), true), rfl, br_f rfl (br_f (by simp) (call_of (live_ok b q z p B W O[k] h11 (a10.to n11).ok hrng) ?_))⟩
        rintro v h12 ⟨rfl, n12⟩
        rw [hlive]
        have n912 := n10.trans (n11.trans n12)
        have fin : (∃ k' : Nat, IntKind.wrap .i64 ((k : Int) + (1 : Int)) = k' ∧ k' ≤ O.length ∧ New h9 h12) ∧ ((O.length : Int) - IntKind.wrap .i64 ((k : Int) + (1 : Int))).toNat < ((O.length : Int) - (k : Int)).toNat := by
          rw [wr64 (by omega) (by omega)]
          exact ⟨⟨k + 1, rfl, by omega, n912⟩, by omega⟩
        refine ⟨true, rfl, br_f rfl (br_of (fun h0 => ?_) (fun _ => fin))⟩
        have h0 : 0 < k := by simp at h0; omega
        have ek : IntKind.wrap .i64 ((k : Int) - (1 : Int)) = ((k - 1 : Nat) : Int) := by rw [wr64 (by omega) (by omega)]; omega
        rw [ek]
        have hgy : O[k - 1]? = some (O[k - 1]'(by omega)) := List.getElem?_eq_getElem _
        obtain ⟨pp', e', hpp'⟩ := own_u (oo.grow n912) (k - 1) _ hgy
        injection e' with e'; subst e'
        refine ptr_of ⟨⟨by omega, rfl⟩, ?_⟩
        simp only [Int.toNat_natCast]
        refine ld_of (c := .int .u32) (O[k - 1]'(by omega) : Int) hpp' (br_f ?_ fin)
        have := List.pairwise_iff_getElem.1 hrise (k - 1) k (by omega) hkl (by omega)
        simp; omega
      · have ek : IntKind.wrap .i64 ((totW z W zi : Int) + (O.length : Int)) = (totW z W (zi + 1) : Int) := by
          rw [wr64 (by omega) (by omega), totW, hcnt]; simp
        have ei : IntKind.wrap .i64 ((zi : Int) + (1 : Int)) = ((zi + 1 : Nat) : Int) := by rw [wr64 (by omega) (by omega)]; rfl
        rw [ek, ei]
        have e := bareL_succ W zi
        refine cut_q (ts := [.sc .slice]) (fun (t : Option Addr × Nat × Nat) h' => New h5 h' ∧ t.2.1 = (bareL W (zi + 1)).length ∧ OwnH h' h5.size 3 1 t.1 t.2.1 t.2.2 (vI (bareL W (zi + 1)))) ?_ ?_
        · rintro ⟨a', n', c'⟩ h' ⟨k1, k2, k3⟩ j'
          exact ⟨⟨zi + 1, rfl, rfl, by omega, k1, k2, k3⟩, by omega⟩
        · intro K hK
          have ow10 := (ow8.grow n9).grow n10
          refine br_of (fun h0 => ?_) (fun h0 => hK _ _ ⟨n510, ?_, ?_⟩)
          · have h0 : W zi = 0 := hbi.1 (by simpa using h0)
            rw [if_pos h0] at e
            refine push1 ap36 ow10 rfl (by omega) (by omega) n510.size ?_
            intro a' c' h11 o11 nn _
            refine hK _ _ ⟨nn h5 n510 (Nat.le_refl _), by rw [e]; simp, ?_⟩
            rw [e]; simpa [vI] using o11
          · have h0 : ¬ W zi = 0 := fun hh => by rw [hbi.2 hh] at h0; simp at h0
            rw [e, if_neg h0, List.append_nil]
          · have h0 : ¬ W zi = 0 := fun hh => by rw [hbi.2 hh] at h0; simp at h0
            rw [e, if_neg h0, List.append_nil]; exact ow10
    · have hzi : zi = z - 2 := by simp at hlt; omega
      subst hzi
      refine call_of (total_ok b q z p B W h8 a8.ok) ?_
      rintro v h' ⟨rfl, hh⟩
      subst h'
      refine ⟨(totW z W (z - 2) : Int), rfl, br_t (by simp) (call_of (bare_ok b q z p B W h8 a8.ok) ?_)⟩
      rintro v h9 ⟨ab, cb, rfl, ob, n9⟩
      refine ⟨(ab, (bareL W (z - 2)).length, cb), rfl, ?_⟩
      dsimp only
      have hbl' := bareL_len W (z - 2)
      refine call_of (Same.same_ok _ _ _ _ _ _ h9 (bareL W (z - 2)) (bareL W (z - 2)) rfl rfl (by omega) (own_i ob) (own_i (ow8.grow n9))) ?_
      rintro v h' ⟨rfl, hh⟩
      subst h'
      exact ⟨_, rfl, by simp, n03.trans ((a8.to n9).new)⟩
end Go.Proofs.Yticppjmldlhbiaa.Valid
