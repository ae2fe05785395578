/-
  The contracts of package ckpt: the small ones.
-/
import Derived.Test.YthimfpkkdhpceaaDoorCkP
import Derived.Test.YthimfpkkdhpceaaDoorWCk
namespace Go.Proofs.YthimfpkkdhpceaaDoor.Ck
open Go.Pl Go.Proofs.YthimfpkkdhpceaaDoor.W Go.Proofs.YthimfpkkdhpceaaDoor.Byts Go.Proofs.YthimfpkkdhpceaaDoor.Four Go.Proofs.YthimfpkkdhpceaaDoor.Adl Go.Proofs.YthimfpkkdhpceaaDoor.Head Go.Proofs.YthimfpkkdhpceaaDoor.Geo
def chkA (c : Chk) (da : Option Addr) (dc : Nat) : Array Value := #[.int .u32 c.num, .int .u32 c.ses, .int .u32 c.seq, .int .i64 c.z, .int .i64 c.p, .int .i64 c.b, .slice da c.dir.length dc]
def chkV (c : Chk) (da : Option Addr) (dc : Nat) : Value := .agg (chkA c da dc)
theorem ldAgg_add {cs : List CTy} {b o j : Nat} {arr : Array Value} {T : TypeId} {F : CT cs → Prop} {h : Heap} (s : CT cs) (hb : Blk h b arr T) (hc : Go.Pl.rowAt arr (o + j) (cvals cs s)) (hF : F s) : ldAggW cs (Addr.add ⟨b, o, none⟩ j) F h := by
  rw [add_mk]; exact ldAgg_blk s hb hc hF
theorem tables_q (n : Int) (h : Heap) (h0 : 0 ≤ n) (h1 : n ≤ 1000000) {F : Int → Prop} (hF : F ((n + 3) / 4)) : callQ Tryd.prog 30 [.int .i64 n] [.sc (.int .i64)] F h :=
  ⟨(n + 3) / 4, fun h' _ => tables_ok n h' h0 h1, hF⟩
theorem right_ok (c : Chk) (da : Option Addr) (dc : Nat) (h : Heap) : CallsH Tryd.prog 21 [chkV c da dc] h fun v h' => v = .bool (rightC c) ∧ New h h' := by
  refine fun_ok Geo.hm' Tryd.func21 (by kernel_rfl) (F21_eq _ _ _ _ _ _ _ _ _ _ h) ?_
  unfold F21
  refine new_of fun h1 b1 n1 s1 => ldAgg_add (o := 0) (c.z, c.p, c.b) b1 ⟨rfl, rfl, rfl, trivial⟩ (call_of (Geo.right_ok c.z c.p c.b h1) ?_)
  rintro v h2 ⟨rfl, n2⟩
  have b2 := b1.new n2
  refine ⟨_, rfl, br_of (fun hr => ?_) (fun hr => ⟨by unfold rightC; rw [hr]; rfl, n1.trans n2⟩), n2.ext⟩
  obtain ⟨_, _, hb1, hb2⟩ := right_facts hr
  refine ld_of (c := .slice) (da, c.dir.length, dc) (by rw [add_mk, cellH_blk b2]; rfl) (ld_of (c := .int .i64) c.b (by rw [add_mk, add_mk, cellH_blk b2]; rfl) (tables_q c.b h2 (by omega) (by omega) ⟨?_, n1.trans n2⟩))
  unfold rightC
  rw [hr, Bool.true_and]
  rfl
theorem length_ok (b : Int) (h : Heap) (hb : 1 ≤ b ∧ b ≤ 64) : CallsH Tryd.prog 55 [.int .i64 b] h fun v h' => v = .int .i64 (lenN b : Int) ∧ h' = h := by
  refine fun_ok Geo.hm' Tryd.func55 (by kernel_rfl) (F55_eq _ _ h) ?_
  unfold F55
  refine call_of (tables_ok b h (by omega) (by omega)) ?_
  rintro v h' ⟨rfl, hh⟩; subst h'
  refine ⟨((b + 3) / 4 : Int), rfl, ?_, rfl⟩
  show Value.int .i64 (IntKind.wrap .i64 (4 * IntKind.wrap .i64 (6 + (b + 3) / 4))) = _
  rw [wr64 (n := 6 + (b + 3) / 4) (by omega) (by omega), wr64 (by omega) (by omega)]
  unfold lenN tabN
  congr 1; omega
theorem many_ok (b : Int) (h : Heap) (hb : 1 ≤ b ∧ b ≤ 64) : CallsH Tryd.prog 16 [.int .i64 b] h fun v h' => v = .int .i64 (manyN b : Int) ∧ h' = h := by
  refine fun_ok Geo.hm' Tryd.func16 (by kernel_rfl) (F16_eq _ _ h) ?_
  unfold F16
  refine call_of (length_ok b h hb) ?_
  rintro v h' ⟨rfl, hh⟩; subst h'
  have hl : lenN b ≤ 88 := by unfold lenN tabN; omega
  refine ⟨(lenN b : Int), rfl, ?_, rfl⟩
  rw [wr64 (n := (lenN b : Int) + 4) (by omega) (by omega), wr64 (n := (lenN b : Int) + 4 + 16) (by omega) (by omega), wr64 (n := (lenN b : Int) + 4 + 16 - 1) (by omega) (by omega), Int.tdiv_eq_ediv_of_nonneg (by omega), wr64 (by omega) (by omega)]
  unfold manyN
  congr 1; omega
theorem lay_ok (a : Option Addr) (c : Nat) (xs : List Int) (n : Int) (h : Heap) (r : RowS h 5 1 a xs.length c (xs.map (Value.int .u8))) (hl : xs.length ≤ 100000) :
    CallsH Tryd.prog 44 [.slice a xs.length c, .int .u32 n] h fun v h' => ∃ a' c', v = .slice a' (xs ++ four n).length c' ∧ Grow h (blkOf a) h' 5 1 a' (xs ++ four n).length c' ((xs ++ four n).map (Value.int .u8)) := by
  refine fun_ok Geo.hm' Tryd.func44 (by kernel_rfl) (F44_eq _ _ _ _ _ h) ?_
  unfold F44
  refine ⟨fun (s : (Option Addr × Nat × Nat) × Int) h' => ∃ i : Nat, s.2 = i ∧ i ≤ 4 ∧ s.1.2.1 = (xs ++ (four n).take i).length ∧ Grow h (blkOf a) h' 5 1 s.1.1 (xs ++ (four n).take i).length s.1.2.2 ((xs ++ (four n).take i).map (Value.int .u8)), fun (s : (Option Addr × Nat × Nat) × Int) _ => (4 - s.2).toNat, ⟨0, rfl, by omega, by simp, by simpa using Grow.start r⟩, ?_⟩
  rintro ⟨⟨oa, on, oc⟩, s⟩ j h2 ⟨i, hs, hi, hon, g2⟩
  have hs : s = (i : Int) := hs
  have hon : on = (xs ++ (four n).take i).length := hon
  have g2' : Grow h (blkOf a) h2 5 1 oa (xs ++ (four n).take i).length oc ((xs ++ (four n).take i).map (Value.int .u8)) := g2
  subst hs; subst hon
  refine br_of (fun hlt => ?_) (fun hlt => ?_)
  · have hlt : (i : Int) < 4 := of_decide_eq_true hlt
    have h8 : IntKind.wrap .i64 ((8 : Int) * (i : Int)) = 8 * (i : Int) := wr64 (by omega) (by omega)
    have ez : IntKind.wrap .i64 ((i : Int) + 1) = ((i + 1 : Nat) : Int) := (by first | (rw [wr64 (by omega) (by omega)]; omega) | (simp only [IntKind.wrap_i64]; omega))
    simp only [h8]
    refine ck_t (decide_eq_true (by omega)) ?_
    rw [shr_byte n i (by omega) rfl]
    have hL : (xs ++ (four n).take i).length ≤ 1000000 := by rw [List.length_append, List.length_take]; omega
    refine Grow.push ap8 g2' rfl hL (by decide) fun a' c' h3 g3 => ?_
    have et : xs ++ (four n).take (i + 1) = xs ++ (four n).take i ++ [byteAt n i] := by
      rw [List.take_add_one, four_get n (by omega), List.append_assoc]; rfl
    have el : (xs ++ (four n).take i).length + 1 = (xs ++ (four n).take (i + 1)).length := by rw [et]; simp; omega
    have em : (xs ++ (four n).take i).map (Value.int .u8) ++ [.int .u8 (byteAt n i)] = (xs ++ (four n).take (i + 1)).map (Value.int .u8) := by rw [et]; simp
    rw [el, em] at g3
    simp only [ez, el]
    exact ⟨⟨i + 1, rfl, by omega, rfl, g3⟩, (by first | omega | (dsimp only; omega) | (simp only []; omega))⟩
  · have hlt : ¬ (i : Int) < 4 := of_decide_eq_false hlt
    have : i = 4 := by omega
    subst this
    have e : (four n).take 4 = four n := rfl
    rw [e] at g2' ⊢
    exact ⟨oa, oc, rfl, g2'⟩
theorem number_ok (a : Option Addr) (c : Nat) (xs : List Int) (at_ : Nat) (m : Nat) (h : Heap) (s : Sl8 h a c xs) (hl : 4 * at_ + 4 ≤ xs.length) (hx : xs.length ≤ 100000) :
    CallsH Tryd.prog 53 [.slice a m c, .int .i64 (at_ : Int)] h fun v h' => v = .int .u32 (wordAt xs (4 * at_)) ∧ h' = h := by
  refine fun_ok Geo.hm' Tryd.func53 (by kernel_rfl) (F53_eq _ _ _ _ _ h) ?_
  unfold F53
  rw [wr64 (n := 4 * (at_ : Int)) (by omega) (by omega), wr64 (n := 4 * (at_ : Int) + 4) (by omega) (by omega)]
  refine s.sl (4 * at_) (4 * at_ + 4) c (by omega) (by omega) rfl (by omega) hl (by have := s.le; omega) (Nat.le_refl _) fun b d sb => ?_
  rw [show 4 * at_ + 4 - 4 * at_ = 4 by omega] at sb ⊢
  generalize hys : (xs.drop (4 * at_)).take 4 = ys at sb
  have h4 : ys.length = 4 := by rw [← hys, List.length_take, List.length_drop]; omega
  have hw : wordAt xs (4 * at_) = accW (bys ys) 4 := by
    rw [accW_four, ← hys]
    unfold wordAt
    rw [bys_take (by omega), bys_take (by omega), bys_take (by omega), bys_take (by omega), bys_drop, bys_drop, bys_drop, bys_drop]; rfl
  rw [hw]
  refine ⟨fun (q : Int × Int) h' => h' = h ∧ ∃ i : Nat, q.2 = i ∧ i ≤ 4 ∧ q.1 = accW (bys ys) i, fun (q : Int × Int) _ => (4 - q.2).toNat, ⟨rfl, 0, rfl, by omega, rfl⟩, ?_⟩
  rintro ⟨acc, q⟩ j h' ⟨hh, i, hq, hi, ha⟩
  simp only [] at hq ha ⊢
  subst h'; subst hq; subst ha
  refine br_of (fun hlt => ?_) (fun hlt => ?_)
  · have hlt : i < 4 := by simp at hlt; omega
    rw [wr64 (n := 8 * (i : Int)) (by omega) (by omega), wr64 (n := (i : Int) + 1) (by omega) (by omega)]
    refine sb.at_ i rfl (show i < ys.length by omega) (by omega) (ck_t (decide_eq_true (by omega)) ⟨⟨rfl, i + 1, rfl, by omega, ?_⟩, (by first | omega | (dsimp only; omega) | (simp only []; omega))⟩)
    have hby : ∀ t, 0 ≤ bys ys t ∧ bys ys t < 256 := fun t => sb.byt.get t
    obtain ⟨h0, hlt'⟩ := accW_nat hby i
    obtain ⟨h0', hlt''⟩ := hby i
    simp only [accW]
    generalize accW (bys ys) i = A at h0 hlt' ⊢
    generalize bys ys i = B at h0' hlt'' ⊢
    obtain ⟨A, rfl⟩ := Int.eq_ofNat_of_zero_le h0
    obtain ⟨B, rfl⟩ := Int.eq_ofNat_of_zero_le h0'
    rw [or_byte (n := A) (c := B) (i := i) (by omega) (Int.ofNat_lt.1 (by rw [Int.natCast_pow]; exact hlt')) (by omega) rfl]
    simp
  · have hi : i = 4 := by simp at hlt; omega
    subst hi
    exact ⟨rfl, rfl⟩
theorem equal_ok (a b : Option Addr) (ca cb : Nat) (xs ys : List Int) (h : Heap) (hx : xs.length ≤ 1000000) (ra : Ar .u32 h a xs) (rb : Ar .u32 h b ys) :
    CallsH Tryd.prog 62 [.slice a xs.length ca, .slice b ys.length cb] h fun v h' => v = .bool (decide (xs = ys)) ∧ h' = h := by
  refine fun_ok Geo.hm' Tryd.func62 (by kernel_rfl) (F62_eq _ _ _ _ _ _ _ h) ?_
  unfold F62
  refine br_of (fun hne => ?_) (fun heq => ?_)
  · have : xs ≠ ys := fun e => by subst e; simp at hne
    exact ⟨by simp [this], rfl⟩
  have hl : xs.length = ys.length := by simp at heq; omega
  refine ⟨fun (s : Int) h' => h' = h ∧ ∃ i : Nat, s = i ∧ i ≤ xs.length ∧ xs.take i = ys.take i, fun (s : Int) _ => (xs.length - s).toNat, ⟨rfl, 0, rfl, by omega, rfl⟩, ?_⟩
  rintro s j h' ⟨hh, i, rfl, hi, hpre⟩
  subst h'
  refine br_of (fun hlt => ?_) (fun hlt => ?_)
  · have hlt : i < xs.length := by simp at hlt; omega
    refine ix_ld ra hlt hlt (ix_ld rb (by omega) (by omega) (br_of (fun hd => ?_) (fun hd => ?_)))
    · have hd : xs[i] ≠ ys[i] := by simpa using hd
      have : xs ≠ ys := fun e => by subst e; exact hd rfl
      exact ⟨by simp [this], by trivial⟩
    · have hd : xs[i] = ys[i] := by simpa using hd
      rw [wr64 (by omega) (by omega)]
      refine ⟨⟨by trivial, i + 1, by omega, by omega, ?_⟩, by dsimp only; omega⟩
      rw [List.take_add_one, List.take_add_one, hpre, List.getElem?_eq_getElem hlt, List.getElem?_eq_getElem (show i < ys.length by omega), hd]
  · have hlt : ¬ (i : Int) < (xs.length : Int) := of_decide_eq_false hlt
    have : i = xs.length := by omega
    subst this
    rw [List.take_length, List.take_of_length_le (by omega)] at hpre
    exact ⟨by simp [hpre], rfl⟩
/- ROWS OF BLOCKS. -/
def RB (h : Heap) (a : Option Addr) (l : List (List Int)) : Prop := ∀ (i : Nat) (bs : List Int), l[i]? = some bs → ∃ b o a' c', a = some ⟨b, o, none⟩ ∧ b < h.size ∧ cellH h ⟨b, o + i, none⟩ = some (.slice a' bs.length c') ∧ Sl8 h a' c' bs
theorem RB.new {h h' : Heap} {a : Option Addr} {l : List (List Int)} (r : RB h a l) (n : New h h') : RB h' a l := fun i bs hi => by
  obtain ⟨b, o, a', c', e, hl, hc, s⟩ := r i bs hi
  exact ⟨b, o, a', c', e, Nat.lt_of_lt_of_le hl n.size, by rw [cellH_same (n.same b hl)]; exact hc, s.new n⟩
/-- A block of a row, loaded. -/
theorem RB.ld {h : Heap} {a : Option Addr} {l : List (List Int)} (r : RB h a l) {i n : Nat} (hi : i < l.length) (hn : i < n) {F : Option Addr × Nat × Nat → Prop} (hF : ∀ a' c', Sl8 h a' c' l[i] → F (a', l[i].length, c')) :
    ptrW a (fun p => idxW (i : Int) n true (ldW .slice (Addr.add p (Int.toNat (i : Int) * 1)) F h)) := by
  obtain ⟨b, o, a', c', rfl, _, hc, s⟩ := r i _ (List.getElem?_eq_getElem hi)
  refine ⟨⟨⟨by omega, by omega⟩, rfl⟩, ld_of (c := .slice) (a', l[i].length, c') ?_ (hF a' c' s)⟩
  rw [add_mk, Int.toNat_natCast, Nat.mul_one]; exact hc
theorem not16_ok (a : Option Addr) (n c : Nat) (h : Heap) : CallsH Tryd.prog 51 [.slice a n c] h fun v h' => v = .bool (decide (n ≠ 16)) ∧ h' = h := by
  refine fun_ok Geo.hm' Tryd.func51 (by kernel_rfl) (F51_eq _ _ _ _ h) ?_
  unfold F51
  refine ⟨?_, rfl⟩
  congr 1
  by_cases e : n = 16
  · subst e; rfl
  · rw [decide_eq_true e]; simp; omega
theorem not0_ok (x : Int) (h : Heap) : CallsH Tryd.prog 57 [.int .u8 x] h fun v h' => v = .bool (decide (x ≠ 0)) ∧ h' = h := by
  refine fun_ok Geo.hm' Tryd.func57 (by kernel_rfl) (F57_eq _ _ h) ?_
  unfold F57
  refine ⟨?_, rfl⟩
  congr 1
  by_cases e : x = 0
  · subst e; rfl
  · rw [decide_eq_true e]; simp [e]
theorem idx16_ok (a : Option Addr) (c : Nat) (l : List (List Int)) (h : Heap) (r : RB h a l) (hl : l.length ≤ 1000000) :
    CallsH Tryd.prog 88 [.slice a l.length c, .func (.func 51) #[] #[]] h fun v h' => ∃ i : Int, v = .int .i64 i ∧ (0 ≤ i ↔ l.any (fun b => decide (b.length ≠ 16)) = true) ∧ h' = h := by
  refine fun_ok Geo.hm' Tryd.func88 (by kernel_rfl) (F88_eq _ _ _ _ _ h) ?_
  unfold F88
  refine ⟨fun (s : Int) h' => h' = h ∧ ∃ i : Nat, s = i ∧ i ≤ l.length ∧ ∀ b ∈ l.take i, b.length = 16, fun (s : Int) _ => ((l.length : Int) - s).toNat, ⟨rfl, 0, rfl, Nat.zero_le _, by simp⟩, ?_⟩
  rintro s j h' ⟨hh, i, rfl, hi, hno⟩; subst h'
  refine br_of (fun hlt => ?_) (fun hlt => ?_)
  · have hlt : (i : Int) < (l.length : Int) := of_decide_eq_true hlt
    have hiL : i < l.length := by omega
    refine r.ld hiL hiL fun a' c' _ => callW_of (first := #[]) (cap := #[]) (not16_ok a' l[i].length c' h) ?_
    rintro v h' ⟨rfl, hh⟩; subst h'
    refine ⟨decide (l[i].length ≠ 16), rfl, br_of (fun he => ⟨(i : Int), rfl, ⟨fun _ => ?_, fun _ => by omega⟩, rfl⟩) fun he => ⟨⟨rfl, i + 1, (by first | (rw [wr64 (by omega) (by omega)]; omega) | (simp only [IntKind.wrap_i64]; omega)), hiL, ?_⟩, (by dsimp only; first | (rw [wr64 (by omega) (by omega)]; omega) | (rw [wr64 (by omega) (by omega), wr64 (by omega) (by omega)]; omega) | (simp only [IntKind.wrap_i64]; omega))⟩⟩
    · exact List.any_eq_true.2 ⟨_, List.getElem_mem hiL, he⟩
    · intro b hb
      rw [← List.take_append_getElem hiL] at hb
      rcases List.mem_append.1 hb with hb | hb
      · exact hno b hb
      · rw [List.mem_singleton.1 hb]; exact Classical.not_not.1 (of_decide_eq_false he)
  · have hlt : ¬ (i : Int) < (l.length : Int) := of_decide_eq_false hlt
    have : i = l.length := by omega
    subst this
    rw [List.take_length] at hno
    refine ⟨-1, rfl, ⟨fun h => by omega, fun h => ?_⟩, rfl⟩
    obtain ⟨b, hb, e⟩ := List.any_eq_true.1 h
    exact ((of_decide_eq_true e) (hno b hb)).elim
theorem has16_ok (a : Option Addr) (c : Nat) (l : List (List Int)) (h : Heap) (r : RB h a l) (hl : l.length ≤ 1000000) :
    CallsH Tryd.prog 50 [.slice a l.length c, .func (.func 51) #[] #[]] h fun v h' => v = .bool (l.any fun b => decide (b.length ≠ 16)) ∧ h' = h := by
  refine fun_ok Geo.hm' Tryd.func50 (by kernel_rfl) (F50_eq _ _ _ _ _ h) ?_
  unfold F50
  refine call_of (idx16_ok a c l h r hl) ?_
  rintro v h' ⟨i, rfl, hi, hh⟩; subst h'
  refine ⟨i, rfl, ?_, rfl⟩
  congr 1
  rw [Bool.eq_iff_iff, decide_eq_true_iff]
  exact hi
theorem idx0_ok (a : Option Addr) (c : Nat) (xs : List Int) (h : Heap) (r : Ar .u8 h a xs) (hl : xs.length ≤ 1000000) :
    CallsH Tryd.prog 91 [.slice a xs.length c, .func (.func 57) #[] #[]] h fun v h' => ∃ i : Int, v = .int .i64 i ∧ (0 ≤ i ↔ xs.any (fun x => decide (x ≠ 0)) = true) ∧ h' = h := by
  refine fun_ok Geo.hm' Tryd.func91 (by kernel_rfl) (F91_eq _ _ _ _ _ h) ?_
  unfold F91
  refine ⟨fun (s : Int) h' => h' = h ∧ ∃ i : Nat, s = i ∧ i ≤ xs.length ∧ ∀ x ∈ xs.take i, x = 0, fun (s : Int) _ => ((xs.length : Int) - s).toNat, ⟨rfl, 0, rfl, Nat.zero_le _, by simp⟩, ?_⟩
  rintro s j h' ⟨hh, i, rfl, hi, hno⟩; subst h'
  refine br_of (fun hlt => ?_) (fun hlt => ?_)
  · have hlt : (i : Int) < (xs.length : Int) := of_decide_eq_true hlt
    have hiL : i < xs.length := by omega
    refine ix_ld r hiL hiL (callW_of (first := #[]) (cap := #[]) (not0_ok xs[i] h) ?_)
    rintro v h' ⟨rfl, hh⟩; subst h'
    refine ⟨decide (xs[i] ≠ 0), rfl, br_of (fun he => ⟨(i : Int), rfl, ⟨fun _ => ?_, fun _ => by omega⟩, rfl⟩) fun he => ⟨⟨rfl, i + 1, (by first | (rw [wr64 (by omega) (by omega)]; omega) | (simp only [IntKind.wrap_i64]; omega)), hiL, ?_⟩, (by dsimp only; first | (rw [wr64 (by omega) (by omega)]; omega) | (rw [wr64 (by omega) (by omega), wr64 (by omega) (by omega)]; omega) | (simp only [IntKind.wrap_i64]; omega))⟩⟩
    · exact List.any_eq_true.2 ⟨_, List.getElem_mem hiL, he⟩
    · intro x hx
      rw [← List.take_append_getElem hiL] at hx
      rcases List.mem_append.1 hx with hx | hx
      · exact hno x hx
      · rw [List.mem_singleton.1 hx]; exact Classical.not_not.1 (of_decide_eq_false he)
  · have hlt : ¬ (i : Int) < (xs.length : Int) := of_decide_eq_false hlt
    have : i = xs.length := by omega
    subst this
    rw [List.take_length] at hno
    refine ⟨-1, rfl, ⟨fun h => by omega, fun h => ?_⟩, rfl⟩
    obtain ⟨x, hx, e⟩ := List.any_eq_true.1 h
    exact ((of_decide_eq_true e) (hno x hx)).elim
theorem has0_ok (a : Option Addr) (c : Nat) (xs : List Int) (h : Heap) (r : Ar .u8 h a xs) (hl : xs.length ≤ 1000000) :
    CallsH Tryd.prog 56 [.slice a xs.length c, .func (.func 57) #[] #[]] h fun v h' => v = .bool (xs.any fun x => decide (x ≠ 0)) ∧ h' = h := by
  refine fun_ok Geo.hm' Tryd.func56 (by kernel_rfl) (F56_eq _ _ _ _ _ h) ?_
  unfold F56
  refine call_of (idx0_ok a c xs h r hl) ?_
  rintro v h' ⟨i, rfl, hi, hh⟩; subst h'
  refine ⟨i, rfl, ?_, rfl⟩
  congr 1
  rw [Bool.eq_iff_iff, decide_eq_true_iff]
  exact hi
end Go.Proofs.YthimfpkkdhpceaaDoor.Ck
