/-
  Reference 08: a ranking as two rows of slots, with where its rows lie.
-/
import Derived.Test.YtfanjfbenhocnaaGreatDoorWR8
import Derived.Test.YtfanjfbenhocnaaGreatDoorSep
import Derived.Test.YtfanjfbenhocnaaGreatDoorOwn
namespace Go.Proofs.YtfanjfbenhocnaaGreatDoor.R8P
open Go.Pl Go.Proofs.YtfanjfbenhocnaaGreatDoor.W
theorem hm' : Tryz.prog.follows .mixedOrders = true := by kernel_rfl
abbrev TI : TypeId := 3
theorem apI : apB Tryz.prog 45 TI 1 8 = true := by kernel_rfl
abbrev iv (l : List Int) : List Value := l.map (Value.int .i64)
/-- The reference's ranking: block q; its two rows lie in later blocks, that are P. -/
def RK (P : Nat → Prop) (h : Heap) (q : Nat) (A B : List Int) (S : Int) : Prop := ∃ a0 c0 a1 c1 T, Blk h q #[.slice a0 A.length c0, .slice a1 B.length c1, .int .i64 S] T ∧ RowS h TI 1 a0 A.length c0 (iv A) ∧ RowS h TI 1 a1 B.length c1 (iv B) ∧ (∀ g, blkOf a0 = some g → q < g ∧ P g) ∧ ∀ g, blkOf a1 = some g → q < g ∧ P g
theorem RK.new {P : Nat → Prop} {h h' : Heap} {q : Nat} {A B : List Int} {S : Int} (r : RK P h q A B S) (n : New h h') : RK P h' q A B S := by
  obtain ⟨a0, c0, a1, c1, T, b, r0, r1, l0, l1⟩ := r
  exact ⟨a0, c0, a1, c1, T, b.new n, r0.new n, r1.new n, l0, l1⟩
theorem RK.mono {P Q : Nat → Prop} {h : Heap} {q : Nat} {A B : List Int} {S : Int} (r : RK P h q A B S) (n : ∀ g, P g → Q g) : RK Q h q A B S := by
  obtain ⟨a0, c0, a1, c1, T, b, r0, r1, l0, l1⟩ := r
  exact ⟨a0, c0, a1, c1, T, b, r0, r1, fun g hg => ⟨(l0 g hg).1, n g (l0 g hg).2⟩, fun g hg => ⟨(l1 g hg).1, n g (l1 g hg).2⟩⟩
/-- What is read of it stays. -/
theorem RK.same {P : Nat → Prop} {h h' : Heap} {q : Nat} {A B : List Int} {S : Int} (r : RK P h q A B S) (hs : h.size ≤ h'.size) (hq : h'[q]? = h[q]?) (hk : ∀ g, P g → g < h.size → h'[g]? = h[g]?) : RK P h' q A B S := by
  obtain ⟨a0, c0, a1, c1, T, b, r0, r1, l0, l1⟩ := r
  exact ⟨a0, c0, a1, c1, T, hq.trans b, r0.keep hs fun g hg hl => hk g (l0 g hg).2 hl, r1.keep hs fun g hg hl => hk g (l1 g hg).2 hl, l0, l1⟩
theorem RK.lt {P : Nat → Prop} {h : Heap} {q : Nat} {A B : List Int} {S : Int} (r : RK P h q A B S) : q < h.size := by
  obtain ⟨a0, c0, a1, c1, T, b, _⟩ := r; exact b.lt
theorem has_ok (h : Heap) (a : Option Addr) (n c : Nat) (x : Int) (A : List Int) (hn : n = A.length) (hl : A.length ≤ 1000000) (r : Ar .i64 h a A) :
    CallsH Tryz.prog 69 [.slice a n c, .int .i64 x] h fun v h' => v = .bool (decide (x ∈ A)) ∧ h' = h := by
  subst hn
  refine fun_ok hm' Tryz.func69 (by kernel_rfl) (F69_eq _ _ _ _ _ h) ?_
  unfold F69
  refine ⟨fun (s : Int) h' => h' = h ∧ ∃ i : Nat, s = i ∧ i ≤ A.length ∧ x ∉ A.take i, fun (s : Int) _ => ((A.length : Int) - s).toNat, ⟨rfl, 0, rfl, Nat.zero_le _, by simp⟩, ?_⟩
  rintro s j h' ⟨hh, i, rfl, hi, hno⟩; subst h'
  refine br_of (fun hlt => ?_) (fun hlt => ?_)
  · have hlt : (i : Int) < (A.length : Int) := of_decide_eq_true hlt
    have hiL : i < A.length := by omega
    refine ix_ld r hiL hiL (br_of (fun he => ⟨?_, rfl⟩) fun he => ⟨⟨rfl, i + 1, (by first | (rw [wr64 (by omega) (by omega)]; omega) | (simp only [IntKind.wrap_i64]; omega)), hiL, ?_⟩, (by dsimp only; first | (rw [wr64 (by omega) (by omega)]; omega) | (rw [wr64 (by omega) (by omega), wr64 (by omega) (by omega)]; omega) | (simp only [IntKind.wrap_i64]; omega))⟩)
    · have he : A[i] = x := by simpa using he
      rw [decide_eq_true (he ▸ List.getElem_mem hiL)]
    · have he : ¬ A[i] = x := by simpa using he
      rw [← List.take_append_getElem hiL, List.mem_append, List.mem_singleton]
      rintro (e | e)
      · exact hno e
      · exact he e.symm
  · have hlt : ¬ (i : Int) < (A.length : Int) := of_decide_eq_false hlt
    have : i = A.length := by omega
    subst this
    rw [List.take_length] at hno
    exact ⟨by rw [decide_eq_false hno], rfl⟩
theorem in8_ok (h : Heap) (q : Nat) (x S : Int) (A B : List Int) (hA : A.length ≤ 1000) (hB : B.length ≤ 1000) {P : Nat → Prop} (R : RK P h q A B S) :
    CallsH Tryz.prog 54 [.pointer (some ⟨q, 0, none⟩), .int .i64 x] h fun v h' => v = .bool (decide (x ∈ A ∨ x ∈ B)) ∧ h' = h := by
  refine fun_ok hm' Tryz.func54 (by kernel_rfl) (F54_eq _ _ _ h) ?_
  obtain ⟨a0, c0, a1, c1, T, b, r0, r1, l0, l1⟩ := R
  unfold F54
  refine ld_of (c := .slice) (a0, A.length, c0) (by rw [add_mk, cellH_blk b]; rfl) (call_of (has_ok h a0 _ c0 x A rfl (by omega) r0.ar) ?_)
  rintro v h' ⟨rfl, hh⟩; subst h'
  refine ⟨_, rfl, br_of (fun h0 => ⟨?_, rfl⟩) fun h0 => ld_of (c := .slice) (a1, B.length, c1) (by rw [add_mk, cellH_blk b]; rfl) (call_of (has_ok h a1 _ c1 x B rfl (by omega) r1.ar) ?_)⟩
  · have h0 : x ∈ A := of_decide_eq_true h0
    rw [decide_eq_true (.inl h0)]
  · rintro v h' ⟨rfl, hh⟩; subst h'
    have h0 : x ∉ A := of_decide_eq_false h0
    refine ⟨_, rfl, ?_, rfl⟩
    congr 1
    rw [decide_eq_decide]
    exact ⟨.inr, fun e => e.resolve_left h0⟩
def but (x : Int) (A : List Int) : List Int := A.filter fun y => y != x
theorem but_ok (h : Heap) (a : Option Addr) (n c : Nat) (x : Int) (A : List Int) (hn : n = A.length) (hl : A.length ≤ 1000) (r : Ar .i64 h a A) :
    CallsH Tryz.prog 70 [.slice a n c, .int .i64 x] h fun v h' => ∃ a' c', v = .slice a' (but x A).length c' ∧ Got .i64 TI h h' a' c' (but x A) ∧ ∀ g, blkOf a' = some g → h.size ≤ g ∧ g < h'.size := by
  subst hn
  refine fun_ok hm' Tryz.func70 (by kernel_rfl) (F70_eq _ _ _ _ _ h) ?_
  unfold F70
  refine new_of fun h1 b1 n1 s1 => ?_
  have hr0 : ∀ b : Nat, blkOf (some (⟨h.size, 0, none⟩ : Addr)) = some b → h.size ≤ b := fun b e => by injection e with e; change h.size = b at e; omega
  refine ⟨fun (s : (Option Addr × Nat × Nat) × Int) h' => ∃ i : Nat, s.2 = i ∧ i ≤ A.length ∧ s.1.2.1 = (but x (A.take i)).length ∧ Grow h1 (blkOf (some (⟨h.size, 0, none⟩ : Addr))) h' TI 1 s.1.1 s.1.2.1 s.1.2.2 (iv (but x (A.take i))), fun (s : (Option Addr × Nat × Nat) × Int) _ => ((A.length : Int) - s.2).toNat, ⟨0, rfl, Nat.zero_le _, rfl, Grow.start (RowS.nil' h1 TI 1 (some ⟨h.size, 0, none⟩))⟩, ?_⟩
  rintro ⟨⟨oa, on, oc⟩, s⟩ j h2 ⟨i, hs, hi, hon, g2⟩
  have hs : s = (i : Int) := hs
  have hon : on = (but x (A.take i)).length := hon
  have g2 : Grow h1 (blkOf (some (⟨h.size, 0, none⟩ : Addr))) h2 TI 1 oa on oc (iv (but x (A.take i))) := g2
  subst hs; subst hon
  have n2 : New h h2 := g2.upd.grow n1 hr0
  have r2 := r.new n2
  refine br_of (fun hlt => ?_) (fun hlt => ?_)
  · have hlt : (i : Int) < (A.length : Int) := of_decide_eq_true hlt
    have hiL : i < A.length := by omega
    have ez : IntKind.wrap .i64 ((i : Int) + 1) = ((i + 1 : Nat) : Int) := (by first | (rw [wr64 (by omega) (by omega)]; omega) | (simp only [IntKind.wrap_i64]; omega))
    have htk : but x (A.take (i + 1)) = but x (A.take i) ++ if (A[i] != x) = true then [A[i]] else [] := by
      unfold but
      rw [← List.take_append_getElem hiL, List.filter_append]
      congr 1
      by_cases he : (A[i] != x) = true
      · rw [if_pos he]; simp only [List.filter_cons, he, if_true, List.filter_nil]
      · rw [if_neg he]; simp only [List.filter_cons, he, List.filter_nil]; rfl
    have hfl : (but x (A.take i)).length ≤ i := by unfold but; refine Nat.le_trans (List.length_filter_le _ _) ?_; rw [List.length_take]; omega
    refine ix_ld r2 hiL hiL (br_of (fun he => ?_) (fun he => ?_))
    · have he : (A[i] != x) = true := he
      rw [if_pos he] at htk
      refine ix_ld r2 hiL hiL ?_
      refine Grow.push apI (v := .int .i64 A[i]) g2 rfl (show (but x (A.take i)).length ≤ 1000000 by omega) (by omega) fun a3 c3 h3 g3 => ?_
      rw [ez]
      refine ⟨⟨i + 1, rfl, hiL, ?_, ?_⟩, (by first | omega | (dsimp only; omega) | (simp only []; omega))⟩
      · rw [htk, List.length_append]; rfl
      · rw [htk, iv, List.map_append]; exact g3
    · have he : ¬ (A[i] != x) = true := by rw [show (A[i] != x) = false from he]; simp
      rw [if_neg he, List.append_nil] at htk
      rw [ez]
      exact ⟨⟨i + 1, rfl, hiL, by rw [htk], by rw [htk]; exact g2⟩, (by first | omega | (dsimp only; omega) | (simp only []; omega))⟩
  · have hlt : ¬ (i : Int) < (A.length : Int) := of_decide_eq_false hlt
    have : i = A.length := by omega
    subst this
    rw [List.take_length] at g2 ⊢
    refine ⟨oa, oc, rfl, g2.got n1 hr0, fun g hg => ?_⟩
    have hz := g2.upd.size
    rcases g2.at_ with e | ⟨b, e, hb⟩
    · rw [e] at hg; injection hg with hg; change h.size = g at hg; omega
    · rw [e] at hg; injection hg with hg; have := n1.size; omega
theorem but_len (x : Int) (A : List Int) : (but x A).length ≤ A.length := List.length_filter_le _ _
theorem remove8_ok (h : Heap) (q : Nat) (x S : Int) (A B : List Int) (hA : A.length ≤ 200) (hB : B.length ≤ 200) {P : Nat → Prop} (R : RK P h q A B S) :
    CallsH Tryz.prog 56 [.pointer (some ⟨q, 0, none⟩), .int .i64 x] h fun v h' => (¬ (x ∈ A ∨ x ∈ B) ∧ v = .bool false ∧ h' = h) ∨ ((x ∈ A ∨ x ∈ B) ∧ v = .bool true ∧ Upd q h h' ∧ RK (fun g => P g ∨ (h.size ≤ g ∧ g < h'.size)) h' q (but x A) (but x B) S) := by
  refine fun_ok hm' Tryz.func56 (by kernel_rfl) (F56_eq _ _ _ h) ?_
  unfold F56
  refine call_of (in8_ok h q x S A B (by omega) (by omega) R) ?_
  rintro v h' ⟨rfl, hh⟩; subst h'
  obtain ⟨a0, c0, a1, c1, T, b, r0, r1, l0, l1⟩ := R
  have hq := b.lt
  refine ⟨_, rfl, br_of (fun h0 => .inl ⟨?_, rfl, rfl⟩) fun h0 => ?_⟩
  · simpa using h0
  have h0 : x ∈ A ∨ x ∈ B := by
    refine Classical.not_not.1 fun hn => ?_
    rw [decide_eq_false hn] at h0
    cases h0
  refine ld_of (c := .slice) (a0, A.length, c0) (by rw [add_mk, cellH_blk b]; rfl) (call_of (but_ok h a0 _ c0 x A rfl (by omega) r0.ar) ?_)
  rintro v h2 ⟨a2, c2, rfl, q2, l2⟩
  have n2 := q2.new
  refine ⟨(a2, _, c2), rfl, ?_⟩
  rw [add_mk]
  refine st_blk (b.new n2) (by simp) fun h3 b3 o3 => ?_
  have b3 : Blk h3 q #[.slice a2 (but x A).length c2, .slice a1 B.length c1, .int .i64 S] T := b3
  have hs3 := o3.size
  have hs2 := n2.size
  have r1' : RowS h3 TI 1 a1 B.length c1 (iv B) := (r1.new n2).keep (by omega) fun g hg _ => o3.same g (by have := (l1 g hg).1; omega)
  have r0' : RowS h3 TI 1 a2 (but x A).length c2 (iv (but x A)) := q2.row.keep (by omega) fun g hg _ => o3.same g (by have := l2 g hg; omega)
  refine ld_of (c := .slice) (a1, B.length, c1) (by rw [add_mk, cellH_blk b3]; rfl) (call_of (but_ok h3 a1 _ c1 x B rfl (by omega) r1'.ar) ?_)
  rintro v h4 ⟨a4, c4, rfl, q4, l4⟩
  have n4 := q4.new
  refine ⟨(a4, _, c4), rfl, ?_⟩
  rw [add_mk]
  refine st_blk (b3.new n4) (by simp) fun h5 b5 o5 => .inr ⟨h0, rfl, (n2.upd.trans o3.upd).trans (n4.upd.trans o5.upd), ?_⟩
  have b5 : Blk h5 q #[.slice a2 (but x A).length c2, .slice a4 (but x B).length c4, .int .i64 S] T := b5
  have hs5 := o5.size
  have hs4 := n4.size
  exact ⟨a2, c2, a4, c4, T, b5, (r0'.new n4).keep (by omega) fun g hg _ => o5.same g (by have := l2 g hg; omega), q4.row.keep (by omega) fun g hg _ => o5.same g (by have := l4 g hg; omega), fun g hg => ⟨by have := l2 g hg; omega, .inr (by have := l2 g hg; omega)⟩, fun g hg => ⟨by have := l4 g hg; omega, .inr (by have := l4 g hg; omega)⟩⟩
theorem insert8_ok (h : Heap) (q : Nat) (x S : Int) (A B : List Int) (hA : A.length ≤ 200) (hB : B.length ≤ 200) {P : Nat → Prop} (R : RK P h q A B S) :
    CallsH Tryz.prog 55 [.pointer (some ⟨q, 0, none⟩), .int .i64 x] h fun v h' => (¬ (0 ≤ x ∧ x < S ∧ ¬ (x ∈ A ∨ x ∈ B)) ∧ v = .bool false ∧ h' = h) ∨ ((0 ≤ x ∧ x < S ∧ ¬ (x ∈ A ∨ x ∈ B)) ∧ v = .bool true ∧ Upd q h h' ∧ RK (fun g => P g ∨ (h.size ≤ g ∧ g < h'.size)) h' q (x :: A) B S) := by
  refine fun_ok hm' Tryz.func55 (by kernel_rfl) (F55_eq _ _ _ h) ?_
  unfold F55
  refine cut_q (ts := []) (fun _ h' => h' = h ∧ 0 ≤ x ∧ x < S ∧ ¬ (x ∈ A ∨ x ∈ B)) ?_ ?_
  rotate_left
  · intro K hK
    have R' := R
    obtain ⟨a0, c0, a1, c1, T, b, r0, r1, l0, l1⟩ := R'
    refine br_of (fun h1 => .inl ⟨?_, rfl, rfl⟩) fun h1 => ld_of (c := .int .i64) S (by rw [add_mk, cellH_blk b]; rfl) (br_of (fun h2 => .inl ⟨?_, rfl, rfl⟩) fun h2 => call_of (in8_ok h q x S A B (by omega) (by omega) R) ?_)
    · have h1 : x < 0 := of_decide_eq_true h1
      omega
    · have h2 : x ≥ S := of_decide_eq_true h2
      omega
    rintro v h' ⟨rfl, hh⟩; subst h'
    have h1 : ¬ x < 0 := of_decide_eq_false h1
    have h2 : ¬ x ≥ S := of_decide_eq_false h2
    refine ⟨_, rfl, br_of (fun h3 => .inl ⟨?_, rfl, rfl⟩) fun h3 => hK () _ ⟨rfl, by omega, by omega, of_decide_eq_false h3⟩⟩
    exact fun hh => hh.2.2 (of_decide_eq_true h3)
  rintro _ h' ⟨hh, hx⟩ _; subst h'
  obtain ⟨a0, c0, a1, c1, T, b, r0, r1, l0, l1⟩ := R
  have hq := b.lt
  refine new_of fun h1 b1 n1 s1 => ld_of (c := .slice) (a0, A.length, c0) (by rw [add_mk, cellH_blk (b.new n1)]; rfl) ?_
  have b1 : Blk h1 h.size (iv [x]).toArray TI := b1
  have hr0 : ∀ b : Nat, blkOf (some (⟨h.size, 0, none⟩ : Addr)) = some b → h.size ≤ b := fun b e => by injection e with e; change h.size = b at e; omega
  refine Grow.ints apI (xs := [x]) (Grow.start (RowS.blk (n := 1) b1 rfl (by decide))) (r0.new n1).ar rfl (by omega) (by omega) fun a2 c2 h2 g2 => ?_
  have n2 : New h h2 := g2.upd.grow n1 hr0
  have hlo : ∀ g, blkOf a2 = some g → h.size ≤ g ∧ g < h2.size := fun g hg => by
    have hz := g2.upd.size
    rcases g2.at_ with e | ⟨b, e, hb⟩
    · rw [e] at hg; injection hg with hg; change h.size = g at hg; omega
    · rw [e] at hg; injection hg with hg; have := n1.size; omega
  rw [add_mk]
  refine st_blk (b.new n2) (by simp) fun h3 b3 o3 => .inr ⟨hx, rfl, n2.upd.trans o3.upd, ?_⟩
  have b3 : Blk h3 q #[.slice a2 (x :: A).length c2, .slice a1 B.length c1, .int .i64 S] T := by
    have := b3
    simpa [Nat.add_comm] using this
  have hs3 := o3.size
  refine ⟨a2, c2, a1, c1, T, b3, ?_, (r1.new n2).keep (by omega) fun g hg _ => o3.same g (by have := (l1 g hg).1; omega), fun g hg => ⟨by have := hlo g hg; omega, .inr (by have := hlo g hg; omega)⟩, fun g hg => ⟨(l1 g hg).1, .inl (l1 g hg).2⟩⟩
  have := g2.row.keep (h' := h3) (by omega) fun g hg _ => o3.same g (by have := hlo g hg; omega)
  simpa [Nat.add_comm] using this
def lastB (A B : List Int) : Option Int := if A.length = 0 then B.getLast? else A.getLast?
theorem victim8_ok (h : Heap) (q : Nat) (S : Int) (A B : List Int) (hA : A.length ≤ 200) (hB : B.length ≤ 200) {P : Nat → Prop} (R : RK P h q A B S) :
    CallsH Tryz.prog 41 [.pointer (some ⟨q, 0, none⟩)] h fun v h' => v = .tuple #[.int .i64 ((lastB A B).getD 0), .bool (lastB A B).isSome] ∧ h' = h := by
  refine fun_ok hm' Tryz.func41 (by kernel_rfl) (F41_eq _ _ h) ?_
  unfold F41
  obtain ⟨a0, c0, a1, c1, T, b, r0, r1, l0, l1⟩ := R
  have f0 : ∀ {F : Option Addr × Nat × Nat → Prop}, F (a0, A.length, c0) → ldW .slice (Addr.add ⟨q, 0, none⟩ 0) F h := fun hF => ld_of (c := .slice) (a0, A.length, c0) (by rw [add_mk, cellH_blk b]; rfl) hF
  have f1 : ∀ {F : Option Addr × Nat × Nat → Prop}, F (a1, B.length, c1) → ldW .slice (Addr.add ⟨q, 0, none⟩ 1) F h := fun hF => ld_of (c := .slice) (a1, B.length, c1) (by rw [add_mk, cellH_blk b]; rfl) hF
  refine f0 (br_of (fun h0 => f0 (f0 ?_)) fun h0 => f1 (br_of (fun h1 => f1 (f1 ?_)) fun h1 => ⟨?_, rfl⟩))
  · have h0 : (A.length : Int) > 0 := of_decide_eq_true h0
    have er : IntKind.wrap .i64 ((A.length : Int) - 1) = ((A.length - 1 : Nat) : Int) := by rw [wr64 (by omega) (by omega)]; omega
    dsimp only
    rw [er]
    refine ix_ld r0.ar (show A.length - 1 < A.length by omega) (by omega) ⟨?_, rfl⟩
    have e : lastB A B = some A[A.length - 1] := by unfold lastB; rw [if_neg (by omega), List.getLast?_eq_getElem?, List.getElem?_eq_getElem (by omega)]
    rw [e]; rfl
  · have h0 : ¬ (A.length : Int) > 0 := of_decide_eq_false h0
    have h1 : (B.length : Int) > 0 := of_decide_eq_true h1
    have er : IntKind.wrap .i64 ((B.length : Int) - 1) = ((B.length - 1 : Nat) : Int) := by rw [wr64 (by omega) (by omega)]; omega
    dsimp only
    rw [er]
    refine ix_ld r1.ar (show B.length - 1 < B.length by omega) (by omega) ⟨?_, rfl⟩
    have e : lastB A B = some B[B.length - 1] := by unfold lastB; rw [if_pos (by omega), List.getLast?_eq_getElem?, List.getElem?_eq_getElem (by omega)]
    rw [e]; rfl
  · have h0 : ¬ (A.length : Int) > 0 := of_decide_eq_false h0
    have h1 : ¬ (B.length : Int) > 0 := of_decide_eq_false h1
    have e : lastB A B = none := by unfold lastB; rw [if_pos (by omega), List.getLast?_eq_getElem?, List.getElem?_eq_none (by omega)]
    rw [e]; rfl
theorem touch8_ok (h : Heap) (q : Nat) (x S : Int) (A B : List Int) (hA : A.length ≤ 199) (hB : B.length ≤ 199) (hS : 0 ≤ S ∧ S ≤ 64) {P : Nat → Prop} (R : RK P h q A B S) (B2 : List Int) (hB2 : B2 = x :: but x B) (hLG : B2.length - 1 < B2.length) :
    CallsH Tryz.prog 53 [.pointer (some ⟨q, 0, none⟩), .int .i64 x] h fun v h' => (¬ (x ∈ A ∨ x ∈ B) ∧ v = .bool false ∧ h' = h) ∨ ((x ∈ A ∨ x ∈ B) ∧ v = .bool true ∧ Upd q h h' ∧
      if (B2.length : Int) > S / 2 then RK (fun g => P g ∨ (h.size ≤ g ∧ g < h'.size)) h' q (B2[B2.length - 1] :: but x A) (B2.take (B2.length - 1)) S else RK (fun g => P g ∨ (h.size ≤ g ∧ g < h'.size)) h' q (but x A) B2 S) := by
  refine fun_ok hm' Tryz.func53 (by kernel_rfl) (F53_eq _ _ _ h) ?_
  unfold F53
  refine call_of (remove8_ok h q x S A B (by omega) (by omega) R) ?_
  rintro v h1 (⟨hn, rfl, hh⟩ | ⟨hx, rfl, u1, R1⟩)
  · subst hh
    exact ⟨false, rfl, br_t rfl (.inl ⟨hn, rfl, rfl⟩)⟩
  have hlA := but_len x A
  have hlB := but_len x B
  have hq0 : q < h.size := by obtain ⟨_, _, _, _, _, b, _⟩ := R; exact b.lt
  refine ⟨true, rfl, br_f rfl ?_⟩
  generalize but x A = A1 at *
  generalize but x B = B1 at *
  obtain ⟨a0, c0, a1, c1, T, b, r0, r1, l0, l1⟩ := R1
  have hq := b.lt
  refine new_of fun h2 b2 n2 s2 => ld_of (c := .slice) (a1, B1.length, c1) (by rw [add_mk, cellH_blk (b.new n2)]; rfl) ?_
  have b2 : Blk h2 h1.size (iv [x]).toArray TI := b2
  have hr0 : ∀ b : Nat, blkOf (some (⟨h1.size, 0, none⟩ : Addr)) = some b → h1.size ≤ b := fun b e => by injection e with e; change h1.size = b at e; omega
  refine Grow.ints apI (xs := [x]) (Grow.start (RowS.blk (n := 1) b2 rfl (by decide))) (r1.new n2).ar rfl (by omega) (by omega) fun a3 c3 h3 g3 => ?_
  have n3 : New h1 h3 := g3.upd.grow n2 hr0
  have hlo : ∀ g, blkOf a3 = some g → h1.size ≤ g ∧ g < h3.size := fun g hg => by
    have hz := g3.upd.size
    rcases g3.at_ with e | ⟨b, e, hb⟩
    · rw [e] at hg; injection hg with hg; change h1.size = g at hg; omega
    · rw [e] at hg; injection hg with hg; have := n2.size; omega
  rw [add_mk]
  refine st_blk (b.new n3) (by simp) fun h4 b4 o4 => ?_
  have b4 : Blk h4 q #[.slice a0 A1.length c0, .slice a3 B2.length c3, .int .i64 S] T := by
    have := b4
    rw [hB2]
    simpa [Nat.add_comm] using this
  have hs4 := o4.size
  have hs3 := n3.size
  have r4 : RowS h4 TI 1 a3 B2.length c3 (iv B2) := by
    rw [hB2]
    have := g3.row.keep (h' := h4) (by omega) fun g hg _ => o4.same g (by have := hlo g hg; omega)
    simpa [Nat.add_comm] using this
  have r04 : RowS h4 TI 1 a0 A1.length c0 (iv A1) := (r0.new n3).keep (by omega) fun g hg _ => o4.same g (by have := (l0 g hg).1; omega)
  have u14 : Upd q h1 h4 := n3.upd.trans o4.upd
  have hBl : B2.length ≤ 200 := by rw [hB2, List.length_cons]; omega
  have hBp : 0 < B2.length := by omega
  have f1 : ∀ {F : Option Addr × Nat × Nat → Prop}, F (a3, B2.length, c3) → ldW .slice (Addr.add ⟨q, 0, none⟩ 1) F h4 := fun hF => ld_of (c := .slice) (a3, B2.length, c3) (by rw [add_mk, cellH_blk b4]; rfl) hF
  have ed : IntKind.wrap .i64 (Int.tdiv S 2) = S / 2 := by rw [Int.tdiv_eq_ediv_of_nonneg hS.1]; exact wr64 (by omega) (by omega)
  have er : IntKind.wrap .i64 ((B2.length : Int) - 1) = ((B2.length - 1 : Nat) : Int) := by rw [wr64 (by omega) (by omega)]; omega
  refine f1 (f1 (ld_of (c := .int .i64) S (by rw [add_mk, cellH_blk b4]; rfl) ?_))
  dsimp only
  rw [ed, er]
  refine br_of (fun hb => ?_) fun hb => .inr ⟨hx, rfl, u1.trans u14, ?_⟩
  rotate_left
  · have hb : ¬ (B2.length : Int) > S / 2 := of_decide_eq_false hb
    rw [if_neg hb]
    exact ⟨a0, c0, a3, c3, T, b4, r04, r4, fun g hg => ⟨(l0 g hg).1, (l0 g hg).2.imp id fun hh => ⟨hh.1, by omega⟩⟩, fun g hg => ⟨by have := hlo g hg; omega, .inr (by have := hlo g hg; have := u1.size; omega)⟩⟩
  have hb : (B2.length : Int) > S / 2 := of_decide_eq_true hb
  refine f1 (ix_ld r4.ar hLG hLG (ld_of (c := .slice) (a0, A1.length, c0) (by rw [add_mk, cellH_blk b4]; rfl) (new_of fun h5 b5 n5 s5 => ?_)))
  obtain ⟨G, hGG⟩ : ∃ G, G = B2[B2.length - 1] := ⟨_, rfl⟩
  rw [← hGG] at b5
  have b5 : Blk h5 h4.size (iv [G]).toArray TI := b5
  have hr4 : ∀ b : Nat, blkOf (some (⟨h4.size, 0, none⟩ : Addr)) = some b → h4.size ≤ b := fun b e => by injection e with e; change h4.size = b at e; omega
  refine Grow.ints apI (xs := [G]) (Grow.start (RowS.blk (n := 1) b5 rfl (by decide))) (r04.new n5).ar rfl (by omega) (by omega) fun a6 c6 h6 g6 => ?_
  have n6 : New h4 h6 := g6.upd.grow n5 hr4
  have hlo6 : ∀ g, blkOf a6 = some g → h4.size ≤ g ∧ g < h6.size := fun g hg => by
    have hz := g6.upd.size
    rcases g6.at_ with e | ⟨b, e, hb⟩
    · rw [e] at hg; injection hg with hg; change h4.size = g at hg; omega
    · rw [e] at hg; injection hg with hg; have := n5.size; omega
  rw [add_mk]
  refine st_blk (b4.new n6) (by simp) fun h7 b7 o7 => new_of fun h8 b8 n8 s8 => ?_
  have b7 : Blk h7 q #[.slice a6 (G :: A1).length c6, .slice a3 B2.length c3, .int .i64 S] T := by
    have := b7
    simpa [Nat.add_comm] using this
  have hs7 := o7.size
  have hs6 := n6.size
  have r7 : RowS h7 TI 1 a6 (G :: A1).length c6 (iv (G :: A1)) := by
    have := g6.row.keep (h' := h7) (by omega) fun g hg _ => o7.same g (by have := hlo6 g hg; omega)
    simpa [Nat.add_comm] using this
  have r17 : RowS h7 TI 1 a3 B2.length c3 (iv B2) := (r4.new n6).keep (by omega) fun g hg _ => o7.same g (by have := hlo g hg; omega)
  have hc3 := r17.le
  refine ld_of (c := .slice) (a3, B2.length, c3) (by rw [cellH_blk (b7.new n8)]; rfl) ⟨⟨by omega, by omega, by dsimp only; omega, by dsimp only; omega⟩, ?_⟩
  rw [Int.toNat_natCast (B2.length - 1), Int.toNat_natCast c3]
  have ra : Ar .i64 h8 (sliceBase a3 0 c3 1) ((B2.take (B2.length - 1)).drop 0) := Ar.drop ((r17.new n8).ar.take (B2.length - 1)) 0 c3 (.inl (by omega))
  rw [List.drop_zero] at ra
  have hr7 : ∀ b : Nat, blkOf (some (⟨h7.size, 0, none⟩ : Addr)) = some b → h7.size ≤ b := fun b e => by injection e with e; change h7.size = b at e; omega
  have htl : (B2.take (B2.length - 1)).length = B2.length - 1 := by rw [List.length_take]; omega
  refine Grow.ints apI (xs := []) (Grow.start (RowS.nil' h8 TI 1 (some ⟨h7.size, 0, none⟩))) ra htl.symm (by omega) (by omega) fun a9 c9 h9 g9 => ?_
  have n9 : New h7 h9 := g9.upd.grow n8 hr7
  have hlo9 : ∀ g, blkOf a9 = some g → h7.size ≤ g ∧ g < h9.size := fun g hg => by
    have hz := g9.upd.size
    rcases g9.at_ with e | ⟨b, e, hb⟩
    · rw [e] at hg; injection hg with hg; change h7.size = g at hg; omega
    · rw [e] at hg; injection hg with hg; have := n8.size; omega
  refine st_blk (b7.new n9) (by simp) fun h10 b10 o10 => .inr ⟨hx, rfl, ((u1.trans u14).trans (n6.upd.trans o7.upd)).trans (n9.upd.trans o10.upd), ?_⟩
  have b10 : Blk h10 q #[.slice a6 (G :: A1).length c6, .slice a9 (B2.take (B2.length - 1)).length c9, .int .i64 S] T := by
    have := b10
    rw [htl]
    simpa using this
  have hs10 := o10.size
  have hs9 := n9.size
  rw [if_pos hb, ← hGG]
  refine ⟨a6, c6, a9, c9, T, b10, (r7.new n9).keep (by omega) fun g hg _ => o10.same g (by have := hlo6 g hg; omega), ?_, fun g hg => ⟨by have := hlo6 g hg; omega, .inr (by have := hlo6 g hg; have := u1.size; omega)⟩, fun g hg => ⟨by have := hlo9 g hg; omega, .inr (by have := hlo9 g hg; have := u1.size; omega)⟩⟩
  have := g9.row.keep (h' := h10) (by omega) fun g hg _ => o10.same g (by have := hlo9 g hg; omega)
  rw [htl]
  simpa using this
end Go.Proofs.YtfanjfbenhocnaaGreatDoor.R8P
