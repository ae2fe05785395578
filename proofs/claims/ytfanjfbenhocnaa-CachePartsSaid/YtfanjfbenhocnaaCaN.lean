/-
  What awake and CacheDirty of layer 10 come to.
-/
import Derived.Test.YtfanjfbenhocnaaCaM
namespace Go.Proofs.Ytfanjfbenhocnaa.Ca
open Go.Pl Go.Pl.Lru Go.Pl.Ix Go.Proofs.Ytfanjfbenhocnaa.W Go.Proofs.Ytfanjfbenhocnaa.Lru Go.Proofs.Ytfanjfbenhocnaa.IxS
theorem CRep.len_ld {k p S : Nat} {t : Tags} {h : Heap} {c : Cm} (a : CRep k t h p S c) {F : Int → Heap → Prop} (hF : F ((que c.B).length : Int) h) :
    ldW .ptr (Addr.add ⟨p, 0, none⟩ 1) (fun (x : Option Addr) => callT Try.prog 12 [.pointer x] [.sc (.int .i64)] F h) h := by
  obtain ⟨rb, ib, eb, fa, fc, r, M, fr, es, T, TE, a, d⟩ := a
  refine ld_of (c := .ptr) (some ⟨ib, 0, none⟩) a.c1 (call_of (Ix.len_ok ib h M _ _ a.ix) ?_)
  rintro v h' ⟨rfl, hh⟩; subst h'
  exact ⟨_, rfl, hF⟩
abbrev c1 : Cm := (putC 2 bare 5 9 true).2
abbrev c2 : Cm := (putC 2 c1 0 7 false).2
theorem Run.next {k p S : Nat} {t t1 : Tags} {h h1 h2 : Heap} {c c' : Cm} (r : Run k t h p S c t1 h1) (a : Acted k t1 h1 p S c' h2) : ∃ t2, Run k t h p S c' t2 h2 := by
  obtain ⟨t2, R, _⟩ := r.act a
  exact ⟨t2, R⟩
theorem Run.fresh {k p S : Nat} {t1 : Tags} {h h1 : Heap} {c : Cm} (hk : k ≠ 0) (r : Run k (fun _ => (0, 0)) h p S c t1 h1) : New h h1 := ⟨r.fr.size, fun b hb => r.fr.same b hb (fun e => hk e.symm)⟩
set_option maxRecDepth 20000 in
theorem awake_ok (h : Heap) : CallsH Try.prog 28 [] h fun v h' => v = .bool true ∧ New h h' := by
  refine fun_ok hm' Try.func28 (by kernel_rfl) (F28_eq _ h) ?_
  unfold F28
  refine call_of (new_ok 2 1 (fun _ => (0, 0)) h (by decide) (by decide) (by decide)) ?_
  rintro v h1 ⟨p, t1, rfl, hp, a1, f1⟩
  have R1 : Run 1 (fun _ => (0, 0)) h p 2 bare t1 h1 := ⟨a1, f1.mono fun _ _ => trivial⟩
  refine ⟨(some ⟨p, 0, none⟩, .nilIface), rfl, cut_of (br_f rfl ⟨.inl rfl, br_f rfl fun _ => ?_⟩)⟩
  refine cut_q (ts := [.sc .bool]) (fun (s : Bool) h' => s = true ∧ ∃ t2, Run 1 (fun _ => (0, 0)) h p 2 c2 t2 h') ?_ ?_
  rotate_left
  · intro K hK
    refine call_of (put_ok 5 9 true R1.rep) ?_
    rintro v h2 ⟨rfl, ac2⟩
    obtain ⟨t2, R2⟩ := R1.next ac2
    have e2 : (putC 2 bare 5 9 true).1 = true := by kernel_rfl
    rw [e2]
    refine ⟨true, rfl, br_t rfl (call_of (put_ok 0 7 false R2.rep) ?_)⟩
    rintro v h3 ⟨rfl, ac3⟩
    obtain ⟨t3, R3⟩ := R2.next ac3
    have e3 : (putC 2 c1 0 7 false).1 = true := by kernel_rfl
    rw [e3]
    refine ⟨true, rfl, br_t rfl (call_of (put_ok 1 1 false R3.rep) ?_)⟩
    rintro v h4 ⟨rfl, ac4⟩
    obtain ⟨t4, R4⟩ := R3.next ac4
    have e4 : (putC 2 c2 1 1 false) = (false, c2) := by kernel_rfl
    have e4a : (putC 2 (putC 2 (putC 2 bare 5 9 true).2 0 7 false).2 1 1 false).1 = false := by rw [e4]
    rw [e4a]
    have e4b : (putC 2 (putC 2 (putC 2 bare 5 9 true).2 0 7 false).2 1 1 false).2 = c2 := by rw [e4]
    rw [e4b] at R4
    exact ⟨false, rfl, hK _ _ ⟨rfl, t4, R4⟩⟩
  rintro s h5 ⟨hs, t5, R5⟩ _
  have hs : s = true := hs
  subst hs
  have ev : vicC c2 = some (5, 9, true) := by kernel_rfl
  have ep : peekC c2 5 = (9, true) := by kernel_rfl
  have et : tablesC c2 = [1] := by kernel_rfl
  have ed : (dirtyC c2 1).length = 1 := by kernel_rfl
  have el : (que (cleanC c2 1).B).length = 2 := by kernel_rfl
  have ea : (allC (cleanC c2 1)).length = 2 := by kernel_rfl
  have em : (moveC (cleanC c2 1) 0 3).1 = true := by kernel_rfl
  have ex : (dropC (moveC (cleanC c2 1) 0 3).2 5).1 = true := by kernel_rfl
  have ey : (dropC (dropC (moveC (cleanC c2 1) 0 3).2 5).2 5).1 = false := by kernel_rfl
  generalize c2 = c at *
  refine call_of (victim_ok R5.rep) ?_
  rintro v h6 ⟨rfl, n6⟩
  rw [ev]
  refine ⟨(((5 : Int), (9 : Int), true), true), rfl, ?_⟩
  rw [zE]
  refine new_stL rfl fun h7 b7 n7 s7 => ?_
  have b7 : Blk h7 h6.size #[.int .i64 5, .int .u32 9, .bool true] TEn := b7
  have R7 := (R5.new n6).new n7
  refine call_of (peek_ok 5 R7.rep) ?_
  rintro v h8 ⟨rfl, n8⟩
  rw [ep]
  have R8 := R7.new n8
  refine ⟨((9 : Int), true), rfl, call_of (tables_ok R8.rep) ?_⟩
  rintro v h9 ⟨⟨la, lc, rfl, ow⟩, n9⟩
  rw [et] at ow ⊢
  have R9 := R8.new n9
  refine ⟨(la, 1, lc), rfl, call_of (dirty_ok 1 R9.rep) ?_⟩
  rintro v h10 ⟨⟨da, dc, rfl, _⟩, n10⟩
  rw [ed]
  have R10 := R9.new n10
  have b10 := ((b7.new n8).new n9).new n10
  refine ⟨(da, 1, dc), rfl, br_t rfl ?_⟩
  refine ldAgg_blk (cs := [.int .i64, .int .u32, .bool]) ((5, 9, true) : Int × Int × Bool) b10 ⟨rfl, rfl, rfl, trivial⟩ ?_
  refine ⟨_, ent_eq _ rfl (5, 9, true) (5, 9, true), br_t rfl (br_t rfl (br_t rfl (br_t rfl (new_of fun h11 b11 n11 s11 => ?_))))⟩
  have ar : Ar .i64 h11 la [1] := (Ar.own (k := .i64) (xs := [1]) ow).new (n10.trans n11)
  refine call_of (num_same la (some ⟨h10.size, 0, none⟩) 1 1 lc 1 h11 [1] [1] rfl rfl (by decide) ar (Ar.blk b11)) ?_
  rintro v h' ⟨rfl, hh⟩; subst h'
  have R11 := R10.lay0 n11
  refine ⟨true, rfl, br_t rfl (br_t rfl (call_of (clean_ok 1 R11.rep) ?_))⟩
  rintro v h12 ⟨rfl, ac12⟩
  obtain ⟨t12, R12⟩ := R11.next ac12
  rw [ed]
  refine ⟨(1 : Int), rfl, br_t rfl (ptr_of (R12.rep.len_ld ?_))⟩
  rw [el]
  refine br_t rfl (call_of (all_ok R12.rep) ?_)
  rintro v h13 ⟨⟨aa, ac, rfl, _⟩, n13⟩
  rw [ea]
  have R13 := R12.new n13
  refine ⟨(aa, 2, ac), rfl, br_t rfl (call_of (move_ok 0 3 R13.rep) ?_)⟩
  rintro v h14 ⟨rfl, ac14⟩
  obtain ⟨t14, R14⟩ := R13.next ac14
  rw [em]
  refine ⟨true, rfl, br_t rfl (call_of (drop_ok 5 R14.rep) ?_)⟩
  rintro v h15 ⟨rfl, ac15⟩
  obtain ⟨t15, R15⟩ := R14.next ac15
  rw [ex]
  refine ⟨true, rfl, br_t rfl (call_of (drop_ok 5 R15.rep) ?_)⟩
  rintro v h16 ⟨rfl, ac16⟩
  obtain ⟨t16, R16⟩ := R15.next ac16
  rw [ey]
  exact ⟨false, rfl, rfl, R16.fresh (by decide)⟩
abbrev AS : Sh := .pair (.int .i64) (.pair (.int .i64) (.pair (.int .u32) .bool))
/-- The acts that came in. -/
def ActsIn (h : Heap) (la : Option Addr) (l : List Az) : Prop := ∀ (i : Nat) (z : Az), l[i]? = some z → ∃ b o, la = some ⟨b, o, none⟩ ∧ b < h.size ∧ ∀ j, j < 4 → cellH h ⟨b, o + (i * 4 + j), none⟩ = ([.int .i64 z.1, .int .i64 z.2.1, .int .u32 z.2.2.1, .bool z.2.2.2] : List Value)[j]?
theorem acts_in {h : Heap} {v : Value} {l : List Az} (r : ReadsV h (.slice AS) v l) : ∃ la lc, v = .slice la l.length lc ∧ ActsIn h la l := by
  obtain ⟨la, lc, e, _, _, _, sl⟩ := SlAt.reads r
  refine ⟨la, lc, e, fun i z hi => ?_⟩
  obtain ⟨b, o, es, e1, hb, hel, hc, c1, d1, rfl, ⟨rfl, _⟩, c2, d2, rfl, ⟨rfl, _⟩, c3, d3, rfl, ⟨rfl, _⟩, rfl⟩ := sl i z hi
  exact ⟨b, o, e1, hb, fun j hj => hc j hj⟩
theorem int_in {h : Heap} {v : Value} {x : Int} (r : ReadsV h (.int .i64) v x) : v = .int .i64 x := by obtain ⟨cs, hcs, e, _⟩ := r; simp only at hcs; subst hcs; injection e
/-- An act, loaded into a block of its own. -/
theorem act_ld {h h1 : Heap} {la : Option Addr} {l : List Az} (r : ActsIn h la l) (n : New h h1) {i m : Nat} (hi : i < l.length) (hm : i < m) {F : Addr → Heap → Prop}
    (hF : ∀ h2, Blk h2 h1.size #[.int .i64 l[i].1, .int .i64 l[i].2.1, .int .u32 l[i].2.2.1, .bool l[i].2.2.2] 63 → New h1 h2 → h1.size < h2.size → F ⟨h1.size, 0, none⟩ h2) :
    ptrW la (fun a12 => idxW (i : Int) m true (ldAggW [.int .i64, .int .i64, .int .u32, .bool] (Addr.add a12 (Int.toNat (i : Int) * 4)) (fun (x13 : Int × Int × Int × Bool) =>
      newW (.cells (zeroC Try.prog 63) 63) (fun a14 h15 => stLW a14 [.int .i64 x13.1, .int .i64 x13.2.1, .int .u32 x13.2.2.1, .bool x13.2.2.2] (fun h16 => F a14 h16) h15) h1) h1)) := by
  obtain ⟨b, o, rfl, hb, hc⟩ := r i _ (List.getElem?_eq_getElem hi)
  refine agg_at (k := 4) ((l[i].1, l[i].2.1, l[i].2.2.1, l[i].2.2.2) : Int × Int × Int × Bool) (es := [.int .i64 l[i].1, .int .i64 l[i].2.1, .int .u32 l[i].2.2.1, .bool l[i].2.2.2]) (fun j hj => by rw [Go.Pl.cellH_new n hb]; exact hc j hj) rfl rfl hm ?_
  rw [zA]
  exact new_stL rfl fun h2 b2 n2 s2 => hF h2 b2 n2 s2
set_option maxHeartbeats 2000000 in
theorem dirty_law (h : Heap) (v0 v1 v2 : Value) (room : Int) (l : List Az) (B : Int) (r0 : ReadsV h (.int .i64) v0 room) (r1 : ReadsV h (.slice AS) v1 l) (r2 : ReadsV h (.int .i64) v2 B) :
    CallsH Try.prog 8 [v0, v1, v2] h fun v h' => v = .bool true ∧ New h h' := by
  obtain rfl := int_in r0
  have hBw : B ≤ 9223372036854775807 := by
    obtain ⟨cs, hcs, e, hw⟩ := r2
    simp [Lit.wf] at hw
    omega
  obtain rfl := int_in r2
  obtain ⟨la, lc, rfl, ra⟩ := acts_in r1
  refine fun_ok hm' Try.func8 (by kernel_rfl) (F8_eq room la l.length lc B _ h) ?_
  unfold F8
  refine call_of (awake_ok h) ?_
  rintro v h1 ⟨rfl, n1⟩
  refine ⟨true, rfl, br_f rfl ?_⟩
  by_cases hr : 1 ≤ room ∧ room ≤ 64
  rotate_left
  · refine call_of (new_no room h1 (by omega)) ?_
    rintro v h' ⟨rfl, hh⟩; subst h'
    exact ⟨(none, .iface 82 (.int .i64 1)), rfl, cut_of (br_t rfl ⟨rfl, n1⟩)⟩
  obtain ⟨S, rfl⟩ := Int.eq_ofNat_of_zero_le (show 0 ≤ room by omega)
  refine call_of (new_ok S 1 (fun _ => (0, 0)) h1 (by decide) (by omega) (by omega)) ?_
  rintro v h2 ⟨p, t2, rfl, hp, a2, f2⟩
  have R2 : Run 1 (fun _ => (0, 0)) h p S bare t2 h2 := ⟨a2, (Fr.new0 n1).trans (f2.mono fun _ _ => trivial)⟩
  refine ⟨(some ⟨p, 0, none⟩, .nilIface), rfl, cut_q (ts := []) (fun _ h' => h' = h2 ∧ l.length ≤ 200 ∧ 0 ≤ B) ?_ ?_⟩
  rotate_left
  · intro K hK
    refine br_f rfl (br_of (fun _ => ⟨rfl, R2.fresh (by decide)⟩) fun h200 => br_of (fun _ => ⟨rfl, R2.fresh (by decide)⟩) fun hB => hK () _ ⟨rfl, ?_, ?_⟩)
    · have h200 : ¬ (l.length : Int) > 200 := of_decide_eq_false h200
      omega
    · have hB : ¬ B < 0 := of_decide_eq_false hB
      omega
  rintro _ h' ⟨hh, h200, hB⟩ _; subst h'
  refine ⟨fun (s : Int × Bool × Bool × Int) h' => ∃ (i : Nat) (c : Cm) (t' : Tags), s = ((stB c B).1, (stB c B).2.1, (stB c B).2.2, (i : Int)) ∧ i ≤ l.length ∧ Run 1 (fun _ => (0, 0)) h p S c t' h', fun (s : Int × Bool × Bool × Int) _ => ((l.length : Int) - s.2.2.2).toNat, ⟨0, bare, t2, by have e0 : stB bare B = (0, false, false) := (by unfold stB at_; simp); rw [e0]; rfl, Nat.zero_le _, R2⟩, ?_⟩
  clear R2 a2 f2
  rintro s j h3 ⟨i, c, t3, hs, hi, R3⟩
  have hs : s = (((stB c B).1, (stB c B).2.1, (stB c B).2.2, (i : Int)) : Int × Bool × Bool × Int) := hs
  subst hs
  refine br_of (fun hlt => ?_) (fun _ => ⟨rfl, R3.fresh (by decide)⟩)
  have hlt : (i : Int) < (l.length : Int) := of_decide_eq_true hlt
  have hiL : i < l.length := by omega
  have ez : IntKind.wrap .i64 ((i : Int) + 1) = ((i + 1 : Nat) : Int) := (by first | (rw [wr64 (by omega) (by omega)]; omega) | (simp only [IntKind.wrap_i64]; omega))
  refine act_ld ra (R3.fresh (by decide)) hiL hiL fun h4 b4 n4 s4 => ?_
  obtain ⟨⟨d, x, ad, di⟩, hz⟩ : ∃ z : Az, z = l[i] := ⟨_, rfl⟩
  rw [← hz] at b4
  have b4 : Blk h4 h3.size #[.int .i64 d, .int .i64 x, .int .u32 ad, .bool di] 63 := b4
  have hsz : h.size ≤ h3.size := (R3.fresh (by decide)).size
  have R4 := R3.lay0 n4
  have T4 : ∀ {b}, h3.size ≤ b → (lay t3 h3.size (0, 0) b).1 ≠ 1 := fun hb => lay_0 (by decide) hb
  refine call_of (victim_ok R4.rep) ?_
  rintro v h5 ⟨rfl, n5⟩
  refine ⟨((((((vicC c).map Prod.fst).getD 0 : Nat) : Int), ((vicC c).map fun z => z.2.1).getD (0 : Int), ((vicC c).map fun z => z.2.2).getD false), (vicC c).isSome), rfl, ?_⟩
  rw [zE]
  refine new_stL rfl fun h6 b6 n6 s6 => ?_
  have R6 := R4.lay0 (n5.trans n6)
  have b46 := (b4.new n5).new n6
  have h45 := n5.size
  have T6 : ∀ {b}, h3.size ≤ b → (lay (lay t3 h3.size (0, 0)) h4.size (0, 0) b).1 ≠ 1 := fun {b} hb => by
    by_cases hh : b < h4.size
    · rw [lay_lt hh]; exact T4 hb
    · exact lay_0 (by decide) (by omega)
  generalize lay (lay t3 h3.size (0, 0)) h4.size (0, 0) = t6 at *
  refine ldAgg_blk (cs := [.int .i64, .int .i64, .int .u32, .bool]) ((d, x, ad, di) : Int × Int × Int × Bool) b46 ⟨rfl, rfl, rfl, rfl, trivial⟩ (call_of (do_ok (d, x, ad, di) R6.rep) ?_)
  rintro v h7 ⟨rfl, ac7⟩
  obtain ⟨t7, R7, e7, k7⟩ := R6.act ac7
  have b47 : Blk h7 h3.size #[.int .i64 d, .int .i64 x, .int .u32 ad, .bool di] 63 := (k7 h3.size b46.lt (T6 (Nat.le_refl _))).trans b46
  have b67 : Blk h7 h5.size _ TEn := (k7 h5.size b6.lt (T6 (by omega))).trans b6
  have hst := step_ok R4.rep.inv B hB (d, x, ad, di)
  have hinv := R7.rep.inv
  generalize actC S c (d, x, ad, di) = ac at *
  obtain ⟨⟨tn, tis, tm⟩, c'⟩ := ac
  simp only [] at hst hinv R7
  refine ⟨((tn, tis, tm) : Int × Bool × Int), rfl, ?_⟩
  rw [zT]
  refine new_stL rfl fun h8 b8 n8 s8 => ?_
  have b8 : Blk h8 h7.size #[.int .u32 tn, .bool tis, .int .i64 tm] 69 := b8
  have R8 := R7.new n8
  have b48 := b47.new n8
  have b68 := b67.new n8
  have g0 : ∀ {F : Int → Prop}, F d → ldW (.int .i64) (Addr.add ⟨h3.size, 0, none⟩ 0) F h8 := fun hF => ld_of (c := .int .i64) d (by rw [add_mk, cellH_blk b48]; rfl) hF
  have g1 : ∀ {F : Int → Prop}, F x → ldW (.int .i64) (Addr.add ⟨h3.size, 0, none⟩ 1) F h8 := fun hF => ld_of (c := .int .i64) x (by rw [add_mk, cellH_blk b48]; rfl) hF
  have g2 : ∀ {F : Int → Prop}, F ad → ldW (.int .u32) (Addr.add ⟨h3.size, 0, none⟩ 2) F h8 := fun hF => ld_of (c := .int .u32) ad (by rw [add_mk, cellH_blk b48]; rfl) hF
  have g3 : ∀ {F : Bool → Prop}, F di → ldW .bool (Addr.add ⟨h3.size, 0, none⟩ 3) F h8 := fun hF => ld_of (c := .bool) di (by rw [add_mk, cellH_blk b48]; rfl) hF
  have ed : IntKind.wrap .i64 (Int.tdiv B 4) = B / 4 := by rw [Int.tdiv_eq_ediv_of_nonneg hB]; exact wr64 (by omega) (by omega)
  rw [ed]
  obtain ⟨⟨sa, st, sd⟩, hsB⟩ : ∃ s, s = stB c B := ⟨_, rfl⟩
  rw [← hsB] at hst ⊢
  unfold stepB at hst
  simp only [] at hst
  obtain ⟨d1, hd1⟩ : ∃ d1, d1 = if d = 4 ∧ x = B / 4 then false else sd := ⟨_, rfl⟩
  rw [← hd1] at hst
  refine cut_q (ts := [.sc .bool]) (fun (s : Bool) h' => h' = h8 ∧ s = d1) ?_ ?_
  rotate_left
  · intro K hK
    refine g0 (br_of (fun e1 => g1 (br_of (fun e2 => hK _ _ ⟨rfl, ?_⟩) fun e2 => hK _ _ ⟨rfl, ?_⟩)) fun e1 => hK _ _ ⟨rfl, ?_⟩)
    all_goals simp only [beq_iff_eq, beq_eq_false_iff_ne, ne_eq] at *
    · rw [hd1, if_pos ⟨e1, e2⟩]
    · rw [hd1, if_neg fun hh => e2 hh.2]
    · rw [hd1, if_neg fun hh => e1 hh.1]
  rintro s h' ⟨hh, hs⟩ _; subst h'
  have hs : s = d1 := hs
  subst hs
  clear hd1
  obtain ⟨s2, hs2⟩ : ∃ s2 : Int × Bool × Bool, s2 = if x = B ∧ tis = true then (if d = 1 then (ad, true, s || di) else if d = 2 then (ad, st, s) else if d = 3 then (0, false, false) else (sa, st, s)) else (sa, st, s) := ⟨_, rfl⟩
  rw [← hs2] at hst
  refine cut_q (ts := [.sc (.int .u32), .sc .bool, .sc .bool]) (fun (q : Int × Bool × Bool) h' => h' = h8 ∧ q = s2) ?_ ?_
  rotate_left
  · intro K hK
    refine cut_q (ts := [.sc .bool]) (fun (q : Bool) h' => h' = h8 ∧ q = decide (x = B ∧ tis = true)) ?_ ?_
    rotate_left
    · intro K' hK'
      refine g1 (br_of (fun e1 => ld_of (c := .bool) tis (by rw [add_mk, cellH_blk b8]; rfl) (hK' _ _ ⟨rfl, ?_⟩)) fun e1 => hK' _ _ ⟨rfl, ?_⟩)
      all_goals simp only [beq_iff_eq, beq_eq_false_iff_ne, ne_eq] at *
      · rw [Bool.eq_iff_iff, decide_eq_true_iff]
        exact ⟨fun hh => ⟨e1, hh⟩, fun hh => hh.2⟩
      · rw [decide_eq_false fun hh => e1 hh.1]
    rintro q h' ⟨hh, hq⟩ _; subst h'
    have hq : q = decide (x = B ∧ tis = true) := hq
    subst hq
    refine br_of (fun c0 => g0 (br_of (fun e1 => g2 (br_of (fun e2 => hK _ _ ⟨rfl, ?_⟩) fun e2 => g3 (hK _ _ ⟨rfl, ?_⟩))) fun e1 => br_of (fun e2 => g2 (hK _ _ ⟨rfl, ?_⟩)) fun e2 => br_of (fun e3 => hK _ _ ⟨rfl, ?_⟩) fun e3 => hK _ _ ⟨rfl, ?_⟩)) fun c0 => hK _ _ ⟨rfl, ?_⟩
    all_goals simp only [decide_eq_true_iff, decide_eq_false_iff_not] at c0
    · have e1 : d = 1 := by simpa using e1
      rw [hs2, if_pos c0, if_pos e1, e2]; rfl
    · have e1 : d = 1 := by simpa using e1
      rw [hs2, if_pos c0, if_pos e1, e2]; rfl
    · have e1 : ¬ d = 1 := by simpa using e1
      have e2 : d = 2 := by simpa using e2
      rw [hs2, if_pos c0, if_neg e1, if_pos e2]
    · have e1 : ¬ d = 1 := by simpa using e1
      have e2 : ¬ d = 2 := by simpa using e2
      have e3 : d = 3 := by simpa using e3
      rw [hs2, if_pos c0, if_neg e1, if_neg e2, if_pos e3]
    · have e1 : ¬ d = 1 := by simpa using e1
      have e2 : ¬ d = 2 := by simpa using e2
      have e3 : ¬ d = 3 := by simpa using e3
      rw [hs2, if_pos c0, if_neg e1, if_neg e2, if_neg e3]
    · rw [hs2, if_neg c0]
  rintro q h' ⟨hh, hq⟩ _; subst h'
  have hq : s2 = q := hq.symm
  subst hq
  clear hs2
  refine cut_q (ts := [.sc (.int .u32), .sc .bool, .sc .bool]) (fun (w : Int × Bool × Bool) h' => h' = h8 ∧ w = stB c' B) ?_ ?_
  rotate_left
  · intro K hK
    have hvv : ∀ e, vicC c = some e → ldW (.int .i64) (Addr.add ⟨h5.size, 0, none⟩ 0) (fun (x50 : Int) => x50 = (e.1 : Int)) h8 := fun e he => by
      refine ld_of (c := .int .i64) (e.1 : Int) ?_ rfl
      rw [add_mk, cellH_blk b68, he]; rfl
    refine g0 (br_of (fun e1 => br_of (fun e2 => ?_) fun e2 => hK _ _ ⟨rfl, ?_⟩) fun e1 => hK _ _ ⟨rfl, ?_⟩)
    · have e1 : d = 5 := by simpa using e1
      have e2 : (vicC c).isSome = true := e2
      obtain ⟨e, he⟩ := Option.isSome_iff_exists.1 e2
      obtain ⟨w, hw1, hw2⟩ := hvv e he
      have hw2 : w = (e.1 : Int) := hw2
      subst hw2
      refine ld_of (c := .int .i64) (e.1 : Int) hw1 (br_of (fun e3 => hK _ _ ⟨rfl, ?_⟩) fun e3 => hK _ _ ⟨rfl, ?_⟩)
      · have e3 : (e.1 : Int) = B := by simpa using e3
        exact (hst.trans (if_pos ⟨e1, by rw [he, Option.map_some, e3]⟩)).symm
      · have e3 : ¬ (e.1 : Int) = B := by simpa using e3
        exact (hst.trans (if_neg fun hh => e3 (Option.some.inj (by rw [← hh.2, he, Option.map_some])))).symm
    · have e2 : (vicC c).isSome = false := e2
      refine (hst.trans (if_neg fun hh => ?_)).symm
      have := hh.2
      cases hv : vicC c with
      | none => rw [hv] at this; cases this
      | some e => rw [hv] at e2; cases e2
    · have e1 : ¬ d = 5 := by simpa using e1
      exact (hst.trans (if_neg fun hh => e1 hh.1)).symm
  rintro w h' ⟨hh, hw⟩ _; subst h'
  have hw : w = stB c' B := hw
  subst hw
  refine call_of (peek_ok B R8.rep) ?_
  rintro v h9 ⟨rfl, n9⟩
  rw [stB_peek]
  have R9 := R8.new n9
  refine ⟨((stB c' B).1, (stB c' B).2.1), rfl, call_of (dirty_ok (B / 4) R9.rep) ?_⟩
  rintro v h10 ⟨⟨xa, xc, rfl, ow⟩, n10⟩
  have R10 := R9.new n10
  have er := ER.own ow
  have hfo := found_ok hinv B hB
  have hll : (dirtyC c' (B / 4)).length ≤ 64 := by
    refine Nat.le_trans (List.length_filter_le _ _) ?_
    rw [all_len, blocks_len hinv]
    have := hinv.len; have := hinv.le; omega
  refine ⟨(xa, (dirtyC c' (B / 4)).length, xc), rfl, ?_⟩
  generalize dirtyC c' (B / 4) = L at *
  refine ⟨fun (s : Bool × Int) h' => ∃ m : Nat, s = ((L.take m).any (fun z => decide ((z.1 : Int) = B)), (m : Int)) ∧ m ≤ L.length ∧ New h10 h', fun (s : Bool × Int) _ => ((L.length : Int) - s.2).toNat, ⟨0, rfl, Nat.zero_le _, New.refl _⟩, ?_⟩
  rintro s j2 h11 ⟨m, hs, hm, n11⟩
  have hs : s = (((L.take m).any (fun z => decide ((z.1 : Int) = B)), (m : Int)) : Bool × Int) := hs
  subst hs
  refine br_of (fun hlt2 => ?_) (fun hlt2 => ?_)
  · have hlt2 : (m : Int) < (L.length : Int) := of_decide_eq_true hlt2
    have hmL : m < L.length := by omega
    have em : IntKind.wrap .i64 ((m : Int) + 1) = ((m + 1 : Nat) : Int) := (by first | (rw [wr64 (by omega) (by omega)]; omega) | (simp only [IntKind.wrap_i64]; omega))
    refine (er.new n11).ld hmL hmL ?_
    refine new_stL rfl fun h12 b12 n12 s12 => ?_
    have hany : (L.take (m + 1)).any (fun z => decide ((z.1 : Int) = B)) = ((L.take m).any (fun z => decide ((z.1 : Int) = B)) || decide ((L[m].1 : Int) = B)) := by
      rw [← List.take_append_getElem hmL, List.any_append]; simp
    simp only [em]
    refine br_of (fun hf => ⟨⟨m + 1, ?_, hmL, n11.trans n12⟩, (by first | omega | (dsimp only; omega) | (simp only []; omega))⟩) fun hf => ld_of (c := .int .i64) (L[m].1 : Int) (by rw [add_mk, cellH_blk b12]; rfl) ⟨⟨m + 1, ?_, hmL, n11.trans n12⟩, (by first | omega | (dsimp only; omega) | (simp only []; omega))⟩
    · have hf : (L.take m).any (fun z => decide ((z.1 : Int) = B)) = true := hf
      rw [hany, hf]; rfl
    · have hf : (L.take m).any (fun z => decide ((z.1 : Int) = B)) = false := hf
      rw [hany, hf, Bool.false_or]
      rfl
  · have : m = L.length := by
      have hlt2 : ¬ (m : Int) < (L.length : Int) := of_decide_eq_false hlt2
      omega
    subst this
    rw [List.take_length, hfo]
    refine br_f (by simp) (br_f (by simp) (br_f (by simp) ?_))
    rw [ez]
    exact ⟨⟨i + 1, c', t7, rfl, hiL, R10.new n11⟩, (by first | omega | (dsimp only; omega) | (simp only []; omega))⟩
end Go.Proofs.Ytfanjfbenhocnaa.Ca
