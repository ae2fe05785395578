/-
  What awake of layer 10 comes to; the acts that came in.
-/
import Derived.Test.YtfanjfbenhocnaaGreatDoorCaM
namespace Go.Proofs.YtfanjfbenhocnaaGreatDoor.Ca
open Go.Pl Go.Pl.Lru Go.Pl.Ix Go.Proofs.YtfanjfbenhocnaaGreatDoor.W Go.Proofs.YtfanjfbenhocnaaGreatDoor.Lru Go.Proofs.YtfanjfbenhocnaaGreatDoor.IxS
theorem CRep.len_ld {k p S : Nat} {t : Tags} {h : Heap} {c : Cm} (a : CRep k t h p S c) {F : Int → Heap → Prop} (hF : F ((que c.B).length : Int) h) :
    ldW .ptr (Addr.add ⟨p, 0, none⟩ 1) (fun (x : Option Addr) => callT Tryz.prog 10 [.pointer x] [.sc (.int .i64)] F h) h := by
  obtain ⟨rb, ib, eb, fa, fc, r, M, fr, es, T, TE, a, d⟩ := a
  refine ld_of (c := .ptr) (some ⟨ib, 0, none⟩) a.c1 (call_of (Ix.len_ok ib h M _ _ a.ix) ?_)
  rintro v h' ⟨rfl, hh⟩; subst h'
  exact ⟨_, rfl, hF⟩
abbrev c1 : Cm := (putC 2 bare 5 9 true).2
abbrev c2 : Cm := (putC 2 c1 0 7 false).2
theorem Run.next {k p S : Nat} {t t1 : Tags} {h h1 h2 : Heap} {c c' : Cm} (r : Run k t h p S c t1 h1) (a : Acted k t1 h1 p S c' h2) : ∃ t2, Run k t h p S c' t2 h2 := by
  obtain ⟨t2, R, _⟩ := r.act a
  exact ⟨t2, R⟩
theorem Run.fresh {k p S : Nat} {t1 : Tags} {h h1 : Heap} {c : Cm} (hk : k ≠ 0) (r : Run k (fun _ => (0, 0)) h p S c t1 h1) : New h h1 := ⟨r.fr.size, fun b hb => r.fr.same b hb (fun e => hk e.symm)⟩
set_option maxRecDepth 20000 in
theorem awake_ok (h : Heap) : CallsH Tryz.prog 4 [] h fun v h' => v = .bool true ∧ New h h' := by
  refine fun_ok hm' Tryz.func4 (by kernel_rfl) (F4_eq _ h) ?_
  unfold F4
  refine call_of (new_ok 2 1 (fun _ => (0, 0)) h (by decide) (by decide) (by decide)) ?_
  rintro v h1 ⟨p, t1, rfl, hp, a1, f1⟩
  have R1 : Run 1 (fun _ => (0, 0)) h p 2 bare t1 h1 := ⟨a1, f1.mono fun _ _ => trivial⟩
  refine ⟨(some ⟨p, 0, none⟩, .nilIface), rfl, cut_of (br_f rfl ⟨.inl rfl, br_f rfl fun _ => ?_⟩)⟩
  refine cut_q (ts := [.sc .bool]) (fun (s : Bool) h' => s = true ∧ ∃ t2, Run 1 (fun _ => (0, 0)) h p 2 c2 t2 h') ?_ ?_
  rotate_left
  · intro K hK
    refine call_of (put_ok 5 9 true R1.rep) ?_
    rintro v h2 ⟨rfl, ac2⟩
    obtain ⟨t2, R2⟩ := R1.next ac2
    have e2 : (putC 2 bare 5 9 true).1 = true := by kernel_rfl
    rw [e2]
    refine ⟨true, rfl, br_t rfl (call_of (put_ok 0 7 false R2.rep) ?_)⟩
    rintro v h3 ⟨rfl, ac3⟩
    obtain ⟨t3, R3⟩ := R2.next ac3
    have e3 : (putC 2 c1 0 7 false).1 = true := by kernel_rfl
    rw [e3]
    refine ⟨true, rfl, br_t rfl (call_of (put_ok 1 1 false R3.rep) ?_)⟩
    rintro v h4 ⟨rfl, ac4⟩
    obtain ⟨t4, R4⟩ := R3.next ac4
    have e4 : (putC 2 c2 1 1 false) = (false, c2) := by kernel_rfl
    have e4a : (putC 2 (putC 2 (putC 2 bare 5 9 true).2 0 7 false).2 1 1 false).1 = false := by rw [e4]
    rw [e4a]
    have e4b : (putC 2 (putC 2 (putC 2 bare 5 9 true).2 0 7 false).2 1 1 false).2 = c2 := by rw [e4]
    rw [e4b] at R4
    exact ⟨false, rfl, hK _ _ ⟨rfl, t4, R4⟩⟩
  rintro s h5 ⟨hs, t5, R5⟩ _
  have hs : s = true := hs
  subst hs
  have ev : vicC c2 = some (5, 9, true) := by kernel_rfl
  have ep : peekC c2 5 = (9, true) := by kernel_rfl
  have et : tablesC c2 = [1] := by kernel_rfl
  have ed : (dirtyC c2 1).length = 1 := by kernel_rfl
  have el : (que (cleanC c2 1).B).length = 2 := by kernel_rfl
  have ea : (allC (cleanC c2 1)).length = 2 := by kernel_rfl
  have em : (moveC (cleanC c2 1) 0 3).1 = true := by kernel_rfl
  have ex : (dropC (moveC (cleanC c2 1) 0 3).2 5).1 = true := by kernel_rfl
  have ey : (dropC (dropC (moveC (cleanC c2 1) 0 3).2 5).2 5).1 = false := by kernel_rfl
  generalize c2 = c at *
  refine call_of (victim_ok R5.rep) ?_
  rintro v h6 ⟨rfl, n6⟩
  rw [ev]
  refine ⟨(((5 : Int), (9 : Int), true), true), rfl, ?_⟩
  rw [zE]
  refine new_stL rfl fun h7 b7 n7 s7 => ?_
  have b7 : Blk h7 h6.size #[.int .i64 5, .int .u32 9, .bool true] TEn := b7
  have R7 := (R5.new n6).new n7
  refine call_of (peek_ok 5 R7.rep) ?_
  rintro v h8 ⟨rfl, n8⟩
  rw [ep]
  have R8 := R7.new n8
  refine ⟨((9 : Int), true), rfl, call_of (tables_ok R8.rep) ?_⟩
  rintro v h9 ⟨⟨la, lc, rfl, ow⟩, n9⟩
  rw [et] at ow ⊢
  have R9 := R8.new n9
  refine ⟨(la, 1, lc), rfl, call_of (dirty_ok 1 R9.rep) ?_⟩
  rintro v h10 ⟨⟨da, dc, rfl, _⟩, n10⟩
  rw [ed]
  have R10 := R9.new n10
  have b10 := ((b7.new n8).new n9).new n10
  refine ⟨(da, 1, dc), rfl, br_t rfl ?_⟩
  refine ldAgg_blk (cs := [.int .i64, .int .u32, .bool]) ((5, 9, true) : Int × Int × Bool) b10 ⟨rfl, rfl, rfl, trivial⟩ ?_
  refine ⟨_, ent_eq _ rfl (5, 9, true) (5, 9, true), br_t rfl (br_t rfl (br_t rfl (br_t rfl (new_of fun h11 b11 n11 s11 => ?_))))⟩
  have ar : Ar .i64 h11 la [1] := (Ar.own (k := .i64) (xs := [1]) ow).new (n10.trans n11)
  refine call_of (num_same la (some ⟨h10.size, 0, none⟩) 1 1 lc 1 h11 [1] [1] rfl rfl (by decide) ar (Ar.blk b11)) ?_
  rintro v h' ⟨rfl, hh⟩; subst h'
  have R11 := R10.lay0 n11
  refine ⟨true, rfl, br_t rfl (br_t rfl (call_of (clean_ok 1 R11.rep) ?_))⟩
  rintro v h12 ⟨rfl, ac12⟩
  obtain ⟨t12, R12⟩ := R11.next ac12
  rw [ed]
  refine ⟨(1 : Int), rfl, br_t rfl (ptr_of (R12.rep.len_ld ?_))⟩
  rw [el]
  refine br_t rfl (call_of (all_ok R12.rep) ?_)
  rintro v h13 ⟨⟨aa, ac, rfl, _⟩, n13⟩
  rw [ea]
  have R13 := R12.new n13
  refine ⟨(aa, 2, ac), rfl, br_t rfl (call_of (move_ok 0 3 R13.rep) ?_)⟩
  rintro v h14 ⟨rfl, ac14⟩
  obtain ⟨t14, R14⟩ := R13.next ac14
  rw [em]
  refine ⟨true, rfl, br_t rfl (call_of (drop_ok 5 R14.rep) ?_)⟩
  rintro v h15 ⟨rfl, ac15⟩
  obtain ⟨t15, R15⟩ := R14.next ac15
  rw [ex]
  refine ⟨true, rfl, br_t rfl (call_of (drop_ok 5 R15.rep) ?_)⟩
  rintro v h16 ⟨rfl, ac16⟩
  obtain ⟨t16, R16⟩ := R15.next ac16
  rw [ey]
  exact ⟨false, rfl, rfl, R16.fresh (by decide)⟩
abbrev AS : Sh := .pair (.int .i64) (.pair (.int .i64) (.pair (.int .u32) .bool))
/-- The acts that came in. -/
def ActsIn (h : Heap) (la : Option Addr) (l : List Az) : Prop := ∀ (i : Nat) (z : Az), l[i]? = some z → ∃ b o, la = some ⟨b, o, none⟩ ∧ b < h.size ∧ ∀ j, j < 4 → cellH h ⟨b, o + (i * 4 + j), none⟩ = ([.int .i64 z.1, .int .i64 z.2.1, .int .u32 z.2.2.1, .bool z.2.2.2] : List Value)[j]?
theorem acts_in {h : Heap} {v : Value} {l : List Az} (r : ReadsV h (.slice AS) v l) : ∃ la lc, v = .slice la l.length lc ∧ ActsIn h la l := by
  obtain ⟨la, lc, e, _, _, _, sl⟩ := SlAt.reads r
  refine ⟨la, lc, e, fun i z hi => ?_⟩
  obtain ⟨b, o, es, e1, hb, hel, hc, c1, d1, rfl, ⟨rfl, _⟩, c2, d2, rfl, ⟨rfl, _⟩, c3, d3, rfl, ⟨rfl, _⟩, rfl⟩ := sl i z hi
  exact ⟨b, o, e1, hb, fun j hj => hc j hj⟩
theorem int_in {h : Heap} {v : Value} {x : Int} (r : ReadsV h (.int .i64) v x) : v = .int .i64 x := by obtain ⟨cs, hcs, e, _⟩ := r; simp only at hcs; subst hcs; injection e
/-- An act, loaded into a block of its own. -/
theorem act_ld {h h1 : Heap} {la : Option Addr} {l : List Az} (r : ActsIn h la l) (n : New h h1) {i m : Nat} (hi : i < l.length) (hm : i < m) {F : Addr → Heap → Prop}
    (hF : ∀ h2, Blk h2 h1.size #[.int .i64 l[i].1, .int .i64 l[i].2.1, .int .u32 l[i].2.2.1, .bool l[i].2.2.2] 36 → New h1 h2 → h1.size < h2.size → F ⟨h1.size, 0, none⟩ h2) :
    ptrW la (fun a12 => idxW (i : Int) m true (ldAggW [.int .i64, .int .i64, .int .u32, .bool] (Addr.add a12 (Int.toNat (i : Int) * 4)) (fun (x13 : Int × Int × Int × Bool) =>
      newW (.cells (zeroC Tryz.prog 36) 36) (fun a14 h15 => stLW a14 [.int .i64 x13.1, .int .i64 x13.2.1, .int .u32 x13.2.2.1, .bool x13.2.2.2] (fun h16 => F a14 h16) h15) h1) h1)) := by
  obtain ⟨b, o, rfl, hb, hc⟩ := r i _ (List.getElem?_eq_getElem hi)
  refine agg_at (k := 4) ((l[i].1, l[i].2.1, l[i].2.2.1, l[i].2.2.2) : Int × Int × Int × Bool) (es := [.int .i64 l[i].1, .int .i64 l[i].2.1, .int .u32 l[i].2.2.1, .bool l[i].2.2.2]) (fun j hj => by rw [Go.Pl.cellH_new n hb]; exact hc j hj) rfl rfl hm ?_
  rw [zA]
  exact new_stL rfl fun h2 b2 n2 s2 => hF h2 b2 n2 s2
end Go.Proofs.YtfanjfbenhocnaaGreatDoor.Ca
