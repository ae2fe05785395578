/-
  LruDoes of layer 08.
-/
import Derived.Test.YtfanjfbenhocnaaDoorLruQ
import Derived.Test.YtfanjfbenhocnaaDoorAs
namespace Go.Proofs.YtfanjfbenhocnaaDoor.LruD
open Go.Pl Go.Pl.Lru Go.Proofs.YtfanjfbenhocnaaDoor.W Go.Proofs.YtfanjfbenhocnaaDoor.Lru Go.Proofs.YtfanjfbenhocnaaDoor.R8 Go.Proofs.YtfanjfbenhocnaaDoor.R8L Go.Proofs.YtfanjfbenhocnaaDoor.As
theorem own_ok (q : Nat) (d s : Int) (h : Heap) (S : Nat) (Ls : Nat → List Nat) (hS : S ≤ 64) (hn : (que Ls).Nodup) (hl : (que Ls).length ≤ 64) (hx : RKL h q Ls S) :
    CallsH Tryd.prog 10 [.pointer (some ⟨q, 0, none⟩), .agg #[.int .i64 d, .int .i64 s]] h fun v h' => v = .bool (actL S Ls d s).1 ∧ RKL h' q (actL S Ls d s).2 S ∧ Upd q h h' := by
  refine fun_ok Lru.hm' Tryd.func10 (by kernel_rfl) (F10_eq _ _ _ _ h) ?_
  unfold F10
  refine new_of fun h1 b1 n1 s1 => ?_
  have hx1 : RKL h1 q Ls S := RK.new hx n1
  refine ld_of (c := .int .i64) d (by rw [add_mk, cellH_blk b1]; rfl) (br_of (fun e0 => ?_) fun e0 => br_of (fun e1 => ?_) fun e1 => br_of (fun e2 => ?_) fun e2 => br_of (fun e3 => ?_) fun e3 => ?_)
  all_goals simp only [beq_iff_eq, beq_eq_false_iff_ne, ne_eq] at *
  · subst e0
    refine ld_of (c := .int .i64) s (by rw [add_mk, cellH_blk b1]; rfl) (call_of (ins8L s hl hx1) ?_)
    rintro v h2 ⟨rfl, x2, o2⟩
    exact ⟨(insL S Ls s).1, rfl, by simp [actL], by simpa [actL] using x2, n1.upd.trans o2⟩
  · subst e1
    refine ld_of (c := .int .i64) s (by rw [add_mk, cellH_blk b1]; rfl) (call_of (tou8L s hS hn hl hx1) ?_)
    rintro v h2 ⟨rfl, x2, o2⟩
    exact ⟨inI Ls s, rfl, by simp [actL], by simpa [actL] using x2, n1.upd.trans o2⟩
  · subst e2
    refine ld_of (c := .int .i64) s (by rw [add_mk, cellH_blk b1]; rfl) (call_of (rem8L s hl hx1) ?_)
    rintro v h2 ⟨rfl, x2, o2⟩
    exact ⟨inI Ls s, rfl, by simp [actL], by simpa [actL] using x2, n1.upd.trans o2⟩
  · subst e3
    refine call_of (vic8L hl hx1) ?_
    rintro v h' ⟨rfl, hh⟩
    subst h'
    cases hv : vicL Ls with
    | none => exact ⟨((0 : Int), false), rfl, br_f rfl ⟨by simp [actL, hv], by simpa [actL, hv] using hx1, n1.upd⟩⟩
    | some x =>
      refine ⟨((x : Int), true), rfl, br_t rfl (call_of (rem8L x hl hx1) ?_)⟩
      rintro v h2 ⟨rfl, x2, o2⟩
      have hin := vic_in hv
      rw [if_pos hin] at x2
      exact ⟨inI Ls x, rfl, by simp [actL, hv, hin], by simpa [actL, hv] using x2, n1.upd.trans o2⟩
  · exact ⟨by simp [actL, e0, e1, e2, e3], by simpa [actL, e0, e1, e2, e3] using hx1, n1.upd⟩
structure St (h0 h : Heap) (b q S : Nat) (Ls : Nat → List Nat) : Prop where
  rk : RkOk h b S Ls
  rf : RKL h q Ls S
  nw : New h0 h
  hb : h0.size ≤ b
  hq : b < q
theorem St.new {h0 h h' : Heap} {b q S : Nat} {Ls : Nat → List Nat} (s : St h0 h b q S Ls) (w : New h h') : St h0 h' b q S Ls := ⟨s.rk.new w, RK.new s.rf w, s.nw.trans w, s.hb, s.hq⟩
abbrev AS : Sh := .pair (.int .i64) (.int .i64)
theorem zeroA : (zeroC Tryd.prog 35).size = 2 := by kernel_rfl
theorem does_law (h : Heap) (v0 v1 : Value) (slots : Int) (l : List (Int × Int)) (r0 : ReadsV h (.int .i64) v0 slots) (r1 : ReadsV h (.slice AS) v1 l) (hg : Laid h) :
    CallsH Tryd.prog 3 [v0, v1] h fun v h' => v = .bool true ∧ New h h' := by
  obtain ⟨rfl⟩ : v0 = .int .i64 slots := by obtain ⟨cs, hcs, e, _⟩ := r0; simp only at hcs; subst hcs; injection e
  obtain ⟨la, lc, rfl, _, _, _, sl⟩ := SlAt.reads r1
  have ra : ∀ (i : Nat) (z : Int × Int), l[i]? = some z → ∃ b o, la = some ⟨b, o, none⟩ ∧ b < h.size ∧ ∀ j, j < 2 → cellH h ⟨b, o + (i * 2 + j), none⟩ = ([.int .i64 z.1, .int .i64 z.2] : List Value)[j]? := fun i z hi => by
    obtain ⟨b, o, es, e1, hb, hel, hc, c1, d1, rfl, ⟨rfl, _⟩, ⟨rfl, _⟩⟩ := sl i z hi
    exact ⟨b, o, e1, hb, fun j hj => hc j hj⟩
  clear sl
  refine fun_ok Lru.hm' Tryd.func3 (by kernel_rfl) (F3_eq slots la l.length lc _ h) ?_
  unfold F3
  refine call_of (Lru.awake_ok h) ?_
  rintro v h1 ⟨rfl, n1⟩
  refine ⟨true, rfl, br_f rfl (br_of (fun _ => ⟨rfl, n1⟩) fun h200 => ?_)⟩
  have h200 : ¬ (l.length : Int) > 200 := of_decide_eq_false h200
  by_cases hr : 1 ≤ slots ∧ slots ≤ 64
  rotate_left
  · refine call_of (new_no slots h1 (by omega)) ?_
    rintro v h' ⟨rfl, hh⟩; subst h'
    refine ⟨(none, .iface 30 (.int .i64 1)), rfl, call_of (new8_ok slots h1) ?_⟩
    rintro v h' (⟨_, rfl, hh⟩ | ⟨S, hS, hS1, hS2, _⟩)
    rotate_left
    · omega
    subst h'
    refine ⟨(none, (1 : Int)), rfl, cut_q (ts := []) (fun _ h' => New h h') ?_ ?_⟩
    rotate_left
    · intro K hK
      refine call_of (code_err 1 h1 (hg.new n1)) ?_
      rintro v h2 ⟨rfl, n2⟩
      exact ⟨(1 : Int), rfl, br_f rfl (br_f rfl (hK () _ (n1.trans n2)))⟩
    rintro _ h2 n2 _
    exact br_t rfl ⟨rfl, n2⟩
  obtain ⟨S, rfl⟩ := Int.eq_ofNat_of_zero_le (show 0 ≤ slots by omega)
  have hS1 : 1 ≤ S := by omega
  have hS2 : S ≤ 64 := by omega
  refine call_of (Lru.new_ok S h1 hS1 hS2) ?_
  rintro v h2 ⟨rfl, x1, n2⟩
  have hb1 := x1.lt
  refine ⟨(some ⟨h1.size, 0, none⟩, .nilIface), rfl, call_of (new8_ok S h2) ?_⟩
  rintro v h3 (⟨hn, _⟩ | ⟨S', hS', _, _, rfl, x2, n3⟩)
  · omega
  obtain rfl : S' = S := by omega
  refine ⟨(some ⟨h2.size, 0, none⟩, (0 : Int)), rfl, cut_q (ts := []) (fun _ h' => St h1 h' h1.size h2.size S' (fun _ => [])) ?_ ?_⟩
  rotate_left
  · intro K hK
    refine call_of (code_err 0 h3 (((hg.new n1).new n2).new n3)) ?_
    rintro v h4 ⟨rfl, n4⟩
    exact ⟨(0 : Int), rfl, br_f rfl (br_f rfl (hK () _ ⟨(x1.new n3).new n4, RK.new x2 n4, (n2.trans n3).trans n4, Nat.le_refl _, hb1⟩))⟩
  rintro _ h4 S4 _
  generalize h1.size = b at *
  generalize h2.size = q at *
  refine br_f rfl ?_
  refine ⟨fun (s : Int) h' => ∃ (i : Nat) (Ls : Nat → List Nat), s = i ∧ i ≤ l.length ∧ St h1 h' b q S' Ls, fun (s : Int) _ => ((l.length : Int) - s).toNat, ⟨0, _, rfl, Nat.zero_le _, S4⟩, ?_⟩
  clear S4
  rintro s j h5 ⟨i, Ls, rfl, hi, S5⟩
  refine br_of (fun hlt => ?_) (fun _ => ⟨rfl, n1.trans S5.nw⟩)
  have hlt : (i : Int) < (l.length : Int) := of_decide_eq_true hlt
  have hiL : i < l.length := by omega
  have ez : IntKind.wrap .i64 ((i : Int) + 1) = ((i + 1 : Nat) : Int) := (by first | (rw [wr64 (by omega) (by omega)]; omega) | (simp only [IntKind.wrap_i64]; omega))
  obtain ⟨ba, oa, rfl, hba, hca⟩ := ra i _ (List.getElem?_eq_getElem hiL)
  have n05 := n1.trans S5.nw
  refine agg_at (k := 2) ((l[i].1, l[i].2) : Int × Int) (es := [.int .i64 l[i].1, .int .i64 l[i].2]) (fun j hj => by rw [Go.Pl.cellH_new n05 hba]; exact hca j hj) rfl rfl hiL ?_
  refine new_stL (by rw [zeroA]; rfl) fun h6 b6 n6 s6 => ?_
  obtain ⟨⟨d, sv⟩, hz⟩ : ∃ z : Int × Int, z = l[i] := ⟨_, rfl⟩
  rw [← hz] at b6
  have b6 : Blk h6 h5.size #[.int .i64 d, .int .i64 sv] 35 := b6
  have S6 := S5.new n6
  have hbl : b < h5.size := S5.rk.lt
  have hql : q < h5.size := by obtain ⟨_, _, _, _, _, bq, _⟩ := S5.rf; exact bq.lt
  have hQ := S6.rk.que
  have ql := que_len Ls
  refine cut_q (ts := []) (fun _ h' => ∃ Ls, St h1 h' b q S' Ls) ?_ ?_
  rotate_left
  · intro K hK
    have f0 : ∀ {F : Int × Int → Prop}, F (d, sv) → ldAggW [.int .i64, .int .i64] ⟨h5.size, 0, none⟩ F h6 := fun hF => ⟨((d, sv) : Int × Int), ⟨by rw [add_mk, cellH_blk b6]; rfl, by rw [add_mk, cellH_blk b6]; rfl, trivial⟩, hF⟩
    refine f0 (f0 (call_of (do_ok b d sv h6 S' Ls S6.rk) ?_))
    rintro v h7 ⟨rfl, x7, u7⟩
    have b7 := b6.upd u7 (by omega)
    have R7 : RKL h7 q Ls S' := RK.upd S6.rf u7 S6.hq
    refine ⟨_, rfl, by rw [add_mk, cellH_blk b7]; rfl, by rw [add_mk, cellH_blk b7]; rfl, call_of (own_ok q d sv h7 S' Ls hS2 hQ.1 hQ.2 R7) ?_⟩
    rintro v h8 ⟨rfl, R8, u8⟩
    have x8 := x7.upd u8 (by have := S6.hq; omega)
    have S8 : St h1 h8 b q S' (actL S' Ls d sv).2 := ⟨x8, R8, u8.new (u7.new S6.nw S6.hb) (by have := S6.hq; have := S6.hb; omega), S6.hb, S6.hq⟩
    refine ⟨_, rfl, br_f (by simp) ?_⟩
    generalize (actL S' Ls d sv).2 = L8 at *
    have hQ8 := x8.que
    have ql8 := que_len L8
    obtain ⟨a0, c0, a1, c1, T, B8, r0, r1, l0, l1⟩ := R8
    refine ld_of (c := .slice) (a0, (nI (L8 0)).length, c0) (by rw [add_mk, cellH_blk B8]; rfl) (call_of (trial_ok b S' L8 h8 x8) ?_)
    rintro v h9 ⟨at', ct, rfl, ot, n9⟩
    have B9 := B8.new n9
    rw [ints_eq] at ot
    refine ⟨(at', (L8 0).length, ct), rfl, by rw [add_mk, cellH_blk B9]; rfl, call_of (same8 _ _ _ _ _ _ h9 (nI (L8 0)) (nI (L8 0)) (nI_len _).symm rfl (show (L8 0).length ≤ 1000000 by omega) (Ar.own ot) (r0.new n9).ar) ?_⟩
    rintro v h' ⟨rfl, hh⟩; subst h'
    refine ⟨_, rfl, br_f (by simp) ?_⟩
    refine ld_of (c := .slice) (a1, (nI (L8 1)).length, c1) (by rw [add_mk, cellH_blk B9]; rfl) (call_of (kept_ok b S' L8 h9 (x8.new n9)) ?_)
    rintro v h10 ⟨ak, ck, rfl, ok', n10⟩
    have B10 := B9.new n10
    rw [ints_eq] at ok'
    refine ⟨(ak, (L8 1).length, ck), rfl, by rw [add_mk, cellH_blk B10]; rfl, call_of (same8 _ _ _ _ _ _ h10 (nI (L8 1)) (nI (L8 1)) (nI_len _).symm rfl (show (L8 1).length ≤ 1000000 by omega) (Ar.own ok') ((r1.new n9).new n10).ar) ?_⟩
    rintro v h' ⟨rfl, hh⟩; subst h'
    exact ⟨_, rfl, br_f (by simp) (hK () _ ⟨L8, (S8.new n9).new n10⟩)⟩
  rintro _ h7 ⟨L7, S7⟩ _
  refine call_of (victim_ok b h7 S' L7 S7.rk) ?_
  rintro v h' ⟨rfl, hh⟩; subst h'
  refine ⟨((((vicL L7).getD 0 : Nat) : Int), (vicL L7).isSome), rfl, call_of (vic8L S7.rk.que.2 S7.rf) ?_⟩
  rintro v h' ⟨rfl, hh⟩; subst h'
  refine ⟨((((vicL L7).getD 0 : Nat) : Int), (vicL L7).isSome), rfl, br_f (by simp) (br_f (by simp) ?_)⟩
  rw [ez]
  exact ⟨⟨i + 1, L7, rfl, hiL, S7⟩, (by first | omega | (dsimp only; omega) | (simp only []; omega))⟩
end Go.Proofs.YtfanjfbenhocnaaDoor.LruD
