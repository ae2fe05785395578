/-
  What FaultTells comes to.
-/
import Derived.Test.YtogeildomhahjaaDoorL1A
namespace Go.Proofs.YtogeildomhahjaaDoor.L1
open Go.RowKit Go.Extern.Stop Go.Stop Go.Extern Go.Pl Go.Proofs.YtogeildomhahjaaDoor.W Go.Proofs.YtogeildomhahjaaDoor.As Go.Proofs.YtogeildomhahjaaDoor.Err
theorem rsame_q (a b : Option Addr) (c d : Nat) (xs ys : List ByteArray) (h : Heap) (hx : StrAt h a xs) (hy : StrAt h b ys) (hl : xs.length ≤ 1000) {F : Bool → Prop} (hF : F (decide (xs.map ByteArray.toList = ys.map ByteArray.toList))) :
    callQ Tryd.prog 41 [.slice a xs.length c, .slice b ys.length d] [.sc .bool] F h :=
  ⟨_, fun h' e => rsame_ok a b c d xs ys h' (hx.new e.new) (hy.new e.new) hl, hF⟩
set_option maxRecDepth 20000 in
theorem tells_ok (a : Option Addr) (c : Nat) (l : List (ByteArray × Int)) (e other : Int) (op : ByteArray) (h : Heap) (hg : Laid h) (r : SlAt h StepS a l) :
    CallsH Tryd.prog 8 [.int .i64 e, .slice a l.length c, .string op, .int .i64 other] h fun v h' => v = .bool true ∧ New h h' := by
  refine fun_ok hm' Tryd.func8 (by kernel_rfl) (F8_eq _ _ _ _ _ _ _ h) ?_
  unfold F8
  refine call_of (awake_ok h hg) ?_
  rintro _ h1 ⟨rfl, n1⟩
  refine ⟨true, rfl, br_f rfl (br_of (fun _ => ⟨rfl, n1⟩) fun hl => ?_)⟩
  have hl : l.length ≤ 100 := by simp at hl; omega
  refine call_of (made_ok a c l e h1 (r.new n1) hl) ?_
  rintro _ h2 ⟨err, f, rfl, ec, ⟨fa, fc, rfl, ow⟩, n2⟩
  have hlen := lawL_len e l
  refine ⟨(err, (fa, _, fc), e), rfl, new_stL (by rw [zeroF1]; rfl) fun h3 b3 n3 s3 => ?_⟩
  have n13 := (n1.trans n2).trans n3
  refine call_of (place_ok err _ e op h3 (hg.new n13) (ec.new n3)) ?_
  rintro _ h4 ⟨rfl, n4⟩
  have b4 := b3.new n4
  refine ⟨(_, _), rfl, ldAgg_blk (cs := [.slice, .int .i64]) ((fa, (lawL e l).length, fc), e) b4 ⟨rfl, rfl, trivial⟩ ?_⟩
  refine call_of (rplace_ok fa fc (lawL e l) e op _ h4 ((ow.grow n3).grow n4) (by omega)) ?_
  rintro _ h5 ⟨rfl, n5⟩
  have b5 := b4.new n5
  have n15 := (n13.trans n4).trans n5
  have ec5 := ((ec.new n3).new n4).new n5
  have ow5 := ((ow.grow n3).grow n4).grow n5
  have wz : ∀ hx, CallsH Tryd.prog 45 [.string op, .int .i64 (placeL (lawL e l) op).1, .iface 31 (.int .i64 0)] hx fun r h' => r = .nilIface ∧ h' = hx := fun hx => wrap_zero op _ hx
  have wn : ∀ hx, CallsH Tryd.prog 45 [.string op, .int .i64 (placeL (lawL e l) op).1, .nilIface] hx fun r h' => r = .nilIface ∧ h' = hx := fun hx => wrap_nil op _ hx
  refine ⟨(_, _), rfl, cut_q (fun _ h' => New h5 h') ?_ fun K k => ?_⟩
  · rintro _ h6 n6 _
    have n16 := n15.trans n6
    refine call_of (fis_ok err _ e other h6 (ec5.new n6)) ?_
    rintro _ h7 ⟨rfl, hh⟩
    subst h7
    have fin : callT Tryd.prog 45 [.string op, .int .i64 (placeL (lawL e l) op).1, .iface 31 (.int .i64 0)] [.sc .any] (fun (r30 : Value) h31 => ifW r30 (br (isNilV r30)
        (callT Tryd.prog 45 [.string op, .int .i64 (placeL (lawL e l) op).1, .nilIface] [.sc .any] (fun (r32 : Value) h33 => ifW r32 (Value.bool (isNilV r32) = .bool true ∧ New h h33)) h31)
        (Value.bool false = .bool true ∧ New h h31))) h6 := by
      refine call_of (wz h6) ?_
      rintro _ h7 ⟨rfl, hh⟩
      subst h7
      refine ⟨_, rfl, .inl rfl, br_t rfl (call_of (wn h6) ?_)⟩
      rintro _ h7 ⟨rfl, hh⟩
      subst h7
      exact ⟨_, rfl, .inl rfl, rfl, n16⟩
    refine ⟨_, rfl, ?_⟩
    by_cases h0 : other = 0
    · subst h0
      exact br_f rfl (br_t rfl fin)
    · refine br_t (by simpa using h0) (ld_of (c := .int .i64) e (by rw [add_mk, cellH_blk (b5.new n6)]; rfl) (br_t ?_ fin))
      have e0 : (other == 0) = false := by simpa using h0
      rw [e0]
      by_cases heo : e = other
      · subst heo; simp
      · have heo' : ¬ other = e := fun x => heo x.symm
        have a1 : (e == other) = false := by simpa using heo
        have a2 : (other == e) = false := by simpa using heo'
        show ((!false && e == other) == (other == e)) = true
        rw [a1, a2]; rfl
  · refine br_f (by simp) (br_f (by simp) (ld_of (c := .int .i64) e (by rw [add_mk, cellH_blk b5]; rfl) ?_))
    refine call_of (code_ok err _ e h5 (hg.new n15) ec5) ?_
    rintro _ h6 ⟨rfl, n6⟩
    have n16 := n15.trans n6
    refine ⟨e, rfl, br_f (by simp) (ldAgg_blk (cs := [.slice, .int .i64]) ((fa, (lawL e l).length, fc), e) (b5.new n6) ⟨rfl, rfl, trivial⟩ ?_), n6.ext⟩
    refine call_of (trail_ok err _ e h6 (hg.new n16) (ec5.new n6) (by omega)) ?_
    rintro _ h7 ⟨ta, tc, rfl, ot, n7⟩
    refine ⟨(ta, _, tc), rfl, ?_, n7.ext⟩
    refine call_of (rtrail_ok fa fc (lawL e l) e _ h7 ((ow5.grow n6).grow n7) (by omega)) ?_
    rintro _ h8 ⟨ra, rc, rfl, orr, n8⟩
    refine ⟨(ra, _, rc), rfl, ?_, n8.ext⟩
    dsimp only
    have hxl : ((lawL e l).map (·.1)).length ≤ 1000 := by simp; omega
    generalize (lawL e l).map (·.1) = xs at ot orr hxl ⊢
    refine rsame_q ta ra tc rc xs xs h8 ((StrAt.own ot).new n8) (StrAt.own orr) hxl ?_
    rw [decide_eq_true rfl]
    refine br_f rfl ?_
    have ok := ec.ok
    refine ⟨ok.1, ld_of (c := .int .i64) e (by rw [add_mk, cellH_blk (((b5.new n6).new n7).new n8)]; rfl) (br_f ?_ (k () h8 ((n6.trans n7).trans n8)))⟩
    rw [ok.2]
    by_cases h0 : e = 0
    · subst h0; rfl
    · simp [h0]
theorem tells_law (h : Heap) (v0 v1 v2 v3 : Value) (x0 : Int) (x1 : List (ByteArray × Int)) (x2 : ByteArray) (x3 : Int) (r0 : ReadsV h (.int .i64) v0 x0) (r1 : ReadsV h (.slice StepS) v1 x1) (r2 : ReadsV h .str v2 x2) (r3 : ReadsV h (.int .i64) v3 x3) (hg : Laid h) :
    CallsH Tryd.prog 8 [v0, v1, v2, v3] h fun v h' => v = .bool true ∧ New h h' := by
  obtain ⟨_, rfl, e0, _⟩ := r0
  injection e0 with e0 _
  subst e0
  obtain ⟨a, c, rfl, _, _, _, sl⟩ := SlAt.reads r1
  obtain ⟨_, rfl, e2, _⟩ := r2
  injection e2 with e2 _
  subst e2
  obtain ⟨_, rfl, e3, _⟩ := r3
  injection e3 with e3 _
  subst e3
  exact tells_ok a c x1 x0 x3 x2 h hg sl
end Go.Proofs.YtogeildomhahjaaDoor.L1
