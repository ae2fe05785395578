/-
  What FaultWraps comes to.
-/
import Derived.Test.YtogeildomhahjaaDoorL1T
namespace Go.Proofs.YtogeildomhahjaaDoor.L1
open Go.RowKit Go.Extern.Stop Go.Stop Go.Extern Go.Pl Go.Proofs.YtogeildomhahjaaDoor.W Go.Proofs.YtogeildomhahjaaDoor.As Go.Proofs.YtogeildomhahjaaDoor.Err
theorem StrAt.shift {h : Heap} {b : Nat} {x : ByteArray} {xs : List ByteArray} (r : StrAt h (some ⟨b, 0, none⟩) (x :: xs)) : StrAt h (some ⟨b, 1, none⟩) xs := fun i y hy => by
  obtain ⟨b', o', e, hb, hc⟩ := r (i + 1) y (by simpa using hy)
  injection e with e
  injection e with e1 e2
  subst e1 e2
  exact ⟨b, 1, rfl, hb, by rw [← hc, Nat.zero_add, Nat.add_comm]⟩
set_option maxRecDepth 20000 in
theorem wraps_ok (a : Option Addr) (c : Nat) (l : List (ByteArray × Int)) (e at_ : Int) (op : ByteArray) (h : Heap) (hg : Laid h) (r : SlAt h StepS a l) :
    CallsH Tryd.prog 9 [.int .i64 e, .slice a l.length c, .agg #[.string op, .int .i64 at_]] h fun v h' => v = .bool true ∧ New h h' := by
  refine fun_ok hm' Tryd.func9 (by kernel_rfl) (F9_eq _ _ _ _ _ _ _ h) ?_
  unfold F9
  refine new_of fun h0 b0 n0 s0 => ?_
  refine call_of (awake_ok h0 (hg.new n0)) ?_
  rintro _ h1 ⟨rfl, n1⟩
  have n01 := n0.trans n1
  refine ⟨true, rfl, br_f rfl (br_of (fun _ => ⟨rfl, n01⟩) fun hl => ?_)⟩
  have hl : l.length ≤ 100 := by simp at hl; omega
  refine call_of (made_ok a c l e h1 (r.new n01) hl) ?_
  rintro _ h2 ⟨err, f, rfl, ec, ⟨fa, fc, rfl, ow⟩, n2⟩
  have hlen := lawL_len e l
  refine ⟨(err, (fa, _, fc), e), rfl, new_stL (by rw [zeroF1]; rfl) fun h3 b3 n3 s3 => ?_⟩
  have n03 := (n01.trans n2).trans n3
  refine call_of (trail_ok err _ e h3 (hg.new n03) (ec.new n3) (by omega)) ?_
  rintro _ h4 ⟨ta, tc, rfl, ot, n4⟩
  have n04 := n03.trans n4
  have b4 := (((b0.new n1).new n2).new n3).new n4
  have ec4 := (ec.new n3).new n4
  have ok := ec.ok
  refine ⟨(ta, _, tc), rfl, ld_of (c := .str) op (by rw [add_mk, cellH_blk b4]; rfl) (ld_of (c := .int .i64) at_ (by rw [add_mk, cellH_blk b4]; rfl) ?_)⟩
  by_cases h0e : e = 0
  · subst h0e
    obtain rfl : err = .nilIface := ec
    refine call_of (wrap_nil op at_ h4) ?_
    rintro _ h5 ⟨rfl, hh⟩
    subst h5
    refine ⟨_, rfl, ok.1, br_t rfl (cut_q (fun (s : Bool) h' => s = true ∧ h' = h4) ?_ fun K k => ⟨.inl rfl, br_t rfl (k _ h4 ⟨rfl, rfl⟩)⟩)⟩
    rintro _ h' ⟨rfl, hh⟩ _
    subst h'
    exact ⟨rfl, n04⟩
  · rw [lawL_ne h0e] at ec4 ot hlen ⊢
    have hpl : placeL ((op, at_) :: l.reverse) op = (at_, true) := by simp [placeL]
    refine call_of (wrap_ok op at_ err _ e h4 h0e ec4) ?_
    rintro r14 h5 ⟨e5, n5⟩
    have n05 := n04.trans n5
    have b5 := b4.new n5
    refine ⟨r14, rfl, ok.1, br_f (by rw [ok.2]; simp [h0e]) (call_of (trail_ok r14 _ e h5 (hg.new n05) e5 (by simp; omega)) ?_)⟩
    rintro _ h6 ⟨na, nc, rfl, on, n6⟩
    have n06 := n05.trans n6
    have b6 := b5.new n6
    refine ⟨(na, _, nc), rfl, ld_of (c := .str) op (by rw [add_mk, cellH_blk b6]; rfl) ?_⟩
    refine call_of (place_ok r14 _ e op h6 (hg.new n06) (e5.new n6)) ?_
    rintro _ h7 ⟨rfl, n7⟩
    rw [hpl]
    have n07 := n06.trans n7
    refine ⟨(at_, true), rfl, call_of (code_ok r14 _ e h7 (hg.new n07) ((e5.new n6).new n7)) ?_⟩
    rintro _ h8 ⟨rfl, n8⟩
    have n08 := n07.trans n8
    refine ⟨e, rfl, ?_, n8.ext⟩
    refine call_of (code_ok err _ e h8 (hg.new n08) ((((ec4.new n5).new n6).new n7).new n8)) ?_
    rintro _ h9 ⟨rfl, n9⟩
    have n09 := n08.trans n9
    refine ⟨e, rfl, ⟨br_t (by simp) ?_, n9.ext⟩⟩
    refine call_of (fis_ok r14 _ e e h9 ((((e5.new n6).new n7).new n8).new n9)) ?_
    rintro _ h10 ⟨rfl, hh⟩
    subst h10
    refine ⟨_, rfl, ?_, (New.refl _).ext⟩
    have b9 := (((b6.new n7).new n8).new n9)
    have hst : StrAt h9 na (op :: l.reverse.map (·.1)) := (((StrAt.own on).new n7).new n8).new n9
    have hot := (((((StrAt.own ot).new n5).new n6).new n7).new n8).new n9
    have hq : (l.reverse.map (·.1)).length + 1 ≤ nc := on.cap
    have hxl : (l.reverse.map (·.1)).length ≤ 1000 := by simp; omega
    obtain ⟨g', hgo, _, _⟩ := on.cell (j := 0) (u := .string op) rfl
    subst hgo
    dsimp only
    clear on ot
    generalize l.reverse.map (·.1) = xs at hst hot hq hxl ⊢
    obtain ⟨g, o, hgo, hgb, hc0⟩ := hst 0 op rfl
    injection hgo with hgo
    injection hgo with e1 e2
    subst e1 e2
    refine br_t (by simp [h0e]) (br_t ?_ (ptr_of ⟨⟨show (0 : Int) ≤ 0 ∧ (0 : Int) < ((xs.length + 1 : Nat) : Int) by omega, rfl⟩, ld_of (c := .str) op (by simp only [add_mk]; exact hc0) (ld_of (c := .str) op (by rw [add_mk, cellH_blk b9]; rfl) (br_t (by simp) ?_))⟩))
    · rw [wrapI (by omega)]
      simp
    · refine ⟨⟨by omega, by omega, by omega, by omega⟩, ?_⟩
      have hsb : StrAt h9 (sliceBase (some ⟨g', 0, none⟩) 1 nc 1) xs := by
        unfold sliceBase
        split
        · intro i x hx
          have := (List.getElem?_eq_some_iff.1 hx).1
          omega
        · show StrAt h9 (some (Addr.add ⟨g', 0, none⟩ (1 * 1))) xs
          rw [add_mk]
          exact StrAt.shift hst
      simp only [show (1 : Int).toNat = 1 from rfl, Int.toNat_natCast, Nat.add_sub_cancel]
      have key := rsame_q (sliceBase (some ⟨g', 0, none⟩) 1 nc 1) ta (nc - 1) tc xs xs h9 hsb hot hxl (F := fun (r37 : Bool) => br r37 (ldW (.int .i64) (Addr.add ⟨h.size, 0, none⟩ 1) (fun (x38 : Int) => br (at_ == x38) (True ∧ New h h9) (Value.bool false = .bool true ∧ New h h9)) h9) (Value.bool false = .bool true ∧ New h h9)) (by
        rw [decide_eq_true rfl]
        exact br_t rfl (ld_of (c := .int .i64) at_ (by rw [add_mk, cellH_blk b9]; rfl) (br_t (by simp) ⟨trivial, n09⟩)))
      exact key
theorem wraps_law (h : Heap) (v0 v1 v2 : Value) (x0 : Int) (x1 : List (ByteArray × Int)) (x2 : ByteArray × Int) (r0 : ReadsV h (.int .i64) v0 x0) (r1 : ReadsV h (.slice StepS) v1 x1) (r2 : ReadsV h StepS v2 x2) (hg : Laid h) :
    CallsH Tryd.prog 9 [v0, v1, v2] h fun v h' => v = .bool true ∧ New h h' := by
  obtain ⟨_, rfl, e0, _⟩ := r0
  injection e0 with e0 _
  subst e0
  obtain ⟨a, c, rfl, _, _, _, sl⟩ := SlAt.reads r1
  obtain ⟨cs, rfl, e2⟩ := r2
  obtain rfl := step_cells e2
  exact wraps_ok a c x1 x0 x2.2 x2.1 h hg sl
end Go.Proofs.YtogeildomhahjaaDoor.L1
