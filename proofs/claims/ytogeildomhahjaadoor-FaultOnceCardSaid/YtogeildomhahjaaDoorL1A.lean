/-
  The awake calls of the laws of fault.
-/
import Derived.Test.YtogeildomhahjaaDoorL1
namespace Go.Proofs.YtogeildomhahjaaDoor.L1
open Go.RowKit Go.Extern.Stop Go.Stop Go.Extern Go.Pl Go.Proofs.YtogeildomhahjaaDoor.W Go.Proofs.YtogeildomhahjaaDoor.As Go.Proofs.YtogeildomhahjaaDoor.Err
abbrev sPage : ByteArray := ⟨#[112, 97, 103, 101]⟩
abbrev sRead : ByteArray := ⟨#[114, 101, 97, 100]⟩
theorem page_read : (sRead.toList == sPage.toList) = false := by kernel_rfl
theorem placeRP : placeL [(sRead, 3), (sPage, 7)] sPage = (7, true) := by
  simp only [placeL, page_read, beq_self_eq_true, if_true, Bool.false_eq_true, if_false]
set_option maxRecDepth 20000 in
theorem awake_ok (h : Heap) (hg : Laid h) : CallsH Tryd.prog 37 [] h fun v h' => v = .bool true ∧ New h h' := by
  refine fun_ok hm' Tryd.func37 (by kernel_rfl) (F37_eq _ h) ?_
  unfold F37
  refine call_of (wrap_ok sPage 7 _ [] 6 h (by decide) rfl) ?_
  rintro v1 h1 ⟨e1, n1⟩
  refine ⟨v1, rfl, call_of (wrap_ok sRead 3 _ _ 6 h1 (by decide) e1) ?_⟩
  rintro v2 h2 ⟨e2, n2⟩
  have n12 := n1.trans n2
  refine ⟨v2, rfl, call_of (place_ok v2 _ 6 sPage h2 (hg.new n12) e2) ?_⟩
  rintro _ h3 ⟨rfl, n3⟩
  rw [placeRP]
  have n13 := n12.trans n3
  refine ⟨((7 : Int), true), rfl, call_of (code_ok v2 _ 6 h3 (hg.new n13) (e2.new n3)) ?_⟩
  rintro _ h4 ⟨rfl, n4⟩
  have n14 := n13.trans n4
  have e4 := (e2.new n3).new n4
  refine ⟨(6 : Int), rfl, br_t rfl (call_of (trail_ok v2 _ 6 h4 (hg.new n14) e4 (by simp)) ?_)⟩
  rintro _ h5 ⟨ta, tc, rfl, ot, n5⟩
  have n15 := n14.trans n5
  refine ⟨(ta, 2, tc), rfl, new_of fun h6 b6 n6 s6 => ?_⟩
  have n16 := n15.trans n6
  have hs1 : StrAt h6 ta [sRead, sPage] := (StrAt.own ot).new n6
  have hs2 : StrAt h6 (some ⟨h5.size, 0, none⟩) [sRead, sPage] := fun i x hx => ⟨h5.size, 0, rfl, b6.lt, by
    rw [cellH_blk b6]
    rcases i with _ | _ | i
    · injection hx with hx; subst hx; rfl
    · injection hx with hx; subst hx; rfl
    · cases hx⟩
  refine call_of (rsame_ok ta (some ⟨h5.size, 0, none⟩) tc 2 [sRead, sPage] [sRead, sPage] h6 hs1 hs2 (by simp)) ?_
  rintro _ h7 ⟨rfl, hh⟩
  subst h7
  refine ⟨true, by rw [decide_eq_true rfl]; rfl, br_t rfl (call_of (fis_ok v2 _ 6 6 h6 ((e4.new n5).new n6)) ?_)⟩
  rintro _ h7 ⟨rfl, hh⟩
  subst h7
  refine ⟨true, rfl, br_t rfl (call_of (fis_ok v2 _ 6 1 h6 ((e4.new n5).new n6)) ?_)⟩
  rintro _ h7 ⟨rfl, hh⟩
  subst h7
  refine ⟨false, rfl, br_t rfl (br_t rfl (br_t rfl (call_of (wrap_nil _ 1 h6) ?_)))⟩
  rintro _ h7 ⟨rfl, hh⟩
  subst h7
  refine ⟨_, rfl, .inl rfl, br_t rfl (call_of (code_ok .nilIface [] 0 h6 (hg.new n16) rfl) ?_)⟩
  rintro _ h7 ⟨rfl, n7⟩
  exact ⟨(0 : Int), rfl, rfl, n16.trans n7⟩
end Go.Proofs.YtogeildomhahjaaDoor.L1
