/-
  errors.As over chains of faults, for the two kinds of targets. Printed by tools/mkerr3.py.
-/
import Derived.Test.YtgohecjnjadnpaaDoorErr2E
namespace Go.Proofs.YtgohecjnjadnpaaDoor.Err
open Go.RowKit Go.Extern.Stop Go.Stop Go.Extern Go.Pl Go.Proofs.YtgohecjnjadnpaaDoor.W Go.Proofs.YtgohecjnjadnpaaDoor.As
theorem zeroRV : zeroC Tryd.prog 163 = #[.pointer none, .pointer none, .int .u64 0] := by kernel_rfl
set_option maxRecDepth 20000 in
theorem As_E (v : Value) (t : Nat) (h : Heap) (hv : IsIf v) (hn : isNilV v = false) (hg : Laid h) {R : Value → Heap → Prop}
    (hR : ∀ q h1, Blk h1 q #[.pointer (some ⟨t, 0, none⟩)] 120 → New h h1 → CallsH Tryd.prog 96 [v, .iface 120 (.pointer (some ⟨t, 0, none⟩)), .agg #[.pointer (some ⟨1, 120, none⟩), .pointer (some ⟨q, 0, none⟩), .int .u64 150], rtE] h1 fun r h' => (∃ b : Bool, r = .bool b) ∧ R r h') :
    CallsH Tryd.prog 62 [v, .iface 120 (.pointer (some ⟨t, 0, none⟩))] h R := by
  refine fun_ok hm' Tryd.func62 (by kernel_rfl) (F62_eq _ _ _ h) ?_
  unfold F62
  refine ⟨hv, br_f hn (cut_q (fun _ h' => h' = h) ?_ fun K1 k1 => ⟨.inr ⟨_, _, rfl⟩, br_f rfl (k1 () h rfl)⟩)⟩
  rintro _ h' hh _
  subst h'
  refine ext_of (xValPE ⟨t, 0, none⟩ h) ?_
  rintro r h1 ⟨rfl, hh⟩
  have hq : Blk h1 h.size #[.pointer (some ⟨t, 0, none⟩)] 120 := by subst h1; exact Blk.push _ _ _
  have n1 : New h h1 := by subst h1; exact New.push _ _
  clear hh
  refine ⟨(some _, .pointer (some _), (150 : Int)), rfl, new_of fun h2 b2 n2 s2 => ?_⟩
  rw [zeroRV] at b2
  simp only [oneC]
  refine stL_blk b2 (by simp) fun h3 b3 o3 => ?_
  have b3 : Blk h3 h1.size #[.pointer (some ⟨1, 120, none⟩), .pointer (some ⟨h.size, 0, none⟩), .int .u64 150] 163 := b3
  have n3 : New h1 h3 := o3.upd.new n2 (Nat.le_refl _)
  have hq3 := hq.new n3
  refine ldAgg_blk (cs := [.ptr, .any, .int .u64]) (some ⟨1, 120, none⟩, .pointer (some ⟨h.size, 0, none⟩), (150 : Int)) b3 ⟨rfl, rfl, rfl, trivial⟩ ?_
  refine ext_of (xTypePE ⟨h.size, 0, none⟩ h3) ?_
  rintro r h4 ⟨rfl, hh⟩
  subst h4
  refine ⟨_, rfl, cut_q (fun _ h' => h' = h3) ?_ fun K13 k13 => ?_⟩
  · rintro _ h' hh _
    subst h'
    refine inv_of (mElem _) (.inr (xElemE h3)) ?_
    rintro r h4 ⟨rfl, hh⟩
    subst h4
    refine ⟨_, rfl, cut_q (fun _ h' => h' = h3) ?_ fun K24 k24 => ?_⟩
    · rintro _ h' hh _
      subst h'
      refine ldAgg_blk (cs := [.ptr, .any, .int .u64]) (some ⟨1, 120, none⟩, .pointer (some ⟨h.size, 0, none⟩), (150 : Int)) b3 ⟨rfl, rfl, rfl, trivial⟩ ?_
      refine call_of (hR h.size h3 hq3 (n1.trans n3)) ?_
      rintro r h' ⟨⟨b, rfl⟩, k⟩
      exact ⟨b, rfl, k⟩
    · refine inv_of (mKind _) (.inr (xKindE h3)) ?_
      rintro r h4 ⟨rfl, hh⟩
      subst h4
      refine ⟨(2 : Int), rfl, br_t rfl (ld_of (c := .any) _ (hg.new (n1.trans n3)) (inv_of (mImpl _) (.inr (xImplE h3)) ?_))⟩
      rintro r h4 ⟨rfl, hh⟩
      subst h4
      exact ⟨true, rfl, br_f rfl (k24 () h3 rfl)⟩
  · refine inv_of (mKind _) (.inr (xKindPE h3)) ?_
    rintro r h4 ⟨rfl, hh⟩
    subst h4
    refine ⟨(22 : Int), rfl, br_f rfl (ldAgg_blk (cs := [.ptr, .any, .int .u64]) (some ⟨1, 120, none⟩, .pointer (some ⟨h.size, 0, none⟩), (150 : Int)) b3 ⟨rfl, rfl, rfl, trivial⟩ (ext_of (xIsNilPE ⟨h.size, 0, none⟩ ⟨t, 0, none⟩ h3 (by rw [cellH_blk hq3]; rfl)) ?_))⟩
    rintro r h4 ⟨rfl, hh⟩
    subst h4
    exact ⟨false, rfl, br_f rfl (k13 () h3 rfl)⟩
theorem asE_ok (t : Nat) (old : Value) (T : TypeId) (v : Value) (l : List (ByteArray × Int)) (c : Int) (h : Heap) (hg : Laid h) (hc : c ≠ 0) (he : ErrC h v l c) (ht : Blk h t #[old] T) :
    CallsH Tryd.prog 62 [v, .iface 120 (.pointer (some ⟨t, 0, none⟩))] h fun r h' => r = .bool true ∧ Blk h' t #[.int .i64 c] T ∧ Upd t h h' := by
  refine As_E v t h he.ok.1 (by rw [he.ok.2]; simp [hc]) hg fun q h1 hq n1 => (as_E t _ q _ old T v l c h1 hc (he.new n1) (ht.new n1) hq).mono ?_
  rintro r h' ⟨rfl, b, u⟩
  exact ⟨⟨_, rfl⟩, rfl, b, n1.upd.trans u⟩
end Go.Proofs.YtgohecjnjadnpaaDoor.Err
