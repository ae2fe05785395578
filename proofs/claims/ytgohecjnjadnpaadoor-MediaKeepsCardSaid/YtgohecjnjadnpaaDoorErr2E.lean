/-
  errors.As over chains of faults: at a code, at a fault.
-/
import Derived.Test.YtgohecjnjadnpaaDoorErrE
namespace Go.Proofs.YtgohecjnjadnpaaDoor.Err
open Go.RowKit Go.Extern.Stop Go.Stop Go.Extern Go.Pl Go.Proofs.YtgohecjnjadnpaaDoor.W Go.Proofs.YtgohecjnjadnpaaDoor.As
theorem errV_inj {c d : Int} (h : errV c = errV d) : c = d := by
  unfold errV at h
  split at h <;> split at h <;> simp_all
theorem errV_notF {c : Int} {a : Option Addr} (h : errV c = .iface 175 (.pointer a)) : False := by
  unfold errV at h
  split at h <;> simp_all
theorem ErrC.uniq {h : Heap} : ∀ {v : Value} {l l' : List (ByteArray × Int)} {c c' : Int}, ErrC h v l c → ErrC h v l' c' → l = l' ∧ c = c'
  | _, [], [], _, _, e, e' => ⟨rfl, errV_inj ((show _ = _ from e).symm.trans e')⟩
  | _, [], (_, _) :: _, _, _, e, ⟨_, _, _, e', _, _⟩ => (errV_notF ((show _ = _ from e).symm.trans e')).elim
  | _, (_, _) :: _, [], _, _, ⟨_, _, _, e', _, _⟩, e => (errV_notF ((show _ = _ from e).symm.trans e')).elim
  | _, (_, _) :: _, (_, _) :: _, _, _, ⟨_, b, v', e, hb, r⟩, ⟨_, b2, v2, e2, hb2, r2⟩ => by
    subst e
    injection e2 with _ e2
    injection e2 with e2
    injection e2 with e2
    injection e2 with e2
    subst e2
    have key := (show h[b]? = _ from hb).symm.trans hb2
    injection key with key
    injection key with key
    injection key with key
    injection key with k1 key
    injection key with k2 key
    injection key with k3 key
    injection k1 with k1
    injection k2 with _ k2
    subst k1 k2 k3
    obtain ⟨rfl, rfl⟩ := r.uniq r2
    exact ⟨rfl, rfl⟩
open Classical in
/-- How many faults a chain has. -/
noncomputable def lenE (h : Heap) (v : Value) : Nat := if e : ∃ p : List (ByteArray × Int) × Int, ErrC h v p.1 p.2 then (Classical.choose e).1.length else 0
theorem lenE_of {h : Heap} {v : Value} {l : List (ByteArray × Int)} {c : Int} (e : ErrC h v l c) : lenE h v = l.length := by
  have ex : ∃ p : List (ByteArray × Int) × Int, ErrC h v p.1 p.2 := ⟨(l, c), e⟩
  unfold lenE
  rw [dif_pos ex, ((Classical.choose_spec ex).uniq e).1]
abbrev rtE : Value := .iface 183 (.agg #[.pointer (some ⟨1, 31, none⟩)])
abbrev rtF : Value := .iface 183 (.agg #[.pointer (some ⟨1, 175, none⟩)])
set_option maxRecDepth 20000 in
theorem as_E (t : Nat) (tg : Value) (q : Nat) (Tq : TypeId) (old : Value) (T : TypeId) (v : Value) (l : List (ByteArray × Int)) (c : Int) (h : Heap) (hc : c ≠ 0) (he : ErrC h v l c) (ht : Blk h t #[old] T) (hq : Blk h q #[.pointer (some ⟨t, 0, none⟩)] Tq) :
    CallsH Tryd.prog 96 [v, tg, .agg #[.pointer (some ⟨1, 120, none⟩), .pointer (some ⟨q, 0, none⟩), .int .u64 150], rtE] h fun r h' => r = .bool true ∧ Blk h' t #[.int .i64 c] T ∧ Upd t h h' := by
  refine fun_ok hm' Tryd.func96 (by kernel_rfl) (F96_eq _ _ _ _ _ _ _ h) ?_
  unfold F96
  refine new_of fun h1 b1 n1 s1 => ?_
  refine ⟨fun (s : Value) h' => h' = h1 ∧ ∃ l', ErrC h1 s l' c, fun (s : Value) h' => lenE h' s, ⟨rfl, l, he.new n1⟩, ?_⟩
  rintro s _ h' ⟨hh, l', es⟩
  subst h'
  cases l' with
  | nil =>
    obtain rfl : s = .iface 31 (.int .i64 c) := (show s = errV c from es).trans (errV_ne hc)
    refine ext_of (xTypeOfE _ h1) ?_
    rintro r h2 ⟨rfl, hh⟩
    subst h2
    refine ⟨_, rfl, inv_of (mAsg _) (.inr (xAsgEE h1)) ?_⟩
    rintro r h2 ⟨rfl, hh⟩
    subst h2
    refine ⟨true, rfl, br_t rfl (ldAgg_blk (cs := [.ptr, .any, .int .u64]) (some ⟨1, 120, none⟩, .pointer (some ⟨q, 0, none⟩), (150 : Int)) b1 ⟨rfl, rfl, rfl, trivial⟩ ?_)⟩
    refine ext_of (xElemVPE ⟨q, 0, none⟩ ⟨t, 0, none⟩ h1 (by rw [cellH_blk (hq.new n1)]; rfl)) ?_
    rintro r h2 ⟨rfl, hh⟩
    subst h2
    refine ⟨(some _, .pointer (some _), (386 : Int)), rfl, ext_of (xValE c h1) ?_⟩
    rintro r h2 ⟨rfl, hh⟩
    subst h2
    refine ⟨(some _, .pointer (some _), (130 : Int)), rfl, ext_of (xSetE t ⟨h1.size, 0, none⟩ c old T _ (by rw [cellH_blk (Blk.push h1 _ _)]; rfl) ((ht.new n1).new (New.push _ _))) ?_⟩
    rintro r h3 ⟨rfl, b3, o3⟩
    exact ⟨(), rfl, rfl, b3, (n1.trans (New.push _ _)).upd.trans o3.upd⟩
  | cons p l'' =>
    obtain ⟨op, at_⟩ := p
    have es0 := es
    obtain ⟨_, b, v', rfl, hb, ev⟩ := es
    refine ext_of (xTypeOfF _ h1) ?_
    rintro r h2 ⟨rfl, hh⟩
    subst h2
    refine ⟨_, rfl, inv_of (mAsg _) (.inr (xAsgFE h1)) ?_⟩
    rintro r h2 ⟨rfl, hh⟩
    subst h2
    refine ⟨false, rfl, br_f rfl ?_⟩
    refine cut_q (fun _ h' => h' = h1) ?_ fun K17 k17 => ?_
    · rintro _ h' hh _
      subst h'
      refine cut_q (fun (s : Bool × Value) h' => s = (true, .iface 175 (.pointer (some ⟨b, 0, none⟩))) ∧ h' = h1) ?_ fun K27 k27 => ?_
      · rintro _ h' ⟨rfl, hh⟩ _
        subst h'
        refine br_t rfl (inv_of (mUnw _) (.inl (unwrap_ok b op at_ v' h1 hb)) ?_)
        rintro r h2 ⟨hr, hh⟩
        subst hr hh
        have ok := ev.ok
        refine ⟨_, rfl, ⟨ok.1, br_f (by rw [ok.2]; simp [hc]) ⟨⟨rfl, _, ev⟩, ?_⟩⟩⟩
        show lenE _ _ < lenE _ _
        rw [lenE_of ev, lenE_of es0]
        simp
      · exact asI_t hasUnF (k27 _ h1 ⟨rfl, rfl⟩)
    · refine cut_q (fun (s : Value × Bool) h' => s = (.nilIface, false) ∧ h' = h1) ?_ fun K18 k18 => ?_
      · rintro _ h' ⟨rfl, hh⟩ _
        subst h'
        exact br_f rfl (k17 () h1 rfl)
      · exact asI_f hasAsF (k18 _ h1 ⟨rfl, rfl⟩)
end Go.Proofs.YtgohecjnjadnpaaDoor.Err
