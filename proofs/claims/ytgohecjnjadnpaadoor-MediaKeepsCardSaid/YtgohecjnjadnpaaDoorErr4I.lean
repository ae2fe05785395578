/-
  errors.Is and fault.Is over chains of faults.
-/
import Derived.Test.YtgohecjnjadnpaaDoorErr4E
import Derived.Test.YtgohecjnjadnpaaDoorWIs
namespace Go.Proofs.YtgohecjnjadnpaaDoor.Err
open Go.RowKit Go.Extern.Stop Go.Stop Go.Extern Go.Pl Go.Proofs.YtgohecjnjadnpaaDoor.W Go.Proofs.YtgohecjnjadnpaaDoor.As
theorem hasIsE : hasB Tryd.prog 194 31 = some false := by kernel_rfl
theorem hasIsF : hasB Tryd.prog 194 175 = some false := by kernel_rfl
theorem eqN (t : TypeId) (y : Value) (w : World) : (Op.equal 28 .nilIface (.iface t y)).run Tryd.prog w = .ok false w := by kernel_rfl
theorem eqFE (x y : Value) (w : World) : (Op.equal 28 (.iface 175 x) (.iface 31 y)).run Tryd.prog w = .ok false w := by kernel_rfl
theorem eqEE (x y : Int) (w : World) : (Op.equal 28 (.iface 31 (.int .i64 x)) (.iface 31 (.int .i64 y))).run Tryd.prog w = .ok (x == y) w := by kernel_rfl
set_option maxRecDepth 20000 in
theorem is_ok (v : Value) (l : List (ByteArray × Int)) (c e : Int) (h : Heap) (hc : c ≠ 0) (he : ErrC h v l c) :
    CallsH Tryd.prog 106 [v, .iface 31 (.int .i64 e), .bool true] h fun r h' => r = .bool (c == e) ∧ h' = h := by
  refine fun_ok hm' Tryd.func106 (by kernel_rfl) (F106_eq _ _ _ _ h) ?_
  unfold F106
  refine ⟨fun (s : Value) h' => h' = h ∧ ∃ l', ErrC h s l' c, fun (s : Value) h' => lenE h' s, ⟨rfl, l, he⟩, ?_⟩
  rintro s _ h' ⟨hh, l', es⟩
  subst h'
  cases l' with
  | nil =>
    obtain rfl : s = .iface 31 (.int .i64 c) := (show s = errV c from es).trans (errV_ne hc)
    refine cut_q (fun _ h' => h' = h ∧ (c == e) = false) ?_ fun K4 k4 => ?_
    · rintro _ h' ⟨hh, hne⟩ _
      subst h'
      refine cut_q (fun _ h' => h' = h) ?_ fun K9 k9 => ?_
      · rintro _ h' hh _
        subst h'
        refine cut_q (fun (s : Bool × Value) h' => s = (false, .nilIface) ∧ h' = h) ?_ fun K27 k27 => ?_
        · rintro _ h' ⟨rfl, hh⟩ _
          subst h'
          refine br_f rfl (cut_q (fun (s : Bool × Value) h' => s = (false, .nilIface) ∧ h' = h) ?_ fun K33 k33 => ?_)
          · rintro _ h' ⟨rfl, hh⟩ _
            subst h'
            exact br_f rfl ⟨by rw [hne], rfl⟩
          · exact asI_f hasUlE (k33 _ h ⟨rfl, rfl⟩)
        · exact asI_f hasUnE (k27 _ h ⟨rfl, rfl⟩)
      · refine cut_q (fun (s : Value × Bool) h' => s = (.nilIface, false) ∧ h' = h) ?_ fun K18 k18 => ?_
        · rintro _ h' ⟨rfl, hh⟩ _
          subst h'
          exact br_f rfl (k9 () h rfl)
        · exact asI_f hasIsE (k18 _ h ⟨rfl, rfl⟩)
    · refine br_t rfl ⟨⟨.inr ⟨_, _, rfl⟩, .inr ⟨_, _, rfl⟩, fun e => nomatch e.1⟩, (c == e), eqEE c e, ?_⟩
      cases hce : (c == e) with
      | true => exact br_t rfl ⟨rfl, rfl⟩
      | false => exact br_f rfl (k4 () h ⟨rfl, hce⟩)
  | cons p l'' =>
    obtain ⟨op, at_⟩ := p
    have es0 := es
    obtain ⟨_, b, v', rfl, hb, ev⟩ := es
    refine cut_q (fun _ h' => h' = h) ?_ fun K4 k4 => ?_
    · rintro _ h' hh _
      subst h'
      refine cut_q (fun _ h' => h' = h) ?_ fun K9 k9 => ?_
      · rintro _ h' hh _
        subst h'
        refine cut_q (fun (s : Bool × Value) h' => s = (true, .iface 175 (.pointer (some ⟨b, 0, none⟩))) ∧ h' = h) ?_ fun K27 k27 => ?_
        · rintro _ h' ⟨rfl, hh⟩ _
          subst h'
          refine br_t rfl (inv_of (mUnw _) (.inl (unwrap_ok b op at_ v' h hb)) ?_)
          rintro r h2 ⟨hr, hh⟩
          subst hr hh
          have ok := ev.ok
          refine ⟨_, rfl, ⟨ok.1, br_f (by rw [ok.2]; simp [hc]) ⟨⟨rfl, _, ev⟩, ?_⟩⟩⟩
          show lenE _ _ < lenE _ _
          rw [lenE_of ev, lenE_of es0]
          simp
        · exact asI_t hasUnF (k27 _ h ⟨rfl, rfl⟩)
      · refine cut_q (fun (s : Value × Bool) h' => s = (.nilIface, false) ∧ h' = h) ?_ fun K18 k18 => ?_
        · rintro _ h' ⟨rfl, hh⟩ _
          subst h'
          exact br_f rfl (k9 () h rfl)
        · exact asI_f hasIsF (k18 _ h ⟨rfl, rfl⟩)
    · exact br_t rfl ⟨⟨.inr ⟨_, _, rfl⟩, .inr ⟨_, _, rfl⟩, fun e => nomatch e.1⟩, false, eqFE _ _, br_f rfl (k4 () h rfl)⟩
set_option maxRecDepth 20000 in
theorem Is_ok (v : Value) (l : List (ByteArray × Int)) (c e : Int) (h : Heap) (hn : e ≠ 0) (he : ErrC h v l c) :
    CallsH Tryd.prog 89 [v, .iface 31 (.int .i64 e)] h fun r h' => r = .bool (c == e) ∧ h' = h := by
  refine fun_ok hm' Tryd.func89 (by kernel_rfl) (F89_eq _ _ _ h) ?_
  unfold F89
  have ok := he.ok
  by_cases hc : c = 0
  · have hv : v = .nilIface := by
      cases l with
      | nil => exact (show v = errV c from he).trans (by rw [hc]; rfl)
      | cons p l => obtain ⟨_, _⟩ := p; exact absurd hc he.1
    subst hv hc
    refine cut_q (fun _ _ => False) (fun _ _ hf => hf.elim) fun K1 k1 => ?_
    refine ⟨.inl rfl, br_t rfl ⟨⟨.inl rfl, .inr ⟨_, _, rfl⟩, fun e => nomatch e.2⟩, false, eqN _ _, ?_⟩⟩
    refine ⟨?_, rfl⟩
    have : ((0 : Int) == e) = false := by simpa using fun x => hn x.symm
    rw [this]
  · refine cut_q (fun _ h' => h' = h) ?_ fun K1 k1 => ?_
    · rintro _ h' hh _
      subst h'
      refine ext_of (xTypeOfE _ h) ?_
      rintro r h1 ⟨rfl, hh⟩
      subst h1
      refine ⟨_, rfl, inv_of (mCmp _) (.inr (xCmpE h)) ?_⟩
      rintro r h1 ⟨rfl, hh⟩
      subst h1
      refine ⟨true, rfl, call_of (is_ok v l c e h hc he) ?_⟩
      rintro r h1 ⟨rfl, hh⟩
      subst h1
      exact ⟨_, rfl, rfl, rfl⟩
    · exact ⟨ok.1, br_f (by rw [ok.2]; simp [hc]) ⟨.inr ⟨_, _, rfl⟩, br_f rfl (k1 () h rfl)⟩⟩
/-- fault.Is. -/
theorem fis_ok (v : Value) (l : List (ByteArray × Int)) (c e : Int) (h : Heap) (he : ErrC h v l c) :
    CallsH Tryd.prog 53 [v, .int .i64 e] h fun r h' => r = .bool (!(e == 0) && c == e) ∧ h' = h := by
  refine fun_ok hm' Tryd.func53 (by kernel_rfl) (F53_eq _ _ _ h) ?_
  unfold F53
  by_cases hn : e = 0
  · subst hn
    exact br_f rfl ⟨rfl, rfl⟩
  · refine br_t (by simpa using hn) (call_of (Is_ok v l c e h hn he) ?_)
    rintro r h' ⟨rfl, hh⟩
    refine ⟨_, rfl, ?_, hh⟩
    have : (e == 0) = false := by simpa using hn
    rw [this]; rfl
end Go.Proofs.YtgohecjnjadnpaaDoor.Err
