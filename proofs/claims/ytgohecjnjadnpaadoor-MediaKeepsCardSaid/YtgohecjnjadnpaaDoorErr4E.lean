/-
  fault.Code and fault.Wrap over chains of faults.
-/
import Derived.Test.YtgohecjnjadnpaaDoorErr3E
namespace Go.Proofs.YtgohecjnjadnpaaDoor.Err
open Go.RowKit Go.Extern.Stop Go.Stop Go.Extern Go.Pl Go.Proofs.YtgohecjnjadnpaaDoor.W Go.Proofs.YtgohecjnjadnpaaDoor.As
/-- fault.Code of any error: its code. -/
theorem code_ok (v : Value) (l : List (ByteArray × Int)) (c : Int) (h : Heap) (hg : Laid h) (he : ErrC h v l c) : CallsH Tryd.prog 20 [v] h fun r h' => r = .int .i64 c ∧ New h h' := by
  by_cases hc : c = 0
  · cases l with
    | nil =>
      have he : v = errV c := he
      subst he
      exact code_err c h hg
    | cons p l => obtain ⟨_, _⟩ := p; exact absurd hc he.1
  · refine fun_ok hm' Tryd.func20 (by kernel_rfl) (F20_eq _ _ h) ?_
    unfold F20
    rw [zeroE]
    refine new_of fun h1 b1 n1 s1 => ?_
    refine call_of (asE_ok h.size _ _ v l c h1 (hg.new n1) hc (he.new n1) b1) ?_
    rintro r h2 ⟨rfl, b2, u2⟩
    exact ⟨true, rfl, br_t rfl (ld_of (c := .int .i64) c (by rw [cellH_blk b2]; rfl) ⟨rfl, u2.new n1 (Nat.le_refl _)⟩)⟩
theorem builtF (op : ByteArray) (at_ : Int) {v : Value} (hv : IsIf v) : (Program.built Tryd.prog 177 [(0, .string op), (1, .int .i64 at_), (2, v)]) = some #[.string op, .int .i64 at_, v] := by
  rcases hv with rfl | ⟨t, u, rfl⟩
  · kernel_rfl
  · kernel_rfl
/-- fault.Wrap of what is no error. -/
theorem wrap_nil (op : ByteArray) (at_ : Int) (h : Heap) : CallsH Tryd.prog 86 [.string op, .int .i64 at_, .nilIface] h fun r h' => r = .nilIface ∧ h' = h := by
  refine fun_ok hm' Tryd.func86 (by kernel_rfl) (F86_eq _ _ _ _ h) ?_
  unfold F86
  refine cut_q (fun _ _ => False) (fun _ _ hf => hf.elim) fun K1 k1 => ?_
  exact ⟨.inl rfl, br_t rfl ⟨rfl, rfl⟩⟩
theorem wrap_zero (op : ByteArray) (at_ : Int) (h : Heap) : CallsH Tryd.prog 86 [.string op, .int .i64 at_, .iface 31 (.int .i64 0)] h fun r h' => r = .nilIface ∧ h' = h := by
  refine fun_ok hm' Tryd.func86 (by kernel_rfl) (F86_eq _ _ _ _ h) ?_
  unfold F86
  refine cut_q (fun _ _ => False) (fun _ _ hf => hf.elim) fun K1 k1 => ?_
  refine ⟨.inr ⟨_, _, rfl⟩, br_f rfl (cut_q (fun (s : Bool × Int) h' => s = (true, (0 : Int)) ∧ h' = h) ?_ fun K2 k2 => ?_)⟩
  · rintro _ h' ⟨rfl, hh⟩ _
    subst h'
    exact br_t rfl (br_t rfl ⟨rfl, rfl⟩)
  · exact ⟨(0 : Int), rfl, k2 _ h ⟨rfl, rfl⟩⟩
theorem wrap_ok (op : ByteArray) (at_ : Int) (v : Value) (l : List (ByteArray × Int)) (c : Int) (h : Heap) (hc : c ≠ 0) (he : ErrC h v l c) :
    CallsH Tryd.prog 86 [.string op, .int .i64 at_, v] h fun r h' => ErrC h' r ((op, at_) :: l) c ∧ New h h' := by
  refine fun_ok hm' Tryd.func86 (by kernel_rfl) (F86_eq _ _ _ _ h) ?_
  unfold F86
  have ok := he.ok
  refine cut_q (fun _ h' => h' = h) ?_ fun K1 k1 => ?_
  · rintro _ h' hh _
    subst h'
    refine ⟨(op, at_, v), builtF op at_ ok.1, new_of fun h1 b1 n1 _ => ?_⟩
    exact ⟨⟨hc, h.size, v, rfl, b1, he.new n1⟩, n1⟩
  · refine ⟨ok.1, br_f (by rw [ok.2]; simp [hc]) ?_⟩
    cases l with
    | nil =>
      obtain rfl : v = .iface 31 (.int .i64 c) := (show v = errV c from he).trans (errV_ne hc)
      refine cut_q (fun (s : Bool × Int) h' => s = (true, c) ∧ h' = h) ?_ fun K2 k2 => ?_
      · rintro _ h' ⟨rfl, hh⟩ _
        subst h'
        exact br_t rfl (br_f (by simpa using hc) (k1 () h rfl))
      · exact ⟨c, rfl, k2 _ h ⟨rfl, rfl⟩⟩
    | cons p l =>
      obtain ⟨_, _⟩ := p
      obtain ⟨_, b, v', rfl, _, _⟩ := he
      refine cut_q (fun (s : Bool × Int) h' => s = (false, (0 : Int)) ∧ h' = h) ?_ fun K2 k2 => ?_
      · rintro _ h' ⟨rfl, hh⟩ _
        subst h'
        exact br_f rfl (k1 () h rfl)
      · exact k2 _ h ⟨rfl, rfl⟩
end Go.Proofs.YtgohecjnjadnpaaDoor.Err
