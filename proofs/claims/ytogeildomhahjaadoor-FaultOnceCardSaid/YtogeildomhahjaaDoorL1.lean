/-
  The laws of fault: what is made, and what the awake calls answer.
-/
import Derived.Test.YtogeildomhahjaaDoorWL1
import Derived.Test.YtogeildomhahjaaDoorR1
namespace Go.Proofs.YtogeildomhahjaaDoor.L1
open Go.RowKit Go.Extern.Stop Go.Stop Go.Extern Go.Pl Go.Proofs.YtogeildomhahjaaDoor.W Go.Proofs.YtogeildomhahjaaDoor.As Go.Proofs.YtogeildomhahjaaDoor.Err
abbrev StepS : Sh := .pair .str (.int .i64)
theorem step_cells {h : Heap} {es : List Value} {x : ByteArray × Int} (r : Reads h StepS es x) : es = [.string x.1, .int .i64 x.2] := by
  obtain ⟨c1, d1, rfl, ⟨rfl, _⟩, ⟨rfl, _⟩⟩ := r
  rfl
/-- The steps that count: none, if there is no error. -/
def lawL (e : Int) (l : List (ByteArray × Int)) : List (ByteArray × Int) := if e = 0 then [] else l.reverse
theorem lawL_len (e : Int) (l : List (ByteArray × Int)) : (lawL e l).length ≤ l.length := by unfold lawL; split <;> simp
theorem lawL_zero (l : List (ByteArray × Int)) : lawL 0 l = [] := rfl
theorem lawL_ne {e : Int} (h : e ≠ 0) (l : List (ByteArray × Int)) : lawL e l = l.reverse := if_neg h
theorem wrap_any (op : ByteArray) (at_ : Int) (v : Value) (l : List (ByteArray × Int)) (e : Int) (h : Heap) (he : ErrC h v (lawL e l) e) :
    CallsH Tryd.prog 45 [.string op, .int .i64 at_, v] h fun r h' => ErrC h' r (lawL e (l ++ [(op, at_)])) e ∧ New h h' := by
  by_cases h0 : e = 0
  · subst h0
    obtain rfl : v = .nilIface := he
    refine (wrap_nil op at_ h).mono ?_
    rintro r h' ⟨rfl, rfl⟩
    exact ⟨rfl, New.refl _⟩
  · rw [lawL_ne h0] at he ⊢
    rw [List.reverse_append]
    exact wrap_ok op at_ v _ e h h0 he
theorem rwrap_any (op : ByteArray) (at_ : Int) (a : Option Addr) (c : Nat) (l : List (ByteArray × Int)) (e : Int) (base : Nat) (h : Heap) (ow : OwnH h base 107 2 a (lawL e l).length c (cellsP (lawL e l))) (hl : l.length ≤ 1000) :
    CallsH Tryd.prog 49 [.string op, .int .i64 at_, .agg #[.slice a (lawL e l).length c, .int .i64 e]] h fun r h' => RefF h' h.size r (lawL e (l ++ [(op, at_)])) e ∧ New h h' := by
  by_cases h0 : e = 0
  · subst h0
    refine (rwrap_zero op at_ a _ c h).mono ?_
    rintro r h' ⟨rfl, n⟩
    exact ⟨⟨none, 0, rfl, OwnH.nil _ _ _ _⟩, n⟩
  · have hlen := lawL_len e l
    rw [lawL_ne h0] at ow hlen ⊢
    rw [lawL_ne h0, List.reverse_append]
    exact rwrap_ok op at_ a c _ e base h ow h0 (by omega)
theorem ErrC.upd {h h' : Heap} {b' : Nat} {arr : Array Value} {T : TypeId} (u : Upd b' h h') (hb' : Blk h b' arr T) (hT : T ≠ 92) : ∀ {v : Value} {l : List (ByteArray × Int)} {c : Int}, ErrC h v l c → ErrC h' v l c
  | _, [], _, e => e
  | _, (_, _) :: _, _, ⟨hc, b, v', e, hb, r⟩ => ⟨hc, b, v', e, (u.same b hb.lt fun hh => by
      subst hh
      have key := (show h[b]? = _ from hb).symm.trans hb'
      injection key with key
      injection key with _ key
      exact hT key.symm).trans hb, ErrC.upd u hb' hT r⟩
theorem zeroS : zeroC Tryd.prog 88 = #[.string ⟨#[]⟩, .int .i64 0] := by kernel_rfl
set_option maxRecDepth 20000 in
theorem made_ok (a : Option Addr) (c : Nat) (l : List (ByteArray × Int)) (e : Int) (h : Heap) (r : SlAt h StepS a l) (hl : l.length ≤ 100) :
    CallsH Tryd.prog 38 [.int .i64 e, .slice a l.length c] h fun v h' => ∃ err f, v = .tuple #[err, f] ∧ ErrC h' err (lawL e l) e ∧ RefF h' h.size f (lawL e l) e ∧ New h h' := by
  refine fun_ok hm' Tryd.func38 (by kernel_rfl) (F38_eq _ _ _ _ _ h) ?_
  unfold F38
  rw [zeroF1]
  refine new_of fun h1 b1 n1 s1 => ?_
  refine cut_q (fun (s : Value) h' => s = errV e ∧ h' = h1) ?_ fun K k => ?_
  · rintro _ h' ⟨rfl, hh⟩ _
    subst h'
    refine new_of fun h2 b2 n2 s2 => ?_
    refine stL_blk b2 (by simp) fun h3 b3 o3 => ?_
    have b13 : Blk h3 h.size _ _ := (o3.same h.size (by omega)).trans (b1.new n2)
    have n3 : New h h3 := n1.trans (o3.upd.new n2 (Nat.le_refl _))
    have l0 : lawL e ([] : List (ByteArray × Int)) = [] := by unfold lawL; split <;> rfl
    refine ⟨fun (s : Value × Int) h' => ∃ (i : Nat) (fa : Option Addr) (fc : Nat), s.2 = i ∧ i ≤ l.length ∧ ErrC h' s.1 (lawL e (l.take i)) e ∧ Blk h' h1.size #[.slice fa (lawL e (l.take i)).length fc, .int .i64 e] 74 ∧ OwnH h' h2.size 107 2 fa (lawL e (l.take i)).length fc (cellsP (lawL e (l.take i))) ∧ Blk h' h.size #[.slice none 0 0, .int .i64 0] 74 ∧ New h h', fun (s : Value × Int) _ => ((l.length : Int) - s.2).toNat, ⟨0, none, 0, rfl, by omega, ?_, ?_, ?_, b13, n3⟩, ?_⟩
    · rw [List.take_zero, l0]; rfl
    · rw [List.take_zero, l0]; exact b3
    · rw [List.take_zero, l0]; exact OwnH.nil _ _ _ _
    rintro ⟨s, si⟩ _ h4 ⟨i, fa, fc, hs, hi, he, bf, ow, b14, n4⟩
    simp only at hs he
    subst hs
    by_cases hlt : i < l.length
    · obtain ⟨b, o, es, rfl, hb, hel, hc, re⟩ := (r.new n4) i _ (List.getElem?_eq_getElem hlt)
      obtain rfl := step_cells re
      refine br_t (by simpa using hlt) (agg_at (k := 2) (l[i].1, l[i].2) hc rfl rfl hlt (new_stL (by rw [zeroS]; rfl) fun h5 b5 n5 s5 => ?_))
      dsimp only
      refine ld_of (c := .str) l[i].1 (by rw [add_mk, cellH_blk b5]; rfl) (ld_of (c := .int .i64) l[i].2 (by rw [add_mk, cellH_blk b5]; rfl) (call_of (wrap_any l[i].1 l[i].2 s (l.take i) e h5 (he.new n5)) ?_))
      rintro r' h6 ⟨e6, n6⟩
      have b56 := b5.new n6
      refine ⟨r', rfl, ld_of (c := .str) l[i].1 (by rw [add_mk, cellH_blk b56]; rfl) (ld_of (c := .int .i64) l[i].2 (by rw [add_mk, cellH_blk b56]; rfl) ?_)⟩
      have bf6 := (bf.new n5).new n6
      refine ldAgg_blk (cs := [.slice, .int .i64]) ((fa, (lawL e (l.take i)).length, fc), e) bf6 ⟨rfl, rfl, trivial⟩ ?_
      refine call_of (rwrap_any l[i].1 l[i].2 fa fc (l.take i) e _ h6 ((ow.grow n5).grow n6) (by simp; omega)) ?_
      rintro r7 h7 ⟨⟨fa', fc', rfl, ow7⟩, n7⟩
      refine ⟨((fa', _, fc'), e), rfl, ?_⟩
      have bf7 := bf6.new n7
      have n07 : New h h7 := ((n4.trans n5).trans n6).trans n7
      have l6 := bf6.lt
      refine stL_blk bf7 (by simp) fun h8 b8 o8 => ?_
      have e1 : l.take (i + 1) = l.take i ++ [(l[i].1, l[i].2)] := by rw [List.take_add_one, List.getElem?_eq_getElem hlt]; rfl
      have hw := wrapI (n := i) (by omega)
      refine ⟨⟨i + 1, fa', fc', hw, by omega, ?_, ?_, ?_, ?_, o8.upd.new n07 (by omega)⟩, by simp only [hw]; omega⟩
      · rw [e1]; exact ErrC.upd o8.upd bf7 (by decide) (e6.new n7)
      · rw [e1]; exact b8
      · rw [e1]; exact (OwnH.upd ow7 o8.upd fun hh => by have := (ow7.blk_ge _ hh).1; omega).low (by have := (n5.trans n6).size; have := bf.lt; omega)
      · exact (o8.same h.size (by omega)).trans (((b14.new n5).new n6).new n7)
    · obtain rfl : i = l.length := by omega
      rw [List.take_length] at he bf ow
      refine br_f (by simp) (ldAgg_blk (cs := [.slice, .int .i64]) ((fa, (lawL e l).length, fc), e) bf ⟨rfl, rfl, trivial⟩ ?_)
      refine stL_blk b14 (by simp) fun h5 b5 o5 => ?_
      refine ldAgg_blk (cs := [.slice, .int .i64]) ((fa, (lawL e l).length, fc), e) b5 ⟨rfl, rfl, trivial⟩ ?_
      exact ⟨_, _, rfl, ErrC.upd o5.upd b14 (by decide) he, ⟨fa, fc, rfl, (OwnH.upd ow o5.upd fun hh => by have := (ow.blk_ge _ hh).1; omega).low (by omega)⟩, o5.upd.new n4 (Nat.le_refl _)⟩
  · by_cases h0 : e = 0
    · subst h0
      exact br_f rfl (k _ h1 ⟨rfl, rfl⟩)
    · exact br_t (by simpa using h0) (k _ h1 ⟨(errV_ne h0).symm, rfl⟩)
end Go.Proofs.YtogeildomhahjaaDoor.L1
