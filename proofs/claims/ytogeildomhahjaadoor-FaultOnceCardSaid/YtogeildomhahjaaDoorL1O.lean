/-
  What FaultOnce comes to.
-/
import Derived.Test.YtogeildomhahjaaDoorL1W
namespace Go.Proofs.YtogeildomhahjaaDoor.L1
open Go.RowKit Go.Extern.Stop Go.Stop Go.Extern Go.Pl Go.Proofs.YtogeildomhahjaaDoor.W Go.Proofs.YtogeildomhahjaaDoor.As Go.Proofs.YtogeildomhahjaaDoor.Err
set_option maxRecDepth 20000 in
theorem once_ok (a : Option Addr) (c : Nat) (l : List (ByteArray × Int)) (e : Int) (h : Heap) (hg : Laid h) (r : SlAt h StepS a l) :
    CallsH Tryd.prog 10 [.int .i64 e, .slice a l.length c] h fun v h' => v = .bool true ∧ New h h' := by
  refine fun_ok hm' Tryd.func10 (by kernel_rfl) (F10_eq _ _ _ _ _ h) ?_
  unfold F10
  refine call_of (awake_ok h hg) ?_
  rintro _ h1 ⟨rfl, n1⟩
  refine ⟨true, rfl, br_f rfl (cut_q (fun _ h' => h' = h1 ∧ l.length ≤ 100 ∧ e ≠ 0) ?_ fun K k => br_of (fun _ => ⟨rfl, n1⟩) fun hl => br_of (fun _ => ⟨rfl, n1⟩) fun h0 => k () h1 ⟨rfl, by simp at hl; omega, by simpa using h0⟩)⟩
  rintro _ h' ⟨hh, hl, h0⟩ _
  subst h'
  refine ⟨fun (s : Value × Int) h' => ∃ i : Nat, s.2 = i ∧ i ≤ l.length ∧ ErrC h' s.1 (l.take i).reverse e ∧ New h h', fun (s : Value × Int) _ => ((l.length : Int) - s.2).toNat, ⟨0, rfl, by omega, (errV_ne h0).symm, n1⟩, ?_⟩
  rintro ⟨s, si⟩ _ h2 ⟨i, hs, hi, he, n2⟩
  simp only at hs he
  subst hs
  by_cases hlt : i < l.length
  · obtain ⟨b, o, es, rfl, hb, hel, hc, re⟩ := (r.new n2) i _ (List.getElem?_eq_getElem hlt)
    obtain rfl := step_cells re
    have ok := he.ok
    refine br_t (by simpa using hlt) (agg_at (k := 2) (l[i].1, l[i].2) hc rfl rfl hlt (new_stL (by rw [zeroS]; rfl) fun h3 b3 n3 s3 => ?_))
    dsimp only
    refine ld_of (c := .str) l[i].1 (by rw [add_mk, cellH_blk b3]; rfl) (ld_of (c := .int .i64) l[i].2 (by rw [add_mk, cellH_blk b3]; rfl) ?_)
    refine ⟨(l[i].1, l[i].2, s), builtF l[i].1 l[i].2 ok.1, new_of fun h4 b4 n4 s4 => ?_⟩
    dsimp only at b4
    have n34 := (n2.trans n3).trans n4
    have b34 := b3.new n4
    have ec : ErrC h4 (.iface 90 (.pointer (some ⟨h3.size, 0, none⟩))) ((l[i].1, l[i].2) :: (l.take i).reverse) e := ⟨h0, h3.size, s, rfl, b4, (he.new n3).new n4⟩
    have es := (he.new n3).new n4
    have e1 : l.take (i + 1) = l.take i ++ [(l[i].1, l[i].2)] := by rw [List.take_add_one, List.getElem?_eq_getElem hlt]; rfl
    have hlr : (l.take i).reverse.length ≤ 100 := by simp; omega
    have hpl : placeL ((l[i].1, l[i].2) :: (l.take i).reverse) l[i].1 = (l[i].2, true) := by simp [placeL]
    generalize l[i].1 = op at *
    generalize l[i].2 = at_ at *
    generalize hps : (l.take i).reverse = ps at *
    refine cut_q (fun _ h' => New h4 h') ?_ fun K k => ?_
    · rintro _ h5 n5 _
      have n05 := n34.trans n5
      refine ld_of (c := .str) op (by rw [add_mk, cellH_blk (b34.new n5)]; rfl) (call_of (place_ok _ _ e op h5 (hg.new n05) (ec.new n5)) ?_)
      rintro _ h6 ⟨rfl, n6⟩
      rw [hpl]
      refine ⟨(at_, true), rfl, cut_q (fun (s : Bool) h' => s = false ∧ h' = h6) ?_ fun K k => ?_⟩
      · rintro _ h' ⟨rfl, hh⟩ _
        subst h'
        have hw := wrapI (n := i) (by omega)
        refine br_f rfl ⟨⟨i + 1, hw, by omega, ?_, n05.trans n6⟩, by simp only [hw]; omega⟩
        rw [e1, List.reverse_append, hps]
        exact (ec.new n5).new n6
      · exact ld_of (c := .int .i64) at_ (by rw [add_mk, cellH_blk ((b34.new n5).new n6)]; rfl) (br_f (by simp) (k _ h6 ⟨rfl, rfl⟩))
    · refine call_of (unwrap_ok h3.size op at_ s h4 b4) ?_
      rintro _ h5 ⟨rfl, hh⟩
      subst h5
      refine ⟨_, rfl, ok.1, br_f (by rw [ok.2]; simp [h0]) (call_of (code_ok _ _ e h4 (hg.new n34) ec) ?_)⟩
      rintro _ h5 ⟨rfl, n5⟩
      refine ⟨e, rfl, br_f (by simp) (call_of (unwrap_ok h3.size op at_ _ h5 (b4.new n5)) ?_)⟩
      rintro _ h6 ⟨rfl, hh⟩
      subst h6
      refine ⟨_, rfl, call_of (code_ok _ ps e h5 (hg.new (n34.trans n5)) (es.new n5)) ?_⟩
      rintro _ h6 ⟨rfl, n6⟩
      have n06 := (n34.trans n5).trans n6
      refine ⟨e, rfl, br_f (by simp) (call_of (trail_ok _ _ e h6 (hg.new n06) ((ec.new n5).new n6) (by simp; omega)) ?_)⟩
      rintro _ h7 ⟨ta, tc, rfl, _, n7⟩
      refine ⟨(ta, _, tc), rfl, call_of (trail_ok _ ps e h7 (hg.new (n06.trans n7)) (((es.new n5).new n6).new n7) (by omega)) ?_⟩
      rintro _ h8 ⟨ua, uc, rfl, _, n8⟩
      refine ⟨(ua, _, uc), rfl, br_f ?_ (k () h8 (((n5.trans n6).trans n7).trans n8))⟩
      have hm : (ps.map (·.1)).length ≤ 100 := by simp; omega
      show (((((ps.map (·.1)).length + 1 : Nat) : Int)) != IntKind.wrap .i64 ((((ps.map (·.1)).length : Nat) : Int) + 1)) = false
      rw [wrapI (by omega)]
      simp
  · obtain rfl : i = l.length := by omega
    rw [List.take_length] at he
    refine br_f (by simp) (call_of (fis_ok s _ e e h2 he) ?_)
    rintro _ h3 ⟨rfl, hh⟩
    subst h3
    refine ⟨_, rfl, br_t (by simp [h0]) (call_of (trail_ok s _ e h2 (hg.new n2) he (by simp; omega)) ?_)⟩
    rintro _ h3 ⟨ta, tc, rfl, _, n3⟩
    refine ⟨(ta, _, tc), rfl, ?_, n2.trans n3⟩
    simp
theorem once_law (h : Heap) (v0 v1 : Value) (x0 : Int) (x1 : List (ByteArray × Int)) (r0 : ReadsV h (.int .i64) v0 x0) (r1 : ReadsV h (.slice StepS) v1 x1) (hg : Laid h) :
    CallsH Tryd.prog 10 [v0, v1] h fun v h' => v = .bool true ∧ New h h' := by
  obtain ⟨_, rfl, e0, _⟩ := r0
  injection e0 with e0 _
  subst e0
  obtain ⟨a, c, rfl, _, _, _, sl⟩ := SlAt.reads r1
  exact once_ok a c x1 x0 h hg sl
end Go.Proofs.YtogeildomhahjaaDoor.L1
