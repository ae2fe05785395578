/-
  What FlatDoes of layer 18 comes to.
-/
import Derived.Test.YtogeildomhahjaaDoorL18
import Derived.Test.YtogeildomhahjaaDoorR18
namespace Go.Proofs.YtogeildomhahjaaDoor.L18D
open Go.Pl Go.Proofs.YtogeildomhahjaaDoor.W Go.Proofs.YtogeildomhahjaaDoor.As Go.Proofs.YtogeildomhahjaaDoor.Flat Go.Proofs.YtogeildomhahjaaDoor.R18 Go.Proofs.YtogeildomhahjaaDoor.L18
abbrev ActS : Sh := .pair (.int .i64) (.pair (.int .i64) (.pair (.int .i64) (.slice (.int .u8))))
abbrev Act := Int × Int × Int × List Int
/-- An act's cells. -/
theorem act_cells {h : Heap} {es : List Value} {x : Act} (r : Reads h ActS es x) : ∃ a c, es = [.int .i64 x.1, .int .i64 x.2.1, .int .i64 x.2.2.1, .slice a x.2.2.2.length c] ∧ x.2.2.2.length ≤ c ∧ c ≤ maxLen ∧ Ar .u8 h a x.2.2.2 := by
  obtain ⟨c1, d1, rfl, ⟨rfl, _⟩, c2, d2, rfl, ⟨rfl, _⟩, c3, d3, rfl, ⟨rfl, _⟩, hs⟩ := r
  have hs' := hs
  obtain ⟨a, c, e, h1, h2, h3, h4⟩ := hs
  subst e
  obtain ⟨a', c', e', _, _, _, har, _⟩ := Ar.reads (h := h) (v := .slice a x.2.2.2.length c) (xs := x.2.2.2) ⟨_, rfl, hs'⟩
  injection e' with e1 e2 e3
  subst e1
  exact ⟨a, c, rfl, h1, h2, har⟩
theorem zact : (zeroC Tryd.prog 53).size = 4 := by kernel_rfl
theorem large_ok (a : Option Addr) (c : Nat) (l : List Act) (h : Heap) (r : SlAt h ActS a l) : CallsH Tryd.prog 23 [.slice a l.length c] h fun v h' => v = .bool (!decide (l.length ≤ 60 ∧ ∀ x ∈ l, x.2.2.2.length ≤ 1200)) ∧ New h h' := by
  refine fun_ok hm' Tryd.func23 (by kernel_rfl) (F23_eq _ _ _ _ h) ?_
  unfold F23
  refine br_of (fun h0 => ⟨?_, New.refl h⟩) fun h0 => ?_
  · congr 1; simp at h0; simp; omega
  have hl : l.length ≤ 60 := by simp at h0; omega
  refine ⟨fun (s : Int) h' => ∃ i : Nat, s = i ∧ i ≤ l.length ∧ New h h' ∧ ∀ x ∈ l.take i, x.2.2.2.length ≤ 1200, fun (s : Int) _ => ((l.length : Int) - s).toNat, ⟨0, rfl, by omega, New.refl h, by simp⟩, ?_⟩
  rintro s j h1 ⟨i, rfl, hi, n1, hall⟩
  refine br_of (fun hlt => ?_) (fun hlt => ?_)
  · have hlt : i < l.length := by simp at hlt; omega
    obtain ⟨b, o, es, rfl, hb, hel, hc, re⟩ := (r.new n1) i _ (List.getElem?_eq_getElem hlt)
    obtain ⟨aB, cB, rfl, h1c, h2c, arB⟩ := act_cells re
    refine agg_at (k := 4) (l[i].1, l[i].2.1, l[i].2.2.1, (aB, l[i].2.2.2.length, cB)) hc rfl rfl hlt (new_stL (by rw [zact]; rfl) fun h2 b2 n2 s2 => ld_of (c := .slice) (aB, l[i].2.2.2.length, cB) (by rw [add_mk, cellH_blk b2]; rfl) ?_)
    dsimp only
    refine br_of (fun hx => ⟨?_, n1.trans n2⟩) fun hx => ?_
    · have hx : ¬ l[i].2.2.2.length ≤ 1200 := by simp at hx; omega
      have : ¬ (l.length ≤ 60 ∧ ∀ x ∈ l, x.2.2.2.length ≤ 1200) := fun hh => hx (hh.2 _ (List.getElem_mem hlt))
      rw [decide_eq_false this]; rfl
    · have hx : l[i].2.2.2.length ≤ 1200 := by simp at hx; omega
      rw [wr64 (by omega) (by omega)]
      refine ⟨⟨i + 1, by omega, by omega, n1.trans n2, fun x hm => ?_⟩, (by first | omega | (dsimp only; omega) | (simp only []; omega))⟩
      rw [List.take_add_one, List.getElem?_eq_getElem hlt] at hm
      rcases List.mem_append.1 hm with hm | hm
      · exact hall x hm
      · simp at hm; subst hm; exact hx
  · have hi : i = l.length := by simp at hlt; omega
    subst hi
    rw [List.take_length] at hall
    rw [decide_eq_true ⟨hl, hall⟩]
    exact ⟨rfl, n1⟩
theorem putL_take {xs ys : List Int} {o n : Nat} (h1 : o + ys.length ≤ n) (h2 : n ≤ xs.length) : (putL xs o ys).take n = putL (xs.take n) o ys := by
  apply List.ext_getElem?
  intro i
  rw [List.getElem?_take, putL_get (by omega), putL_get (by simp; omega), List.getElem?_take]
  split
  · rfl
  · rw [if_neg (by omega)]
theorem wrL_take {m : Nat} {xs ys : List Int} {f : Int} (hl : xs.length = 1024) (hm : m ≤ 64) : (wrL m xs f ys).take (16 * m) = wrL m (xs.take (16 * m)) f ys := by
  unfold wrL; split
  · rename_i hE
    have := writeE_spec hE
    exact putL_take (by omega) (by omega)
  · rfl
theorem trL_take {m : Nat} {xs : List Int} {f n : Int} (hl : xs.length = 1024) (hm : m ≤ 64) : (trL m xs f n).take (16 * m) = trL m (xs.take (16 * m)) f n := by
  unfold trL; split
  · rename_i hE
    unfold isE at hE; split at hE
    · rename_i hB
      have := isB_spec hB
      exact putL_take (by simp; omega) (by omega)
    · cases hE
  · rfl
theorem bytesOf_take {m f n : Nat} {xs : List Int} (hf : f + n ≤ m) : bytesOf (xs.take (16 * m)) f n = bytesOf xs f n := by
  unfold bytesOf
  rw [List.drop_take, List.take_take]
  congr 1; omega
/-- The two maps, alike. -/
def St (h0 h' : Heap) (cur rb m : Nat) : Prop := ∃ X a c, MAt h' cur X m ∧ RAt h' rb a c (X.take (16 * m)) ∧ cur ≠ rb ∧ blkOf a ≠ some cur ∧ h0.size ≤ cur ∧ h0.size ≤ rb ∧ (∀ g, blkOf a = some g → h0.size ≤ g) ∧ New h0 h'
theorem St.new {h0 h1 h2 : Heap} {cur rb m : Nat} (s : St h0 h1 cur rb m) (n : New h1 h2) : St h0 h2 cur rb m := by
  obtain ⟨X, a, c, k1, k2, k3, k4, k5, k6, k7, k8⟩ := s
  exact ⟨X, a, c, k1.new n, k2.new n, k3, k4, k5, k6, k7, k8.trans n⟩
theorem does_law (h : Heap) (v0 v1 : Value) (bl : Int) (l : List Act) (r0 : ReadsV h (.int .i64) v0 bl) (r1 : ReadsV h (.slice ActS) v1 l) (hg : Laid h) :
    CallsH Tryd.prog 5 [v0, v1] h fun v h' => v = .bool true ∧ New h h' := by
  obtain ⟨rfl, _⟩ := int_of r0
  obtain ⟨a, c, rfl, hlc, hcm, _, sl⟩ := SlAt.reads r1
  have hmx : (maxLen : Nat) ≤ 9223372036854775807 := by simp [maxLen]
  refine fun_ok hm' Tryd.func5 (by kernel_rfl) (F5_eq bl a l.length c _ h) ?_
  unfold F5
  refine call_of (awake_ok h hg) ?_
  rintro v h1 ⟨rfl, n1⟩
  refine ⟨true, rfl, br_f rfl (call_of (large_ok a c l h1 (sl.new n1)) ?_)⟩
  rintro v h2 ⟨rfl, n2⟩
  have n02 := n1.trans n2
  refine ⟨_, rfl, ?_⟩
  by_cases hlg : ¬ (l.length ≤ 60 ∧ ∀ x ∈ l, x.2.2.2.length ≤ 1200)
  · rw [decide_eq_false hlg]; exact br_t rfl ⟨rfl, n02⟩
  have hlg := Classical.not_not.1 hlg
  rw [decide_eq_true hlg]
  refine br_f rfl ?_
  by_cases hbl : ¬ (1 ≤ bl ∧ bl ≤ 64)
  · refine call_of (Flat.new_no bl h2 hbl) ?_
    rintro v h' ⟨rfl, hh⟩; subst h'
    refine ⟨(none, errV 1), rfl, call_of (R18.new_no bl h2 hbl) ?_⟩
    rintro v h' ⟨rfl, hh⟩; subst h'
    refine ⟨(none, (1 : Int)), rfl, cut_of (call_of (code_err 1 h2 (hg.new n02)) ?_)⟩
    rintro v h3 ⟨rfl, n3⟩
    exact ⟨(1 : Int), rfl, br_f rfl (br_f rfl fun _ => br_t rfl ⟨rfl, n02.trans n3⟩)⟩
  have hbl : 1 ≤ bl ∧ bl ≤ 64 := Classical.not_not.1 hbl
  obtain ⟨m, rfl⟩ := Int.eq_ofNat_of_zero_le (show 0 ≤ bl by omega)
  have hm : 1 ≤ m ∧ m ≤ 64 := by omega
  refine call_of (Flat.new_ok m h2 hm) ?_
  rintro v h3 ⟨rfl, m3, n3⟩
  refine ⟨(some ⟨h2.size, 0, none⟩, errV 0), rfl, call_of (R18.new_ok m h3 hm) ?_⟩
  rintro v h4 ⟨ra, rc, rfl, k4, n4, hra⟩
  have n04 := (n02.trans n3).trans n4
  have l3 := m3.blk.lt
  refine ⟨(some ⟨h3.size, 0, none⟩, (0 : Int)), rfl, cut_of (call_of (code_err 0 h4 (hg.new n04)) ?_)⟩
  rintro v h5 ⟨rfl, n5⟩
  have sz2 := n02.size; have sz3 := n3.size; have sz4 := n4.size
  have st5 : St h h5 h2.size h3.size m := by
    refine ⟨_, ra, rc, (m3.new n4).new n5, ?_, by omega, fun e => by have := hra _ e; omega, by omega, by omega, fun g hg => by have := hra g hg; omega, n04.trans n5⟩
    have : (List.replicate 1024 (0 : Int)).take (16 * m) = List.replicate (16 * m) 0 := by rw [List.take_replicate]; congr 1; omega
    rw [this]; exact k4.new n5
  refine ⟨(0 : Int), rfl, br_f rfl (br_f rfl fun _ => br_f rfl ?_)⟩
  generalize hrb : h3.size = rb at *
  refine ⟨fun (s : Option Addr × Int) h' => ∃ (i cur : Nat), s = (some ⟨cur, 0, none⟩, (i : Int)) ∧ i ≤ l.length ∧ St h h' cur rb m, fun (s : Option Addr × Int) _ => ((l.length : Int) - s.2).toNat, ⟨0, h2.size, rfl, by omega, st5⟩, ?_⟩
  rintro s j h6 ⟨i, cur, rfl, hi, st6⟩
  simp only []
  refine br_of (fun hlt => ?_) (fun hlt => ?_)
  · have hlt : i < l.length := by simp at hlt; omega
    obtain ⟨X, xa, xc, mx, rx, hcr, hac, hgc, hgr, hga, n06⟩ := id st6
    obtain ⟨b, o, es, rfl, hb, hel, hc, re⟩ := (sl.new n06) i _ (List.getElem?_eq_getElem hlt)
    obtain ⟨aB, cB, rfl, h1c, h2c, arB⟩ := act_cells re
    -- what came in of the row of bytes lies below
    have arB0 : Ar .u8 h aB l[i].2.2.2 := by
      obtain ⟨b', o', es', e', hb', hel', hc', re'⟩ := sl i _ (List.getElem?_eq_getElem hlt)
      obtain ⟨aB', cB', e3, _, _, ar'⟩ := act_cells re'
      injection e' with e'; injection e' with e1 e2
      subst e1; subst e2
      have q : cellH h6 ⟨b, o + (i * 4 + 3), none⟩ = some (.slice aB l[i].2.2.2.length cB) := hc 3 (by decide)
      have q' : cellH h ⟨b, o + (i * 4 + 3), none⟩ = some (.slice aB' l[i].2.2.2.length cB') := by have := hc' 3 (by decide); rw [e3] at this; exact this
      rw [cellH_new n06 (a := ⟨b, o + (i * 4 + 3), none⟩) hb', q'] at q
      simp at q
      rw [← q.1]; exact ar'
    have hB12 : l[i].2.2.2.length ≤ 1200 := hlg.2 _ (List.getElem_mem hlt)
    generalize hx : l[i] = x at *
    obtain ⟨d, f, n, ys⟩ := x
    dsimp only at *
    refine agg_at (k := 4) (d, f, n, (aB, ys.length, cB)) hc rfl rfl hlt (new_stL (by rw [zact]; rfl) fun h7 b7 n7 s7 => ?_)
    have hcl := mx.blk.lt; have hrl := rx.blk.lt
    generalize hA : h6.size = A at *
    have mx7 := mx.new n7
    have rx7 := rx.new n7
    have n07 := n06.trans n7
    have hAc : cur ≠ A := by omega
    have hAr : rb ≠ A := by omega
    have cD : ∀ {h'}, Blk h' A [Value.int .i64 d, .int .i64 f, .int .i64 n, .slice aB ys.length cB].toArray 53 → cellH h' (Addr.add ⟨A, 0, none⟩ 0) = some (.int .i64 d) := fun hb => by rw [add_mk, cellH_blk hb]; rfl
    have cF : ∀ {h'}, Blk h' A [Value.int .i64 d, .int .i64 f, .int .i64 n, .slice aB ys.length cB].toArray 53 → cellH h' (Addr.add ⟨A, 0, none⟩ 1) = some (.int .i64 f) := fun hb => by rw [add_mk, cellH_blk hb]; rfl
    have cN : ∀ {h'}, Blk h' A [Value.int .i64 d, .int .i64 f, .int .i64 n, .slice aB ys.length cB].toArray 53 → cellH h' (Addr.add ⟨A, 0, none⟩ 2) = some (.int .i64 n) := fun hb => by rw [add_mk, cellH_blk hb]; rfl
    have cB_ : ∀ {h'}, Blk h' A [Value.int .i64 d, .int .i64 f, .int .i64 n, .slice aB ys.length cB].toArray 53 → cellH h' (Addr.add ⟨A, 0, none⟩ 3) = some (.slice aB ys.length cB) := fun hb => by rw [add_mk, cellH_blk hb]; rfl
    have hXl := mx.len
    have htl : (X.take (16 * m)).length = 16 * m := by simp; omega
    have hpos : X.take (16 * m) ≠ [] := fun e => by rw [e] at htl; simp at htl; omega
    have hag : ∀ g, blkOf xa = some g → g < A := fun g hg => by have := rx.ar.lt hpos g hg; omega
    refine cut_q (ts := [.sc .ptr, .sc .bool]) (fun (s : Option Addr × Bool) h' => s.2 = true ∧ ∃ cur', s.1 = some ⟨cur', 0, none⟩ ∧ St h h' cur' rb m) ?_ ?_
    · rintro ⟨s1, s2⟩ h8 ⟨hs2, cur', hs1, st8⟩ _
      simp only [] at hs1 hs2
      subst hs1; subst hs2
      obtain ⟨X', _, _, mx', _⟩ := id st8
      refine br_f rfl (br_f rfl (call_of (blocks_ok cur' m X' h8 mx') ?_))
      rintro v h' ⟨rfl, hh⟩; subst h'
      refine ⟨(m : Int), rfl, br_f (by simp) ?_⟩
      rw [wr64 (by omega) (by omega)]
      exact ⟨⟨i + 1, cur', rfl, by omega, st8⟩, (by first | omega | (dsimp only; omega) | (simp only []; omega))⟩
    · intro K hK
      have arB7 : ∀ {h'}, New h h' → Ar .u8 h' aB ys := fun n => arB0.new n
      refine ld_of (c := .int .i64) d (cD b7) (br_of (fun h0 => ?_) fun h0 => br_of (fun h1 => ?_) fun h1 => br_of (fun h2 => ?_) fun h2 => br_of (fun h3 => ?_) fun h3 => br_of (fun h4 => ?_) fun h4 => hK (some ⟨cur, 0, none⟩, true) _ ⟨rfl, cur, rfl, st6.new n7⟩)
      · -- Read
        refine ld_of (c := .int .i64) f (cF b7) (ld_of (c := .int .i64) n (cN b7) ?_)
        cases hBo : isB m f n with
        | false =>
          refine call_of (Flat.read_no cur m X f n h7 mx7 hBo) ?_
          rintro v h' ⟨rfl, hh⟩; subst h'
          refine ⟨((none, 0, 0), errV 1), rfl, ld_of (c := .int .i64) f (cF b7) (ld_of (c := .int .i64) n (cN b7) (call_of (R18.read_no rb m xa xc _ f n h7 rx7 htl hm hBo) ?_))⟩
          rintro v h' ⟨rfl, hh⟩; subst h'
          refine ⟨((none, 0, 0), (1 : Int)), rfl, call_of (Same3.same_ok none none 0 0 0 0 h7 [] [] rfl rfl (by omega) (Ar.nil _ _ _) (Ar.nil _ _ _)) ?_⟩
          rintro v h' ⟨rfl, hh⟩; subst h'
          refine ⟨true, rfl, br_t rfl (call_of (code_err 1 h7 (hg.new n07)) ?_)⟩
          rintro v h8 ⟨rfl, n8⟩
          exact ⟨(1 : Int), rfl, hK (some ⟨cur, 0, none⟩, true) _ ⟨rfl, cur, rfl, st6.new (n7.trans n8)⟩⟩
        | true =>
          obtain ⟨hf0, hn0, hfn⟩ := isB_spec hBo
          obtain ⟨f, rfl⟩ := Int.eq_ofNat_of_zero_le hf0
          obtain ⟨n, rfl⟩ := Int.eq_ofNat_of_zero_le hn0
          refine call_of (readA cur m X f n h7 mx7 (by omega)) ?_
          rintro v h8 ⟨a8, c8, rfl, w8, n8⟩
          refine ⟨((a8, (bytesOf X f n).length, c8), errV 0), rfl, ld_of (c := .int .i64) (f : Int) (cF (b7.new n8)) (ld_of (c := .int .i64) (n : Int) (cN (b7.new n8)) (call_of (R18.read_ok rb m xa xc _ f n h8 (rx7.new n8) htl hm (by omega)) ?_))⟩
          rintro v h9 ⟨s, rfl, fr⟩
          obtain ⟨a9, c9, rfl, w9, n9⟩ := Row.of fr
          rw [bytesOf_take (by omega)] at w9 ⊢
          have hbl := bytesOf_len (f := f) (n := n) hXl (by omega)
          refine ⟨((a9, (bytesOf X f n).length, c9), (0 : Int)), rfl, call_of (Same3.same_ok _ _ _ _ _ _ h9 (bytesOf X f n) (bytesOf X f n) rfl rfl (show (bytesOf X f n).length ≤ 9223372036854775806 by omega) (w8.new n9).ar w9.ar) ?_⟩
          rintro v h' ⟨rfl, hh⟩; subst h'
          refine ⟨true, by simp [retV, vals, Ty.val, CTy.val], br_t rfl (call_of (code_err 0 h9 (hg.new ((n07.trans n8).trans n9))) ?_)⟩
          rintro v h10 ⟨rfl, n10⟩
          exact ⟨(0 : Int), rfl, hK (some ⟨cur, 0, none⟩, true) _ ⟨rfl, cur, rfl, st6.new (((n7.trans n8).trans n9).trans n10)⟩⟩
      · -- Write
        refine ld_of (c := .int .i64) f (cF b7) (ld_of (c := .slice) (aB, ys.length, cB) (cB_ b7) (ld_of (c := .int .i64) f (cF b7) (ld_of (c := .slice) (aB, ys.length, cB) (cB_ b7) (call_of (Flat.write_ok cur m X f aB cB ys h7 mx7 (arB7 n07) (arB0.ne hgc) h1c (by omega)) ?_))))
        rintro v h8 ⟨rfl, m8, u8⟩
        have b8 := b7.upd u8 (Ne.symm hAc)
        have n08 : New h h8 := u8.new n07 hgc
        refine ⟨errV (writeE m f ys.length), rfl, cB_ b8, cF b8, call_of (code_err (writeE m f ys.length) h8 (hg.new n08)) ?_⟩
        rintro v h9 ⟨rfl, n9⟩
        have n09 := n08.trans n9
        have r9 := (rx7.upd u8 (Ne.symm hcr) hac).new n9
        refine ⟨writeE m f ys.length, rfl, call_of (R18.write_ok rb m xa xc _ f aB cB ys h9 r9 htl hm (arB7 n09) (arB0.ne hgr) h1c (by omega)) ?_, n9.ext⟩
        rintro v h10 ⟨a', c', rfl, r10, u10, hn10⟩
        have b10 := (b8.new n9).upd u10 (Ne.symm hAr)
        have s8 := u8.size; have s9 := n9.size
        refine ⟨writeE m f ys.length, rfl, cB_ b10, cF b10, hK (some ⟨cur, 0, none⟩, _) _ ⟨by simp, cur, rfl, wrL m X f ys, a', c', (m8.new n9).upd u10 hcr, by rw [wrL_take hXl hm.2]; exact r10, hcr, fun e => ?_, hgc, hgr, fun g hg => ?_, u10.new n09 hgr⟩⟩
        · rcases hn10 _ e with h' | h'
          · exact hac h'
          · omega
        · rcases hn10 _ hg with h' | h'
          · exact hga g h'
          · have := n09.size; omega
      · -- Trim
        refine ld_of (c := .int .i64) f (cF b7) (ld_of (c := .int .i64) n (cN b7) (ld_of (c := .int .i64) f (cF b7) (ld_of (c := .int .i64) n (cN b7) (call_of (Flat.trim_ok cur m X f n h7 mx7) ?_))))
        rintro v h8 ⟨rfl, m8, u8⟩
        have b8 := b7.upd u8 (Ne.symm hAc)
        have n08 : New h h8 := u8.new n07 hgc
        refine ⟨errV (isE m f n), rfl, cN b8, cF b8, call_of (code_err (isE m f n) h8 (hg.new n08)) ?_⟩
        rintro v h9 ⟨rfl, n9⟩
        have n09 := n08.trans n9
        have r9 := (rx7.upd u8 (Ne.symm hcr) hac).new n9
        refine ⟨isE m f n, rfl, call_of (R18.trim_ok rb m xa xc _ f n h9 r9 htl hm) ?_, n9.ext⟩
        rintro v h10 ⟨a', c', rfl, r10, u10, hn10⟩
        have b10 := (b8.new n9).upd u10 (Ne.symm hAr)
        have s8 := u8.size; have s9 := n9.size
        refine ⟨isE m f n, rfl, cN b10, cF b10, hK (some ⟨cur, 0, none⟩, _) _ ⟨by simp, cur, rfl, trL m X f n, a', c', (m8.new n9).upd u10 hcr, by rw [trL_take hXl hm.2]; exact r10, hcr, fun e => ?_, hgc, hgr, fun g hg => ?_, u10.new n09 hgr⟩⟩
        · rcases hn10 _ e with h' | h'
          · exact hac h'
          · omega
        · rcases hn10 _ hg with h' | h'
          · exact hga g h'
          · have := n09.size; omega
      · -- Copy
        refine call_of (copy_ok cur m X h7 mx7) ?_
        rintro v h8 ⟨rfl, k8, n8⟩
        have s7' := n7.size; have s6' := n06.size
        exact ⟨some ⟨h7.size, 0, none⟩, rfl, hK (some ⟨h7.size, 0, none⟩, true) _ ⟨rfl, h7.size, rfl, X, xa, xc, k8, rx7.new n8, by omega, fun e => by have := hag _ e; omega, by omega, hgr, hga, n07.trans n8⟩⟩
      · -- First
        refine cut_q (ts := [.sc .bool]) (fun (t : Bool) h' => h' = h7 ∧ (t = true → ys.length % 16 = 0 ∧ isB m f ((ys.length / 16 : Nat) : Int) = true)) ?_ ?_
        · rintro t h' ⟨hh, ht⟩ _
          subst h'
          cases t with
          | false => exact br_f rfl (hK (some ⟨cur, 0, none⟩, true) _ ⟨rfl, cur, rfl, st6.new n7⟩)
          | true =>
            obtain ⟨h16, hBo⟩ := ht rfl
            obtain ⟨hf0, _, hfn⟩ := isB_spec hBo
            obtain ⟨f, rfl⟩ := Int.eq_ofNat_of_zero_le hf0
            refine br_t rfl (ld_of (c := .int .i64) (f : Int) (cF b7) (ld_of (c := .slice) (aB, ys.length, cB) (cB_ b7) (ld_of (c := .int .i64) n (cN b7) (ld_of (c := .int .i64) (f : Int) (cF b7) (ld_of (c := .slice) (aB, ys.length, cB) (cB_ b7) (ld_of (c := .int .i64) n (cN b7) (call_of (Flat.first_ok cur m X f aB cB ys n h7 mx7 (arB7 n07) (arB0.ne hgc) h1c (by omega) (by omega)) ?_)))))))
            rintro v h8 ⟨k, hk, hkl, rfl, m8, u8⟩
            have b8 := b7.upd u8 (Ne.symm hAc)
            have n08 : New h h8 := u8.new n07 hgc
            refine ⟨(k : Int), rfl, cN b8, cB_ b8, cF b8, call_of (R18.first_ok rb m xa xc _ f aB cB ys n h8 (rx7.upd u8 (Ne.symm hcr) hac) htl hm (arB7 n08) (arB0.ne hgr) h1c (by omega) (by omega)) ?_⟩
            rintro v h9 ⟨k', a', c', hk', hkl', rfl, r9, u9, hn9⟩
            have : k' = k := by omega
            subst this
            have b9 := b8.upd u9 (Ne.symm hAr)
            have s8 := u8.size; have s7' := n07.size
            refine ⟨(k' : Int), rfl, cN b9, cB_ b9, cF b9, hK (some ⟨cur, 0, none⟩, _) _ ⟨by simp, cur, rfl, _, a', c', m8.upd u9 hcr, by rw [putL_take (by simp; omega) (by omega)]; exact r9, hcr, fun e => ?_, hgc, hgr, fun g hg => ?_, u9.new n08 hgr⟩⟩
            · rcases hn9 _ e with h' | h'
              · exact hac h'
              · omega
            · rcases hn9 _ hg with h' | h'
              · exact hga g h'
              · omega
        · intro K' hK'
          refine ld_of (c := .slice) (aB, ys.length, cB) (cB_ b7) (br_of (fun h5 => ?_) fun h5 => hK' _ _ ⟨rfl, fun h => by cases h⟩)
          have h16 : ys.length % 16 = 0 := by rw [Int.tmod_eq_emod_of_nonneg (by omega)] at h5; simp at h5; omega
          have ed : IntKind.wrap .i64 (Int.tdiv ((ys.length : Nat) : Int) 16) = ((ys.length / 16 : Nat) : Int) := by rw [Int.tdiv_eq_ediv_of_nonneg (by omega), wr64 (by omega) (by omega)]; omega
          refine ld_of (c := .int .i64) f (cF b7) (ld_of (c := .slice) (aB, ys.length, cB) (cB_ b7) ?_)
          dsimp only
          rw [ed]
          refine call_of (R18.is_ok rb m xa xc _ f _ h7 rx7 htl hm) ?_
          rintro v h' ⟨rfl, hh⟩; subst h'
          exact ⟨_, rfl, hK' _ _ ⟨rfl, fun h => ⟨h16, h⟩⟩⟩
  · obtain ⟨X, xa, xc, mx, rx, hcr, hac, hgc, hgr, hga, n06⟩ := st6
    have hXl := mx.len
    refine call_of (readA cur m X 0 m h6 mx (by omega)) ?_
    rintro v h7 ⟨a7, c7, rfl, w7, n7⟩
    have hbl := bytesOf_len (f := 0) (n := m) hXl (by omega)
    have htl : (X.take (16 * m)).length = 16 * m := by simp; omega
    refine ⟨((a7, (bytesOf X 0 m).length, c7), errV 0), rfl, errV_if 0, br_t rfl (ptr_of (ld (rx.new n7) ?_))⟩
    refine call_of (Same3.same_ok _ _ _ _ _ _ h7 (bytesOf X 0 m) (X.take (16 * m)) rfl rfl (show (bytesOf X 0 m).length ≤ 9223372036854775806 by omega) w7.ar (rx.new n7).ar) ?_
    rintro v h' ⟨rfl, hh⟩; subst h'
    exact ⟨true, by rw [bo0]; simp [retV, vals, Ty.val, CTy.val], rfl, n06.trans n7⟩
end Go.Proofs.YtogeildomhahjaaDoor.L18D
