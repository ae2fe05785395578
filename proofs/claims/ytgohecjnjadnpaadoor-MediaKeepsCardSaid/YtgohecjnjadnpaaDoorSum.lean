/-
  The contracts of package sum.
-/
import Derived.Test.YtgohecjnjadnpaaDoorWSum
import Derived.Test.YtgohecjnjadnpaaDoorAdl
import Derived.Test.YtgohecjnjadnpaaDoorAs
import Derived.Test.YtgohecjnjadnpaaDoorOwn
import Derived.Test.YtgohecjnjadnpaaDoorSep
namespace Go.Proofs.YtgohecjnjadnpaaDoor.Sum
open Go.Pl Go.Proofs.YtgohecjnjadnpaaDoor.W Go.Proofs.YtgohecjnjadnpaaDoor.Four Go.Proofs.YtgohecjnjadnpaaDoor.Byts Go.Proofs.YtgohecjnjadnpaaDoor.Adl Go.Proofs.YtgohecjnjadnpaaDoor.As
theorem zero4 : zeroC Tryd.prog 22 = #[.int .u32 0] := by kernel_rfl
theorem and16 {n : Nat} (h : n < 4294967296) : IntKind.wrap .u32 (((BitVec.ofInt 32 (n : Int) &&& BitVec.ofInt 32 (65535 : Int)).toNat : Int)) = ((n % 65536 : Nat) : Int) := by
  have := and32 (a := n) (b := 65535) h (by decide)
  rw [show ((65535 : Nat) : Int) = (65535 : Int) from rfl] at this
  rw [this]
  congr 1
  exact Nat.and_two_pow_sub_one_eq_mod n 16
theorem parts_ok (s : Int × Int) (hs : In s) (h : Heap) : CallsH Tryd.prog 90 [.int .u32 (enc s)] h fun v h' => v = .tuple #[.int .u32 s.1, .int .u32 s.2] ∧ h' = h := by
  refine fun_ok hm' Tryd.func90 (by kernel_rfl) (F90_eq _ _ h) ?_
  unfold F90
  obtain ⟨h0, hlt⟩ := enc_range hs
  obtain ⟨n, hn⟩ := Int.eq_ofNat_of_zero_le h0
  obtain ⟨⟨_, _⟩, _, _⟩ := hs
  rw [hn, and16 (by omega)]
  refine ⟨?_, rfl⟩
  have e1 : ((n % 65536 : Nat) : Int) = s.1 := by
    have : ((n % 65536 : Nat) : Int) = (n : Int) % 65536 := by omega
    rw [this, ← hn]; unfold enc; omega
  have e2 : Int.fdiv (n : Int) 65536 = s.2 := by
    rw [Int.fdiv_eq_ediv_of_nonneg _ (by omega), ← hn]; unfold enc; omega
  rw [e1, e2]
theorem whole_ok (s : Int × Int) (hs : In s) (h : Heap) : CallsH Tryd.prog 92 [.int .u32 s.1, .int .u32 s.2] h fun v h' => v = .int .u32 (enc s) ∧ h' = h := by
  refine fun_ok hm' Tryd.func92 (by kernel_rfl) (F92_eq _ _ _ h) ?_
  unfold F92
  obtain ⟨⟨h1, h2⟩, h3, h4⟩ := hs
  obtain ⟨a, ha⟩ := Int.eq_ofNat_of_zero_le h1
  obtain ⟨b, hb⟩ := Int.eq_ofNat_of_zero_le h3
  have e : IntKind.wrap .u32 (s.2 * 65536) = ((b * 65536 : Nat) : Int) := by rw [wru32, hb]; omega
  refine ⟨?_, rfl⟩
  rw [e, ha, or32 (by omega) (by omega)]
  have := Nat.shiftLeft_add_eq_or_of_lt (b := a) (i := 16) (by omega) b
  rw [Nat.shiftLeft_eq] at this
  unfold enc
  rw [ha, hb]
  congr 1
  rw [show (65536 : Nat) = 2 ^ 16 from rfl, ← this]
  omega
/-- The bytes of one part are taken. -/
theorem take_ok (p q : Nat) (s : Int × Int) (hs : In s) (hpq : p ≠ q) (T T' : TypeId) (a : Option Addr) (c : Nat) (xs : List Int) (h : Heap) (hl : xs.length ≤ 5000) (hb : Byt xs) (r : Ar .u8 h a xs) (hp : xs ≠ [] → blkOf a ≠ some p) (hq : xs ≠ [] → blkOf a ≠ some q)
    (bp : Blk h p #[.int .u32 s.1] T) (bq : Blk h q #[.int .u32 s.2] T') :
    CallsH Tryd.prog 91 [.slice a xs.length c, .pointer (some ⟨p, 0, none⟩), .pointer (some ⟨q, 0, none⟩)] h fun v h' => v = .tuple #[] ∧ Blk h' p #[.int .u32 (adl s xs).1] T ∧ Blk h' q #[.int .u32 (adl s xs).2] T' ∧ h'.size = h.size ∧ ∀ g, g ≠ p → g ≠ q → h'[g]? = h[g]? := by
  refine fun_ok hm' Tryd.func91 (by kernel_rfl) (F91_eq _ _ _ _ _ _ h) ?_
  unfold F91
  refine ⟨fun (i : Int) h' => ∃ k : Nat, i = k ∧ k ≤ xs.length ∧ Blk h' p #[.int .u32 (raw s (xs.take k)).1] T ∧ Blk h' q #[.int .u32 (raw s (xs.take k)).2] T' ∧ h'.size = h.size ∧ ∀ g, g ≠ p → g ≠ q → h'[g]? = h[g]?, fun (i : Int) _ => (xs.length - i).toNat, ⟨0, rfl, Nat.zero_le _, bp, bq, rfl, fun _ _ _ => rfl⟩, ?_⟩
  rintro i j h1 ⟨k, rfl, hk, b1, b2, hsz, hg⟩
  have hsz' : ∀ n : Nat, n ≤ 5000 → (n : Int) * ((n : Int) + 1) ≤ 5000 * 5001 := fun n hn => Int.mul_le_mul (by omega) (by omega) (by omega) (by omega)
  refine br_of (fun hlt => ?_) (fun hlt => ?_)
  · have hlt : k < xs.length := by simp at hlt; omega
    have r1 : Ar .u8 h1 a xs := fun i x hx => by
      have hne : xs ≠ [] := fun e => by subst e; simp at hx
      obtain ⟨b, o, e, hb', hc'⟩ := r i x hx
      refine ⟨b, o, e, by omega, ?_⟩
      rw [cellH_same (hg b (fun e' => hp hne (by rw [e, e']; rfl)) (fun e' => hq hne (by rw [e, e']; rfl)))]; exact hc'
    refine ix_ld r1 hlt (by omega) ?_
    have hbk : Byt (xs.take k) := hb.take k
    have hlk : (xs.take k).length = k := by simp; omega
    have hin := raw_le (xs.take k) s 65520 65520 hbk ⟨hs.1.1, by have := hs.1.2; omega⟩ ⟨hs.2.1, by have := hs.2.2; omega⟩
    rw [hlk] at hin
    have hx := hb xs[k] (List.getElem_mem hlt)
    have hz := hsz' (k + 1) (by omega)
    have hz0 := hsz' k (by omega)
    have et : xs.take (k + 1) = xs.take k ++ [xs[k]] := by rw [List.take_add_one, List.getElem?_eq_getElem hlt]; rfl
    have hin' := raw_le (xs.take (k + 1)) s 65520 65520 (hb.take _) ⟨hs.1.1, by have := hs.1.2; omega⟩ ⟨hs.2.1, by have := hs.2.2; omega⟩
    have hlk' : (xs.take (k + 1)).length = k + 1 := by simp; omega
    rw [hlk'] at hin'
    have hB1 : 2 * (raw s (xs.take (k + 1))).2 ≤ 8000000000 := by omega
    have hB0 := hin'.2.1
    have er : raw s (xs.take (k + 1)) = ((raw s (xs.take k)).1 + xs[k], (raw s (xs.take k)).2 + ((raw s (xs.take k)).1 + xs[k])) := by rw [et, raw_app]; rfl
    have e1 : IntKind.wrap .u32 ((raw s (xs.take k)).1 + IntKind.wrap .u32 xs[k]) = (raw s (xs.take (k + 1))).1 := by rw [er, wru32, wru32]; rw [er] at hin'; simp only [] at hin' ⊢; omega
    have e2 : IntKind.wrap .u32 ((raw s (xs.take k)).2 + (raw s (xs.take (k + 1))).1) = (raw s (xs.take (k + 1))).2 := by rw [wru32]; rw [er] at hB0 hB1 ⊢; simp only [] at hB0 hB1 ⊢; omega
    refine ld_of (c := .int .u32) _ (by rw [cellH_blk b1]; rfl) (st_blk b1 (by simp) fun h2 b3 o3 => ?_)
    rw [e1] at b3
    have b4 := b2.only o3 (Ne.symm hpq)
    refine ld_of (c := .int .u32) _ (by rw [cellH_blk b4]; rfl) (ld_of (c := .int .u32) _ (by rw [cellH_blk b3]; rfl) (st_blk b4 (by simp) fun h3 b5 o5 => ?_))
    rw [e2] at b5
    rw [wr64 (by omega) (by omega)]
    refine ⟨⟨k + 1, rfl, hlt, b3.only o5 hpq, b5, by rw [o5.size, o3.size, hsz], fun g g1 g2 => ?_⟩, (by first | omega | (dsimp only; omega) | (simp only []; omega))⟩
    rw [o5.same g g2, o3.same g g1]; exact hg g g1 g2
  · have hk' : k = xs.length := by simp at hlt; omega
    subst hk'
    rw [List.take_length] at b1 b2
    have hin := raw_le xs s 65520 65520 hb ⟨hs.1.1, by have := hs.1.2; omega⟩ ⟨hs.2.1, by have := hs.2.2; omega⟩
    have hz := hsz' xs.length hl
    have ea := raw_adl xs s s rfl rfl hs
    have e1 : Int.tmod (raw s xs).1 65521 = (adl s xs).1 := by rw [← ea]; exact Int.tmod_eq_emod_of_nonneg hin.1.1
    have e2 : Int.tmod (raw s xs).2 65521 = (adl s xs).2 := by rw [← ea]; exact Int.tmod_eq_emod_of_nonneg hin.2.1
    refine ld_of (c := .int .u32) _ (by rw [cellH_blk b1]; rfl) (ld_of (c := .int .u32) _ (by rw [cellH_blk b2]; rfl) (st_blk b1 (by simp) fun h2 b3 o3 => ⟨by rw [cellH_blk (b2.only o3 (Ne.symm hpq))]; rfl, ?_⟩))
    rw [e1] at b3
    refine st_blk (b2.only o3 (Ne.symm hpq)) Nat.one_pos fun h3 b5 o5 => ?_
    rw [e2] at b5
    refine ⟨rfl, b3.only o5 hpq, b5, by rw [o5.size, o3.size, hsz], fun g g1 g2 => ?_⟩
    rw [o5.same g g2, o3.same g g1]; exact hg g g1 g2
theorem add_ok (s : Int × Int) (hs : In s) (a : Option Addr) (c : Nat) (xs : List Int) (h : Heap) (hcap : xs.length ≤ c) (hn : a = none → c = 0) (hb : Byt xs) (r : Ar .u8 h a xs) :
    CallsH Tryd.prog 55 [.int .u32 (enc s), .slice a xs.length c] h fun v h' => v = .int .u32 (enc (adl s xs)) ∧ New h h' := by
  refine fun_ok hm' Tryd.func55 (by kernel_rfl) (F55_eq _ _ _ _ _ h) ?_
  unfold F55
  refine call_of (parts_ok s hs h) ?_
  rintro v h' ⟨rfl, hh⟩; subst h'
  refine ⟨s, rfl, ?_⟩
  rw [zero4]
  refine new_of fun h1 b1 n1 s1 => new_of fun h2 b2 n2 s2 => st_blk (b1.new n2) (by simp) fun h3 b3 o3 => st_blk (b2.only o3 (by omega)) (by simp) fun h4 b4 o4 => ?_
  have b3' := b3.only o4 (by omega)
  have n04 : New h h4 := (o4.upd.new (o3.upd.new (n1.trans n2) (Nat.le_refl _)) (by omega))
  have hmx : (maxLen : Nat) ≤ 9223372036854775807 := by simp [maxLen]
  refine ⟨fun (q : Option Addr × Nat × Nat) h' => ∃ (ys : List Int) (t : Int × Int), q.2.1 = ys.length ∧ ys.length ≤ q.2.2 ∧ (q.1 = none → q.2.2 = 0) ∧ q.2.2 ≤ c ∧ Byt ys ∧ Ar .u8 h q.1 ys ∧ In t ∧ adl t ys = adl s xs ∧ Blk h' h.size #[.int .u32 t.1] 22 ∧ Blk h' h1.size #[.int .u32 t.2] 22 ∧ New h h', fun (q : Option Addr × Nat × Nat) _ => q.2.1, ⟨xs, s, rfl, hcap, hn, Nat.le_refl _, hb, r, hs, rfl, b3', b4, n04⟩, ?_⟩
  rintro ⟨qa, qn, qc⟩ j h5 ⟨ys, t, hqn, hqc, hq0, hqcc, hby, ry, ht, he, b5, b6, n5⟩
  simp only [] at hqn hqc hq0 hqcc ry ⊢
  subst hqn
  rw [mm2_min]
  refine br_of (fun hlt => ?_) (fun hlt => ?_)
  · have hlt : 0 < ys.length := by simp at hlt; omega
    obtain ⟨m, hm⟩ : ∃ m : Nat, m = min 5000 ys.length := ⟨_, rfl⟩
    have em : min (5000 : Int) (ys.length : Int) = (m : Int) := by omega
    have hm1 : 1 ≤ m ∧ m ≤ ys.length ∧ m ≤ 5000 := by omega
    rw [em]
    refine ⟨⟨by omega, by omega, by omega, by omega⟩, ?_⟩
    have hyl : (ys.take m).length = m := by simp; omega
    have hsb : sliceBase qa (0 : Int).toNat (m : Int).toNat 1 = qa := by
      unfold sliceBase
      rw [if_neg (by omega)]
      cases qa with
      | none => rfl
      | some q => show some (q.add 0) = some q; rw [Addr.add]; split <;> simp_all
    have en : (m : Int).toNat - (0 : Int).toNat = m := by omega
    have rt : Ar .u8 h5 qa (ys.take m) := (ry.take m).new n5
    have hfar : ∀ g, h.size ≤ g → ys.take m ≠ [] → blkOf qa ≠ some g := by
      intro g hg hne e
      obtain ⟨b, o, e1, hb1⟩ := (ry.take m).lt' hne
      subst e1; injection e with e; change b = g at e; omega
    refine callW_of (first := #[]) (cap := #[.pointer (some ⟨h.size, 0, none⟩), .pointer (some ⟨h1.size, 0, none⟩)]) (R := fun v h' => v = .tuple #[] ∧ Blk h' h.size #[.int .u32 (adl t (ys.take m)).1] 22 ∧ Blk h' h1.size #[.int .u32 (adl t (ys.take m)).2] 22 ∧ h'.size = h5.size ∧ ∀ g, g ≠ h.size → g ≠ h1.size → h'[g]? = h5[g]?) ?_ ?_
    · rw [hsb, en]
      have := take_ok h.size h1.size t ht (by omega) 22 22 qa m (ys.take m) h5 (by omega) (hby.take m) rt (hfar _ (Nat.le_refl _)) (hfar _ (by omega)) b5 b6
      rw [hyl] at this
      exact this
    rintro v h6 ⟨rfl, b7, b8, hsz, hg⟩
    refine ⟨.tuple #[], rfl, ⟨by omega, by omega, by omega, by omega⟩, ?_⟩
    have n6 : New h h6 := ⟨by rw [hsz]; exact n5.size, fun k hk => (hg k (by omega) (by omega)).trans (n5.same k hk)⟩
    refine ⟨⟨ys.drop m, adl t (ys.take m), ?_, ?_, fun e => ?_, ?_, hby.drop m, ?_, adl_in _ _ ht, ?_, b7, b8, n6⟩, ?_⟩
    · show _ = (ys.drop m).length
      rw [List.length_drop]; omega
    · show (ys.drop m).length ≤ _
      rw [List.length_drop]; omega
    · have h0 : qa = none := by
        unfold sliceBase at e
        split at e
        · exact e
        · cases qa with
          | none => rfl
          | some q => cases e
      have := hq0 h0
      simp only [Int.toNat_natCast]; omega
    · simp; omega
    · exact ry.drop _ _ (by simp; omega)
    · rw [← he, ← adl_app, List.take_append_drop]
    · simp; omega
  · have h0 : ys.length = 0 := by have := of_decide_eq_false hlt; omega
    have h0 : ys = [] := List.eq_nil_of_length_eq_zero h0
    subst h0
    have he : t = adl s xs := he
    refine ld_of (c := .int .u32) _ (by rw [cellH_blk b5]; rfl) (ld_of (c := .int .u32) _ (by rw [cellH_blk b6]; rfl) (call_of (whole_ok t ht h5) ?_))
    rintro v h' ⟨rfl, hh⟩; subst h'
    exact ⟨_, rfl, by rw [he], n5⟩
theorem of_ok (a : Option Addr) (c : Nat) (xs : List Int) (h : Heap) (hcap : xs.length ≤ c) (hn : a = none → c = 0) (hb : Byt xs) (r : Ar .u8 h a xs) :
    CallsH Tryd.prog 56 [.slice a xs.length c] h fun v h' => v = .int .u32 (sumL xs) ∧ New h h' := by
  refine fun_ok hm' Tryd.func56 (by kernel_rfl) (F56_eq _ _ _ _ h) ?_
  unfold F56
  refine call_of (add_ok (1, 0) in10 a c xs h hcap hn hb r) ?_
  rintro v h1 ⟨rfl, n1⟩
  exact ⟨_, rfl, rfl, n1⟩
end Go.Proofs.YtgohecjnjadnpaaDoor.Sum
