/-
  slices.Grow, slices.Concat: what they come to.
-/
import Derived.Test.YthimfpkkdhpceaaDoorCkW
import Derived.Test.YthimfpkkdhpceaaDoorZap
namespace Go.Proofs.YthimfpkkdhpceaaDoor.Ck
open Go.Pl Go.Proofs.YthimfpkkdhpceaaDoor.W Go.Proofs.YthimfpkkdhpceaaDoor.Byts Go.Proofs.YthimfpkkdhpceaaDoor.Four Go.Proofs.YthimfpkkdhpceaaDoor.Adl Go.Proofs.YthimfpkkdhpceaaDoor.Head Go.Proofs.YthimfpkkdhpceaaDoor.Geo
theorem sliceBase_zero (a : Option Addr) (m : Nat) : sliceBase a 0 m 1 = a := by
  unfold sliceBase
  split
  · rfl
  · cases a with
    | none => rfl
    | some b =>
      show some (b.add (0 * 1)) = some b; rw [Addr.add]; split <;> simp_all
theorem own_cut0 {h : Heap} {base n c : Nat} {e : TypeId} {a : Option Addr} {xs : List Value} (o : OwnH h base e 1 a n c xs) : OwnH h base e 1 a 0 c [] := by
  refine ⟨rfl, ?_⟩
  rcases o.2 with ⟨e1, e2⟩ | ⟨g, cap, cur, e1, hbg, hg, hnc, hcm, hcs, htake⟩
  · injection e1 with e1 _ e3
    subst e1; subst e3
    exact .inl ⟨rfl, rfl⟩
  · injection e1 with e1 _ e3
    subst e1; subst e3
    exact .inr ⟨g, c, cur, rfl, hbg, hg, Nat.zero_le _, hcm, hcs, rfl⟩
theorem ap8' : apB Tryd.prog 55 5 1 1 = true := by kernel_rfl
theorem ap32 : apB Tryd.prog 25 22 1 4 = true := by kernel_rfl
theorem intI : Tryd.prog.underlying 3 = some (.int .i64) := by kernel_rfl
theorem zero8i : ((Tryd.prog.info? 5).bind fun i => i.zero) = some (.int .u8 0) := by kernel_rfl
theorem zero32i : ((Tryd.prog.info? 22).bind fun i => i.zero) = some (.int .u32 0) := by kernel_rfl
theorem grow8_ok (n : Nat) (h : Heap) (hn : n ≤ 100000) : CallsH Tryd.prog 89 [.slice none 0 0, .int .i64 (n : Int)] h fun v h' => ∃ a c, v = .slice a 0 c ∧ OwnH h' h.size 5 1 a 0 c [] ∧ New h h' := by
  refine fun_ok Geo.hm' Tryd.func89 (by kernel_rfl) (F89_eq _ _ _ _ _ h) ?_
  unfold F89
  refine cut_q (ts := []) (fun _ h' => h' = h) ?_ ?_
  rotate_left
  · intro K hK
    exact br_f (decide_eq_false (by omega)) (hK () _ rfl)
  rintro _ h' hh _; subst h'
  have e0 : IntKind.wrap .i64 ((n : Int) - (IntKind.wrap .i64 (((0 : Nat) : Int) - ((0 : Nat) : Int)))) = (n : Int) := by
    rw [wr64 (n := ((0 : Nat) : Int) - ((0 : Nat) : Int)) (by omega) (by omega), wr64 (by omega) (by omega)]; omega
  rw [e0]
  refine br_of (fun hp => ?_) (fun hp => ⟨none, 0, rfl, OwnH.nil _ _ _ _, New.refl _⟩)
  refine ⟨⟨by omega, by omega, by omega, by omega⟩, ?_⟩
  refine ap_zeros (a := none) (n := 0) (c := 0) (zv := .int .u8 0) ap8' intI zero8i rfl rfl (OwnH.nil h h.size _ 1) (by simp only [maxLen]; omega) (by omega) (Nat.le_refl _) fun a' c' h1 o1 u1 => ?_
  refine ⟨⟨by omega, by omega, by omega, by omega⟩, ?_⟩
  have hN : New h h1 := ⟨u1.size, fun k hk => u1.same k hk (by simp [blkOf])⟩
  refine ⟨a', c', ?_, own_cut0 o1, hN⟩
  show Value.slice (sliceBase a' 0 ((c' : Int)).toNat 1) (0 - 0) (((c' : Int)).toNat - 0) = _
  rw [sliceBase_zero, Int.toNat_natCast]; rfl
theorem grow32_ok (n : Nat) (h : Heap) (hn : n ≤ 100000) : CallsH Tryd.prog 114 [.slice none 0 0, .int .i64 (n : Int)] h fun v h' => ∃ a c, v = .slice a 0 c ∧ OwnH h' h.size 22 1 a 0 c [] ∧ New h h' := by
  refine fun_ok Geo.hm' Tryd.func114 (by kernel_rfl) (F114_eq _ _ _ _ _ h) ?_
  unfold F114
  refine cut_q (ts := []) (fun _ h' => h' = h) ?_ ?_
  rotate_left
  · intro K hK
    exact br_f (decide_eq_false (by omega)) (hK () _ rfl)
  rintro _ h' hh _; subst h'
  have e0 : IntKind.wrap .i64 ((n : Int) - (IntKind.wrap .i64 (((0 : Nat) : Int) - ((0 : Nat) : Int)))) = (n : Int) := by
    rw [wr64 (n := ((0 : Nat) : Int) - ((0 : Nat) : Int)) (by omega) (by omega), wr64 (by omega) (by omega)]; omega
  rw [e0]
  refine br_of (fun hp => ?_) (fun hp => ⟨none, 0, rfl, OwnH.nil _ _ _ _, New.refl _⟩)
  refine ⟨⟨by omega, by omega, by omega, by omega⟩, ?_⟩
  refine ap_zeros (a := none) (n := 0) (c := 0) (zv := .int .u32 0) ap32 intI zero32i rfl rfl (OwnH.nil h h.size _ 1) (by simp only [maxLen]; omega) (by omega) (Nat.le_refl _) fun a' c' h1 o1 u1 => ?_
  refine ⟨⟨by omega, by omega, by omega, by omega⟩, ?_⟩
  have hN : New h h1 := ⟨u1.size, fun k hk => u1.same k hk (by simp [blkOf])⟩
  refine ⟨a', c', ?_, own_cut0 o1, hN⟩
  show Value.slice (sliceBase a' 0 ((c' : Int)).toNat 1) (0 - 0) (((c' : Int)).toNat - 0) = _
  rw [sliceBase_zero, Int.toNat_natCast]; rfl
theorem flat_take_le (l : List (List Int)) (i : Nat) : (l.take i).flatten.length ≤ l.flatten.length := by
  have : l.flatten = (l.take i).flatten ++ (l.drop i).flatten := by rw [← List.flatten_append, List.take_append_drop]
  rw [this, List.length_append]; omega
theorem flat_succ (l : List (List Int)) (i : Nat) (hi : i < l.length) : (l.take (i + 1)).flatten = (l.take i).flatten ++ l[i] := by
  rw [← List.take_append_getElem hi, List.flatten_append]; simp
theorem concat8_ok (a : Option Addr) (c : Nat) (l : List (List Int)) (h : Heap) (r : RB h a l) (hl : l.length ≤ 1000) (hs : l.flatten.length ≤ 100000) (hne : ∀ b ∈ l, b ≠ []) :
    CallsH Tryd.prog 52 [.slice a l.length c] h fun v h' => ∃ a' c', v = .slice a' l.flatten.length c' ∧ OwnH h' h.size 5 1 a' l.flatten.length c' (l.flatten.map (Value.int .u8)) ∧ New h h' := by
  refine fun_ok Geo.hm' Tryd.func52 (by kernel_rfl) (F52_eq _ _ _ _ h) ?_
  unfold F52
  refine ⟨fun (s : Int × Int) h' => h' = h ∧ ∃ i : Nat, s.2 = i ∧ i ≤ l.length ∧ s.1 = ((l.take i).flatten.length : Int), fun (s : Int × Int) _ => ((l.length : Int) - s.2).toNat, ⟨rfl, 0, rfl, Nat.zero_le _, rfl⟩, ?_⟩
  rintro ⟨sz, s⟩ j h' ⟨hh, i, hsi, hi, hsz⟩
  have hsi : s = (i : Int) := hsi
  have hsz : sz = ((l.take i).flatten.length : Int) := hsz
  subst h'; subst hsi; subst hsz
  have hti := flat_take_le l i
  refine br_of (fun hlt => ?_) (fun hlt => ?_)
  · have hlt : (i : Int) < (l.length : Int) := of_decide_eq_true hlt
    have hiL : i < l.length := by omega
    have hfs := flat_succ l i hiL
    have hti' := flat_take_le l (i + 1)
    have hfl := congrArg List.length hfs
    rw [List.length_append] at hfl
    refine r.ld hiL hiL fun a' c' _ => ?_
    have ew : IntKind.wrap .i64 (((l.take i).flatten.length : Int) + (l[i].length : Int)) = ((l.take (i + 1)).flatten.length : Int) := by rw [wr64 (by omega) (by omega)]; omega
    have ez : IntKind.wrap .i64 ((i : Int) + 1) = ((i + 1 : Nat) : Int) := (by first | (rw [wr64 (by omega) (by omega)]; omega) | (simp only [IntKind.wrap_i64]; omega))
    simp only [ew, ez]
    exact br_f (decide_eq_false (by omega)) ⟨⟨trivial, i + 1, rfl, hiL, rfl⟩, (by first | omega | (dsimp only; omega) | (simp only []; omega))⟩
  have : i = l.length := by
    have hlt : ¬ (i : Int) < (l.length : Int) := of_decide_eq_false hlt
    omega
  subst this
  rw [List.take_length]
  refine call_of (grow8_ok l.flatten.length h hs) ?_
  rintro v h1 ⟨a1, c1, rfl, o1, n1⟩
  refine ⟨(a1, 0, c1), rfl, ?_⟩
  refine ⟨fun (s : (Option Addr × Nat × Nat) × Int) h' => ∃ i : Nat, s.2 = i ∧ i ≤ l.length ∧ s.1.2.1 = (l.take i).flatten.length ∧ OwnH h' h.size 5 1 s.1.1 (l.take i).flatten.length s.1.2.2 ((l.take i).flatten.map (Value.int .u8)) ∧ New h h', fun (s : (Option Addr × Nat × Nat) × Int) _ => ((l.length : Int) - s.2).toNat, ⟨0, rfl, Nat.zero_le _, rfl, o1, n1⟩, ?_⟩
  rintro ⟨⟨oa, on, oc⟩, s⟩ j h2 ⟨i, hsi, hi, hon, o2, n2⟩
  have hsi : s = (i : Int) := hsi
  have hon : on = (l.take i).flatten.length := hon
  have o2' : OwnH h2 h.size 5 1 oa (l.take i).flatten.length oc ((l.take i).flatten.map (Value.int .u8)) := o2
  subst hsi; subst hon
  have hti := flat_take_le l i
  refine br_of (fun hlt => ?_) (fun hlt => ?_)
  · have hlt : (i : Int) < (l.length : Int) := of_decide_eq_true hlt
    have hiL : i < l.length := by omega
    have hfs := flat_succ l i hiL
    have hti' := flat_take_le l (i + 1)
    have ez : IntKind.wrap .i64 ((i : Int) + 1) = ((i + 1 : Nat) : Int) := (by first | (rw [wr64 (by omega) (by omega)]; omega) | (simp only [IntKind.wrap_i64]; omega))
    have hfl := congrArg List.length hfs
    rw [List.length_append] at hfl
    refine (r.new n2).ld hiL hiL fun a' c' sb => ?_
    have hpos : 0 < l[i].length := List.length_pos_iff.2 (hne _ (List.getElem_mem hiL))
    obtain ⟨b, o, rfl, _, _⟩ := sb.ar 0 _ (List.getElem?_eq_getElem hpos)
    refine ap_own ap8' (by decide) o2' (l[i].map (Value.int .u8)) (by simp) (fun q u hu => ?_) (fun u hu => ?_) (show (l.take i).flatten.length + l[i].length ≤ maxLen by simp only [maxLen]; omega) (show ((l.take i).flatten.length + l[i].length) * 1 ≤ 140737488355328 by omega) n2.size fun a3 c3 h3 o3 u3 => ?_
    · rw [List.getElem?_map] at hu
      cases hq : l[i][q]? with
      | none => rw [hq] at hu; cases hu
      | some x =>
        rw [hq] at hu
        obtain ⟨b', o', e', _, hc'⟩ := sb.ar q x hq
        injection e' with e'; injection e' with e1 e2
        rw [add_mk, e1, e2, hc']; exact hu
    · obtain ⟨x, _, rfl⟩ := List.mem_map.1 hu; rfl
    · have hN : New h h3 := u3.grow n2 fun g hg => (o2'.blk_ge g hg).1
      rw [← List.map_append, ← hfs, ← hfl] at o3
      simp only [ez, ← hfl]
      exact ⟨⟨i + 1, rfl, hiL, rfl, o3, hN⟩, (by first | omega | (dsimp only; omega) | (simp only []; omega))⟩
  · have : i = l.length := by
      have hlt : ¬ (i : Int) < (l.length : Int) := of_decide_eq_false hlt
      omega
    subst this
    rw [List.take_length] at o2' ⊢
    exact ⟨oa, oc, rfl, o2', n2⟩
/-- Rows of rows of words. -/
def RW (h : Heap) (a : Option Addr) (l : List (List Int)) : Prop := ∀ (i : Nat) (bs : List Int), l[i]? = some bs → ∃ b o a' c', a = some ⟨b, o, none⟩ ∧ b < h.size ∧ cellH h ⟨b, o + i, none⟩ = some (.slice a' bs.length c') ∧ Ar .u32 h a' bs
theorem RW.new {h h' : Heap} {a : Option Addr} {l : List (List Int)} (r : RW h a l) (n : New h h') : RW h' a l := fun i bs hi => by
  obtain ⟨b, o, a', c', e, hl, hc, s⟩ := r i bs hi
  exact ⟨b, o, a', c', e, Nat.lt_of_lt_of_le hl n.size, by rw [cellH_same (n.same b hl)]; exact hc, s.new n⟩
theorem RW.ld {h : Heap} {a : Option Addr} {l : List (List Int)} (r : RW h a l) {i n : Nat} (hi : i < l.length) (hn : i < n) {F : Option Addr × Nat × Nat → Prop} (hF : ∀ a' c', Ar .u32 h a' l[i] → F (a', l[i].length, c')) :
    ptrW a (fun p => idxW (i : Int) n true (ldW .slice (Addr.add p (Int.toNat (i : Int) * 1)) F h)) := by
  obtain ⟨b, o, a', c', rfl, _, hc, s⟩ := r i _ (List.getElem?_eq_getElem hi)
  refine ⟨⟨⟨by omega, by omega⟩, rfl⟩, ld_of (c := .slice) (a', l[i].length, c') ?_ (hF a' c' s)⟩
  rw [add_mk, Int.toNat_natCast, Nat.mul_one]; exact hc
theorem concat32_ok (a : Option Addr) (c : Nat) (l : List (List Int)) (h : Heap) (r : RW h a l) (hl : l.length ≤ 1000) (hs : l.flatten.length ≤ 100000) (hne : ∀ b ∈ l, b ≠ []) :
    CallsH Tryd.prog 84 [.slice a l.length c] h fun v h' => ∃ a' c', v = .slice a' l.flatten.length c' ∧ OwnH h' h.size 22 1 a' l.flatten.length c' (l.flatten.map (Value.int .u32)) ∧ New h h' := by
  refine fun_ok Geo.hm' Tryd.func84 (by kernel_rfl) (F84_eq _ _ _ _ h) ?_
  unfold F84
  refine ⟨fun (s : Int × Int) h' => h' = h ∧ ∃ i : Nat, s.2 = i ∧ i ≤ l.length ∧ s.1 = ((l.take i).flatten.length : Int), fun (s : Int × Int) _ => ((l.length : Int) - s.2).toNat, ⟨rfl, 0, rfl, Nat.zero_le _, rfl⟩, ?_⟩
  rintro ⟨sz, s⟩ j h' ⟨hh, i, hsi, hi, hsz⟩
  have hsi : s = (i : Int) := hsi
  have hsz : sz = ((l.take i).flatten.length : Int) := hsz
  subst h'; subst hsi; subst hsz
  have hti := flat_take_le l i
  refine br_of (fun hlt => ?_) (fun hlt => ?_)
  · have hlt : (i : Int) < (l.length : Int) := of_decide_eq_true hlt
    have hiL : i < l.length := by omega
    have hfs := flat_succ l i hiL
    have hti' := flat_take_le l (i + 1)
    have hfl := congrArg List.length hfs
    rw [List.length_append] at hfl
    refine r.ld hiL hiL fun a' c' _ => ?_
    have ew : IntKind.wrap .i64 (((l.take i).flatten.length : Int) + (l[i].length : Int)) = ((l.take (i + 1)).flatten.length : Int) := by rw [wr64 (by omega) (by omega)]; omega
    have ez : IntKind.wrap .i64 ((i : Int) + 1) = ((i + 1 : Nat) : Int) := (by first | (rw [wr64 (by omega) (by omega)]; omega) | (simp only [IntKind.wrap_i64]; omega))
    simp only [ew, ez]
    exact br_f (decide_eq_false (by omega)) ⟨⟨trivial, i + 1, rfl, hiL, rfl⟩, (by first | omega | (dsimp only; omega) | (simp only []; omega))⟩
  have : i = l.length := by
    have hlt : ¬ (i : Int) < (l.length : Int) := of_decide_eq_false hlt
    omega
  subst this
  rw [List.take_length]
  refine call_of (grow32_ok l.flatten.length h hs) ?_
  rintro v h1 ⟨a1, c1, rfl, o1, n1⟩
  refine ⟨(a1, 0, c1), rfl, ?_⟩
  refine ⟨fun (s : (Option Addr × Nat × Nat) × Int) h' => ∃ i : Nat, s.2 = i ∧ i ≤ l.length ∧ s.1.2.1 = (l.take i).flatten.length ∧ OwnH h' h.size 22 1 s.1.1 (l.take i).flatten.length s.1.2.2 ((l.take i).flatten.map (Value.int .u32)) ∧ New h h', fun (s : (Option Addr × Nat × Nat) × Int) _ => ((l.length : Int) - s.2).toNat, ⟨0, rfl, Nat.zero_le _, rfl, o1, n1⟩, ?_⟩
  rintro ⟨⟨oa, on, oc⟩, s⟩ j h2 ⟨i, hsi, hi, hon, o2, n2⟩
  have hsi : s = (i : Int) := hsi
  have hon : on = (l.take i).flatten.length := hon
  have o2' : OwnH h2 h.size 22 1 oa (l.take i).flatten.length oc ((l.take i).flatten.map (Value.int .u32)) := o2
  subst hsi; subst hon
  have hti := flat_take_le l i
  refine br_of (fun hlt => ?_) (fun hlt => ?_)
  · have hlt : (i : Int) < (l.length : Int) := of_decide_eq_true hlt
    have hiL : i < l.length := by omega
    have hfs := flat_succ l i hiL
    have hti' := flat_take_le l (i + 1)
    have ez : IntKind.wrap .i64 ((i : Int) + 1) = ((i + 1 : Nat) : Int) := (by first | (rw [wr64 (by omega) (by omega)]; omega) | (simp only [IntKind.wrap_i64]; omega))
    have hfl := congrArg List.length hfs
    rw [List.length_append] at hfl
    refine (r.new n2).ld hiL hiL fun a' c' sb => ?_
    have hpos : 0 < l[i].length := List.length_pos_iff.2 (hne _ (List.getElem_mem hiL))
    obtain ⟨b, o, rfl, _, _⟩ := sb 0 _ (List.getElem?_eq_getElem hpos)
    refine ap_own ap32 (by decide) o2' (l[i].map (Value.int .u32)) (by simp) (fun q u hu => ?_) (fun u hu => ?_) (show (l.take i).flatten.length + l[i].length ≤ maxLen by simp only [maxLen]; omega) (show ((l.take i).flatten.length + l[i].length) * 4 ≤ 140737488355328 by omega) n2.size fun a3 c3 h3 o3 u3 => ?_
    · rw [List.getElem?_map] at hu
      cases hq : l[i][q]? with
      | none => rw [hq] at hu; cases hu
      | some x =>
        rw [hq] at hu
        obtain ⟨b', o', e', _, hc'⟩ := sb q x hq
        injection e' with e'; injection e' with e1 e2
        rw [add_mk, e1, e2, hc']; exact hu
    · obtain ⟨x, _, rfl⟩ := List.mem_map.1 hu; rfl
    · have hN : New h h3 := u3.grow n2 fun g hg => (o2'.blk_ge g hg).1
      rw [← List.map_append, ← hfs, ← hfl] at o3
      simp only [ez, ← hfl]
      exact ⟨⟨i + 1, rfl, hiL, rfl, o3, hN⟩, (by first | omega | (dsimp only; omega) | (simp only []; omega))⟩
  · have : i = l.length := by
      have hlt : ¬ (i : Int) < (l.length : Int) := of_decide_eq_false hlt
      omega
    subst this
    rw [List.take_length] at o2' ⊢
    exact ⟨oa, oc, rfl, o2', n2⟩
end Go.Proofs.YthimfpkkdhpceaaDoor.Ck
