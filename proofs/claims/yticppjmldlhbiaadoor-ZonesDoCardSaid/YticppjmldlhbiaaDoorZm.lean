/-
  Package zones: what its methods answer.
-/
import Derived.Test.YticppjmldlhbiaaDoorZt
namespace Go.Proofs.YticppjmldlhbiaaDoor.Zo
open Go.Pl Go.Proofs.YticppjmldlhbiaaDoor.W
def stF (S : List Int) (z : Int) : Int × Bool := if 0 ≤ z ∧ z < (S.length : Int) then (S.getD z.toNat 0, true) else (0, false)
def ageF : List (Int × Int) → Int → Int → Int
  | [], _, _ => 0
  | x :: C, k, z => if x.1 = z then IntKind.wrap .u32 (IntKind.wrap .u32 (k - 1) - x.2) else ageF C k z
section
variable {h0 : Bs} {h : Heap} {T : Nat} {S F : List Int} {C : List (Int × Int)} {k : Int}
theorem Tb.sl {g : Nat} {fa : Option Addr} {fc : Nat} {ca : Option Addr} {cc : Nat} (t : TbAt h0 h T g fa fc ca cc S F C k) (o : Nat) (v : Value) (hv : (tbA g S.length fa F.length fc ca C.length cc k)[o]? = some v) : cellH h ⟨T, o, none⟩ = some v := by rw [cellH_blk t.blk]; exact hv
theorem state_ok (z : Int) (t : Tb h0 h T S F C k) : CallsH Tryd.prog 28 [.pointer (some ⟨T, 0, none⟩), .int .i64 z] h fun v h' => v = .tuple #[.int .i64 (stF S z).1, .bool (stF S z).2] ∧ h' = h := by
  refine fun_ok hm' Tryd.func28 (by kernel_rfl) (F28_eq _ _ _ h) ?_
  unfold F28
  obtain ⟨g, fa, fc, ca, cc, t⟩ := t
  have c0 : cellH h (Addr.add ⟨T, 0, none⟩ 0) = some (.slice (some ⟨g, 0, none⟩) S.length S.length) := by rw [add_mk]; exact Tb.sl t 0 _ rfl
  have no : ¬ (0 ≤ z ∧ z < (S.length : Int)) → stF S z = (0, false) := fun hh => if_neg hh
  refine cut_q (ts := []) (fun _ h' => h' = h ∧ 0 ≤ z ∧ z < (S.length : Int)) ?_ ?_
  rotate_left
  · intro K hK
    refine br_of (fun h1 => ⟨by rw [no (by have := of_decide_eq_true h1; omega)], rfl⟩) fun h1 => ld_of (c := .slice) (some ⟨g, 0, none⟩, S.length, S.length) c0 (br_of (fun h2 => ⟨?_, rfl⟩) fun h2 => hK () _ ⟨rfl, ?_⟩)
    · have h2 : z ≥ (S.length : Int) := of_decide_eq_true h2
      rw [no (by omega)]
    · have h1 : ¬ z < 0 := of_decide_eq_false h1
      have h2 : ¬ z ≥ (S.length : Int) := of_decide_eq_false h2
      omega
  rintro _ h' ⟨hh, hz⟩ _; subst h'
  obtain ⟨n, rfl⟩ := Int.eq_ofNat_of_zero_le hz.1
  have hn : n < S.length := by omega
  have e : stF S (n : Int) = (S[n], true) := by unfold stF; rw [if_pos hz]; simp [List.getD_eq_getElem?_getD, hn]
  rw [e]
  refine ld_of (c := .slice) (some ⟨g, 0, none⟩, S.length, S.length) c0 (ptr_of (ix_of hn (ld_of (c := .int .i64) S[n] ?_ ⟨rfl, rfl⟩)))
  rw [add_mk, cellH_blk t.st, Int.toNat_natCast, Nat.zero_add, Nat.mul_one]
  simp [iv, hn]
  rfl
theorem set_ok {g : Nat} {fa : Option Addr} {fc : Nat} {ca : Option Addr} {cc : Nat} (t : TbAt h0 h T g fa fc ca cc S F C k) {z : Nat} (hz : z < S.length) (v : Int) {K : Heap → Prop} (hK : ∀ h', Tb h0 h' T (S.set z v) F C k → K h') :
    ldW .slice (Addr.add ⟨T, 0, none⟩ 0) (fun (x : Option Addr × Nat × Nat) => ptrW x.1 (fun a => idxW (z : Int) x.2.1 true (stW (Addr.add a (Int.toNat (z : Int) * 1)) (.int .i64 v) (fun h' => K h') h))) h := by
  refine ld_of (c := .slice) (some ⟨g, 0, none⟩, S.length, S.length) (by rw [add_mk]; exact Tb.sl t 0 _ rfl) (ptr_of (ix_of hz ?_))
  rw [add_mk, Int.toNat_natCast, Nat.zero_add, Nat.mul_one]
  exact st_blk t.st (by simpa [iv] using hz) fun h1 b1 o1 => hK h1 ⟨g, fa, fc, ca, cc, t.setS b1 o1⟩
theorem take_no (t : Tb h0 h T S [] C k) : CallsH Tryd.prog 44 [.pointer (some ⟨T, 0, none⟩)] h fun v h' => v = .tuple #[.int .i64 0, .bool false] ∧ h' = h := by
  refine fun_ok hm' Tryd.func44 (by kernel_rfl) (F44_eq _ _ h) ?_
  unfold F44
  obtain ⟨g, fa, fc, ca, cc, t⟩ := t
  exact ld_of (c := .slice) (fa, 0, fc) (by rw [add_mk, add_mk]; exact Tb.sl t 1 _ rfl) (br_t rfl ⟨rfl, rfl⟩)
theorem take_ok {z : Nat} (t : Tb h0 h T S ((z : Int) :: F) C k) (hz : z < S.length) (hF : F.length ≤ 900) : CallsH Tryd.prog 44 [.pointer (some ⟨T, 0, none⟩)] h fun v h' => v = .tuple #[.int .i64 (z : Int), .bool true] ∧ Tb h0 h' T (S.set z 1) (F.filter fun y => !((z : Int) == y)) C k := by
  refine fun_ok hm' Tryd.func44 (by kernel_rfl) (F44_eq _ _ h) ?_
  unfold F44
  obtain ⟨g, fa, fc, ca, cc, t⟩ := t
  have c1 : cellH h (Addr.add (Addr.add ⟨T, 0, none⟩ 1) 0) = some (.slice fa ((z : Int) :: F).length fc) := by rw [add_mk, add_mk]; exact Tb.sl t 1 _ rfl
  obtain ⟨b, rfl, _, hc⟩ := t.fr.cell (j := 0) (u := .int .i64 (z : Int)) rfl
  refine ld_of (c := .slice) (some ⟨b, 0, none⟩, ((z : Int) :: F).length, fc) c1 (br_f (by simp; omega) (ld_of (c := .slice) (some ⟨b, 0, none⟩, ((z : Int) :: F).length, fc) c1 (ptr_of (ix_of (i := 0) (by simp) (ld_of (c := .int .i64) (z : Int) (by rw [add_mk]; exact hc) ?_)))))
  refine call_of (drop_ok (z : Int) ⟨g, _, fc, ca, cc, t⟩ (by simp; omega)) ?_
  rintro v h1 ⟨rfl, t1⟩
  have e : ((z : Int) :: F).filter (fun y => !((z : Int) == y)) = F.filter fun y => !((z : Int) == y) := by simp
  rw [e] at t1
  obtain ⟨g', fa', fc', ca', cc', t1⟩ := t1
  exact ⟨(), rfl, set_ok t1 hz 1 fun h2 t2 => ⟨rfl, t2⟩⟩
theorem close_no (z : Int) (t : Tb h0 h T S F C k) (hs : (stF S z).1 ≠ 1) : CallsH Tryd.prog 45 [.pointer (some ⟨T, 0, none⟩), .int .i64 z] h fun v h' => v = .bool false ∧ h' = h := by
  refine fun_ok hm' Tryd.func45 (by kernel_rfl) (F45_eq _ _ _ h) ?_
  unfold F45
  refine call_of (state_ok z t) ?_
  rintro v h' ⟨rfl, hh⟩; subst h'
  exact ⟨((stF S z).1, (stF S z).2), rfl, br_t (by simpa using hs) ⟨rfl, rfl⟩⟩
theorem st_nat {z : Int} {v : Int} (hs : (stF S z).1 = v) (hv : v ≠ 0) : ∃ n : Nat, z = n ∧ n < S.length := by
  unfold stF at hs
  split at hs
  · rename_i h; exact ⟨z.toNat, by omega, by omega⟩
  · exact (hv hs.symm).elim
theorem close_ok {z : Nat} (t : Tb h0 h T S F C k) (hs : (stF S (z : Int)).1 = 1) (hz : z < S.length) (hC : C.length ≤ 900) : CallsH Tryd.prog 45 [.pointer (some ⟨T, 0, none⟩), .int .i64 (z : Int)] h fun v h' => v = .bool true ∧ Tb h0 h' T (S.set z 2) F (C ++ [((z : Int), k)]) (IntKind.wrap .u32 (k + 1)) := by
  refine fun_ok hm' Tryd.func45 (by kernel_rfl) (F45_eq _ _ _ h) ?_
  unfold F45
  refine call_of (state_ok (z : Int) t) ?_
  rintro v h' ⟨rfl, hh⟩; subst h'
  obtain ⟨g, fa, fc, ca, cc, t⟩ := t
  refine ⟨((stF S (z : Int)).1, (stF S (z : Int)).2), rfl, br_f (by rw [hs]; rfl) (set_ok t hz 2 fun h1 t1 => ?_)⟩
  obtain ⟨g, fa, fc, ca, cc, t1⟩ := t1
  refine ld_of (c := .int .u32) k (by rw [add_mk]; exact Tb.sl t1 5 _ rfl) (call_of (put2_ok (z : Int) k ⟨g, fa, fc, ca, cc, t1⟩ (by omega)) ?_)
  rintro v h2 ⟨rfl, g, fa, fc, ca, cc, t2⟩
  refine ⟨(), rfl, ld_of (c := .int .u32) k (by rw [add_mk]; exact Tb.sl t2 5 _ rfl) ?_⟩
  rw [add_mk]
  refine st_blk t2.blk (by show 0 + 5 < 6; omega) fun h3 b3 o3 => ⟨rfl, g, fa, fc, ca, cc, TbAt.setC t2 (UpdO.refl _ _) t2.cl (.inl rfl) b3 o3⟩
theorem give_no (z : Int) (t : Tb h0 h T S F C k) (hs : (stF S z).1 = 0) : CallsH Tryd.prog 46 [.pointer (some ⟨T, 0, none⟩), .int .i64 z] h fun v h' => v = .bool false ∧ h' = h := by
  refine fun_ok hm' Tryd.func46 (by kernel_rfl) (F46_eq _ _ _ h) ?_
  unfold F46
  refine call_of (state_ok z t) ?_
  rintro v h' ⟨rfl, hh⟩; subst h'
  exact ⟨((stF S z).1, (stF S z).2), rfl, br_t (by simpa using hs) ⟨rfl, rfl⟩⟩
theorem give_ok {z : Nat} (t : Tb h0 h T S F C k) (hs : (stF S (z : Int)).1 ≠ 0) (hz : z < S.length) (hF : F.length ≤ 900) (hC : C.length ≤ 900) : CallsH Tryd.prog 46 [.pointer (some ⟨T, 0, none⟩), .int .i64 (z : Int)] h fun v h' => v = .bool true ∧ Tb h0 h' T (S.set z 0) (F ++ [(z : Int)]) (C.filter fun y => !((z : Int) == y.1)) k := by
  refine fun_ok hm' Tryd.func46 (by kernel_rfl) (F46_eq _ _ _ h) ?_
  unfold F46
  refine call_of (state_ok (z : Int) t) ?_
  rintro v h' ⟨rfl, hh⟩; subst h'
  refine ⟨((stF S (z : Int)).1, (stF S (z : Int)).2), rfl, br_f (by simpa using hs) (call_of (drop2_ok (z : Int) 0 t (by omega)) ?_)⟩
  rintro v h1 ⟨rfl, g, fa, fc, ca, cc, t1⟩
  refine ⟨(), rfl, set_ok t1 hz 0 fun h2 t2 => call_of (put_ok (z : Int) t2 (by omega)) ?_⟩
  rintro v h3 ⟨rfl, t3⟩
  exact ⟨(), rfl, rfl, t3⟩
theorem free_own (t : Tb h0 h T S F C k) (hF : F.length ≤ 900) : CallsH Tryd.prog 32 [.pointer (some ⟨T, 0, none⟩)] h fun v h' => ∃ a c, v = .slice a F.length c ∧ Got .i64 TI h h' a c F ∧ (F ≠ [] → OwnH h' 0 TI 1 a F.length c (iv F)) := by
  refine fun_ok hm' Tryd.func32 (by kernel_rfl) (F32_eq _ _ h) ?_
  unfold F32
  obtain ⟨g, fa, fc, ca, cc, t⟩ := t
  refine ld_of (c := .slice) (fa, F.length, fc) (by rw [add_mk, add_mk]; exact Tb.sl t 1 _ rfl) (call_of (R := fun v h' => ∃ a c, v = .slice a F.length c ∧ Got .i64 TI h h' a c F ∧ (F ≠ [] → OwnH h' 0 TI 1 a F.length c (iv F))) ?_ ?_)
  · refine fun_ok hm' Tryd.func54 (by kernel_rfl) (F54_eq _ _ _ _ h) ?_
    unfold F54
    refine br_of (fun hn => ?_) fun _ => new_of fun h1 b1 n1 s1 => ?_
    · have hn : fa = none := by simpa using hn
      subst hn
      have hl : F = [] := by
        rcases t.fr.row with ⟨hl, ⟨_, h1, _⟩ | ⟨_, _, e, _⟩⟩
        · rw [h1] at hl; exact List.eq_nil_of_length_eq_zero (by simpa [iv] using hl)
        · cases e
      subst hl
      exact ⟨none, 0, rfl, Got.nil _ _ (New.refl h), fun h => (h rfl).elim⟩
    · refine Grow.ints' ap49 (xs := []) (Grow.start (RowS.nil' h1 _ 1 (some ⟨h.size, 0, none⟩))) (Ar.own (t.to n1).fr) rfl (by omega) (by omega) fun a5 c5 h5 g5 ow => ⟨a5, c5, rfl, ?_, ow⟩
      exact g5.got n1 (fun b e => by injection e with e; change h.size = b at e; omega)
  · rintro v h' ⟨a, c, rfl, q⟩
    exact ⟨(a, F.length, c), rfl, a, c, rfl, q⟩
theorem free_ok (t : Tb h0 h T S F C k) (hF : F.length ≤ 900) : CallsH Tryd.prog 32 [.pointer (some ⟨T, 0, none⟩)] h fun v h' => ∃ a c, v = .slice a F.length c ∧ Got .i64 TI h h' a c F :=
  (free_own t hF).mono fun _ _ ⟨a, c, e, q, _⟩ => ⟨a, c, e, q⟩
theorem cl_ld {g : Nat} {fa : Option Addr} {fc : Nat} {ca : Option Addr} {cc : Nat} {h1 : Heap} (t : TbAt h0 h T g fa fc ca cc S F C k) (n : New h h1) {i m : Nat} (hi : i < C.length) (hm : i < m) {G : Int × Int → Prop} (hG : G C[i]) :
    ptrW ca (fun p => idxW (i : Int) m true (ldAggW [.int .i64, .int .u32] (Addr.add p (Int.toNat (i : Int) * 2)) G h1)) := by
  have hcell : ∀ j, j < 2 → ∃ u, (c2 C[i])[j]? = some u ∧ ∃ g, ca = some ⟨g, 0, none⟩ ∧ cellH h1 ⟨g, i * 2 + j, none⟩ = some u := fun j hj => by
    obtain ⟨u, hu⟩ : ∃ u, (c2 C[i])[j]? = some u := ⟨_, List.getElem?_eq_getElem (show j < 2 from hj)⟩
    obtain ⟨g, e, _, hc⟩ := t.cl.cell (j := i * 2 + j) (u := u) (by rw [cv_get hi hj]; exact hu)
    have hg := (t.cl.blk_ge g (by rw [e]; rfl)).2
    exact ⟨u, hu, g, e, by rw [cellH_same (n.same g hg)]; exact hc⟩
  obtain ⟨_, _, g', rfl, _⟩ := hcell 0 (by omega)
  refine agg_at (k := 2) ((C[i].1, C[i].2) : Int × Int) (es := c2 C[i]) (fun j hj => ?_) rfl rfl hm hG
  obtain ⟨u, hu, g2, e, hc⟩ := hcell j hj
  injection e with e; injection e with e1 e2; subst e1
  rw [hu, Nat.zero_add]; exact hc
theorem closed_ok (t : Tb h0 h T S F C k) (hC : C.length ≤ 900) : CallsH Tryd.prog 33 [.pointer (some ⟨T, 0, none⟩)] h fun v h' => ∃ a c, v = .slice a (C.map Prod.fst).length c ∧ Got .i64 TI h h' a c (C.map Prod.fst) := by
  refine fun_ok hm' Tryd.func33 (by kernel_rfl) (F33_eq _ _ h) ?_
  unfold F33
  obtain ⟨g, fa, fc, ca, cc, t⟩ := t
  refine ld_of (c := .slice) (ca, C.length, cc) (by rw [add_mk, add_mk]; exact Tb.sl t 3 _ rfl) ?_
  refine ⟨fun (s : (Option Addr × Nat × Nat) × Int) h' => ∃ i : Nat, s.2 = i ∧ i ≤ C.length ∧ s.1.2.1 = ((C.take i).map Prod.fst).length ∧ Grow h none h' TI 1 s.1.1 s.1.2.1 s.1.2.2 (((C.take i).map Prod.fst).map (Value.int .i64)), fun (s : (Option Addr × Nat × Nat) × Int) _ => ((C.length : Int) - s.2).toNat, ⟨0, rfl, Nat.zero_le _, rfl, Grow.start (a := none) (RowS.nil h TI 1)⟩, ?_⟩
  rintro ⟨⟨oa, on, oc⟩, s⟩ j h1 ⟨i, hs, hi, hon, g1⟩
  simp only [] at hs hon g1
  subst hs; subst hon
  have q1 := g1.got (New.refl h) (fun b e => by cases e)
  refine br_of (fun hlt => ?_) (fun hlt => ?_)
  · have hlt : (i : Int) < (C.length : Int) := of_decide_eq_true hlt
    have hiL : i < C.length := by omega
    have htk : C.take (i + 1) = C.take i ++ [C[i]] := (List.take_append_getElem hiL).symm
    refine cl_ld t q1.new hiL hiL (new_stL (by rw [zeroCs]; rfl) fun h2 b2 n2 s2 => ?_)
    have b2 : Blk h2 h1.size #[.int .i64 C[i].1, .int .u32 C[i].2] TC := b2
    refine ld_of (c := .int .i64) C[i].1 (by rw [add_mk, cellH_blk b2]; rfl) ?_
    refine Grow.push ap49 (v := .int .i64 C[i].1) (g1.new n2) rfl (by simp; omega) (by omega) fun a3 c3 h3 g3 => ?_
    rw [wr64 (by omega) (by omega)]
    have e3 : (C.take (i + 1)).map Prod.fst = (C.take i).map Prod.fst ++ [C[i].1] := by rw [htk, List.map_append]; rfl
    refine ⟨⟨i + 1, rfl, hiL, by rw [e3, List.length_append]; rfl, ?_⟩, (by first | omega | (dsimp only; omega) | (simp only []; omega))⟩
    rw [e3, List.map_append]; exact g3
  · have hlt : ¬ (i : Int) < (C.length : Int) := of_decide_eq_false hlt
    have : i = C.length := by omega
    subst this
    rw [List.take_length] at q1 ⊢
    exact ⟨oa, oc, rfl, q1⟩
theorem ageF_skip (z : Int) : ∀ (C : List (Int × Int)) (k : Int) (i : Nat), (∀ x ∈ C.take i, x.1 ≠ z) → ageF C k z = ageF (C.drop i) k z
  | C, k, 0, _ => rfl
  | [], k, i + 1, _ => rfl
  | x :: C, k, i + 1, h => by
    have h1 := h x (by simp)
    rw [ageF, if_neg h1, List.drop_succ_cons]
    exact ageF_skip z C k i fun y hy => h y (by simp [hy])
theorem age_ok (z : Int) (t : Tb h0 h T S F C k) (hC : C.length ≤ 900) : CallsH Tryd.prog 30 [.pointer (some ⟨T, 0, none⟩), .int .i64 z] h fun v h' => v = .int .u32 (ageF C k z) ∧ New h h' := by
  refine fun_ok hm' Tryd.func30 (by kernel_rfl) (F30_eq _ _ _ h) ?_
  unfold F30
  obtain ⟨g, fa, fc, ca, cc, t⟩ := t
  refine ld_of (c := .slice) (ca, C.length, cc) (by rw [add_mk, add_mk]; exact Tb.sl t 3 _ rfl) ?_
  refine ⟨fun (s : Int) h' => ∃ i : Nat, s = i ∧ i ≤ C.length ∧ New h h' ∧ ∀ x ∈ C.take i, x.1 ≠ z, fun (s : Int) _ => ((C.length : Int) - s).toNat, ⟨0, rfl, Nat.zero_le _, New.refl h, by simp⟩, ?_⟩
  rintro s j h1 ⟨i, rfl, hi, n1, hno⟩
  refine br_of (fun hlt => ?_) (fun hlt => ?_)
  · have hlt : (i : Int) < (C.length : Int) := of_decide_eq_true hlt
    have hiL : i < C.length := by omega
    refine cl_ld t n1 hiL hiL (new_stL (by rw [zeroCs]; rfl) fun h2 b2 n2 s2 => ?_)
    have b2 : Blk h2 h1.size #[.int .i64 C[i].1, .int .u32 C[i].2] TC := b2
    have n12 := n1.trans n2
    refine ld_of (c := .int .i64) C[i].1 (by rw [add_mk, cellH_blk b2]; rfl) (br_of (fun he => ?_) fun he => ?_)
    · have he : C[i].1 = z := by simpa using he
      refine ld_of (c := .int .u32) k (by rw [add_mk]; exact Tb.sl (t.to n12) 5 _ rfl) (ld_of (c := .int .u32) C[i].2 (by rw [add_mk, cellH_blk b2]; rfl) ⟨?_, n12⟩)
      rw [ageF_skip z C k i hno, List.drop_eq_getElem_cons hiL, ageF, if_pos he]
    · have he : C[i].1 ≠ z := by simpa using he
      rw [wr64 (by omega) (by omega)]
      refine ⟨⟨i + 1, rfl, hiL, n12, fun x hx => ?_⟩, (by first | omega | (dsimp only; omega) | (simp only []; omega))⟩
      rw [← List.take_append_getElem hiL] at hx
      rcases List.mem_append.1 hx with hx | hx
      · exact hno x hx
      · obtain rfl := List.mem_singleton.1 hx; exact he
  · have hlt : ¬ (i : Int) < (C.length : Int) := of_decide_eq_false hlt
    have : i = C.length := by omega
    subst this
    refine ⟨?_, n1⟩
    rw [ageF_skip z C k C.length hno, List.drop_length]; rfl
end
theorem sizeI1 : sizeN Tryd.prog TI = 1 := by kernel_rfl
theorem zeroI1 : zeroC Tryd.prog TI = #[.int .i64 0] := by kernel_rfl
theorem bytesI1 : bytesN Tryd.prog TI = 8 := by kernel_rfl
theorem new_no (z : Int) (h : Heap) (hz : ¬ (1 ≤ z ∧ z ≤ 24)) : CallsH Tryd.prog 24 [.int .i64 z] h fun v h' => v = .tuple #[.pointer none, (.iface 33 (.int .i64 1))] ∧ h' = h := by
  refine fun_ok hm' Tryd.func24 (by kernel_rfl) (F24_eq _ _ h) ?_
  unfold F24
  refine cut_q (ts := []) (fun _ _ => False) (fun _ _ hf _ => hf.elim) ?_
  intro K hK
  refine br_of (fun _ => ⟨rfl, rfl⟩) fun h1 => br_of (fun _ => ⟨rfl, rfl⟩) fun h2 => (hz ?_).elim
  have := of_decide_eq_false h1; have := of_decide_eq_false h2; omega
def upto (n : Nat) : List Int := (List.range n).map fun (i : Nat) => (i : Int)
theorem new_ok (n : Nat) (h : Heap) (hn : 1 ≤ n ∧ n ≤ 24) : CallsH Tryd.prog 24 [.int .i64 (n : Int)] h fun v h' => ∃ T, v = .tuple #[.pointer (some ⟨T, 0, none⟩), Value.nilIface] ∧ Tb (Bs.of h) h' T (List.replicate n 0) (upto n) [] 0 := by
  refine fun_ok hm' Tryd.func24 (by kernel_rfl) (F24_eq _ _ h) ?_
  unfold F24
  refine cut_q (ts := []) (fun _ h' => h' = h) ?_ ?_
  rotate_left
  · intro K hK
    exact br_f (decide_eq_false (by omega)) (br_f (decide_eq_false (by omega)) (hK () _ rfl))
  rintro _ h' hh _; subst h'
  refine mk_of (n := n) sizeI1 zeroI1 (by rw [bytesI1]; omega) (by omega) fun h1 b1 n1 s1 => new_of fun h2 b2 n2 s2 => ?_
  rw [add_mk, add_mk, add_mk, add_mk]
  refine st_blk b2 (by show 0 + 1 + 1 < 6; omega) fun h3 b3 o3 => st_blk b3 (by show 0 + 3 + 1 < 6; omega) fun h4 b4 o4 => ?_
  have hl : (List.replicate n (0 : Int)).length = n := List.length_replicate
  have n14 : New h1 h4 := o4.upd.new (o3.upd.new n2 (Nat.le_refl _)) (Nat.le_refl _)
  have t4 : Tb (Bs.of h) h4 h1.size (List.replicate n 0) [] [] 0 := by
    refine ⟨h.size, none, 0, none, 0, ?_, ?_, OwnH.nil _ _ _ _, OwnH.nil _ _ _ _, Bs.of_at.2 (n1.trans n14), Bs.of_out.2 (by omega), Bs.of_out.2 (Nat.le_refl _), by omega, (fun b e => by cases e), (fun b e => by cases e)⟩
    · rw [hl]; exact b4
    · rw [show (iv (List.replicate n 0)).toArray = Array.replicate n (Value.int .i64 0) by simp [iv]]; exact b1.new n14
  refine ⟨fun (s : Int) h' => ∃ i : Nat, s = i ∧ i ≤ n ∧ Tb (Bs.of h) h' h1.size (List.replicate n 0) (upto i) [] 0, fun (s : Int) _ => ((n : Int) - s).toNat, ⟨0, rfl, Nat.zero_le _, t4⟩, ?_⟩
  rintro s j h5 ⟨i, rfl, hi, t5⟩
  refine br_of (fun hlt => ?_) (fun hlt => ?_)
  · have hlt : (i : Int) < (n : Int) := of_decide_eq_true hlt
    refine call_of (put_ok (i : Int) t5 (by simp [upto]; omega)) ?_
    rintro v h6 ⟨rfl, t6⟩
    refine ⟨(), rfl, ?_⟩
    rw [wr64 (by omega) (by omega)]
    refine ⟨⟨i + 1, rfl, by omega, ?_⟩, (by first | omega | (dsimp only; omega) | (simp only []; omega))⟩
    rw [show upto (i + 1) = upto i ++ [(i : Int)] by simp [upto, List.range_succ]]; exact t6
  · have hlt : ¬ (i : Int) < (n : Int) := of_decide_eq_false hlt
    have : i = n := by omega
    subst this
    exact ⟨h1.size, rfl, t5⟩
end Go.Proofs.YticppjmldlhbiaaDoor.Zo
