/-
  slices.IndexFunc and slices.DeleteFunc at rows of closings (two cells each); slices.Clone at numbers.
-/
import Derived.Test.YticppjmldlhbiaaDoorDel
namespace Go.Proofs.YticppjmldlhbiaaDoor.Zo
open Go.Pl Go.Proofs.YticppjmldlhbiaaDoor.W
abbrev TC : TypeId := 96
def c2 (x : Int × Int) : List Value := [.int .i64 x.1, .int .u32 x.2]
def cv (xs : List (Int × Int)) : List Value := xs.flatMap c2
theorem cv_len : ∀ xs : List (Int × Int), (cv xs).length = xs.length * 2
  | [] => rfl
  | x :: xs => by
    have := cv_len xs
    simp only [cv, List.flatMap_cons, List.length_append, List.length_cons] at this ⊢
    show 2 + _ = _
    omega
theorem cv_app (xs ys : List (Int × Int)) : cv (xs ++ ys) = cv xs ++ cv ys := by simp [cv]
theorem cv_get : ∀ {xs : List (Int × Int)} {i : Nat} (hi : i < xs.length) {j : Nat} (_ : j < 2), (cv xs)[i * 2 + j]? = (c2 xs[i])[j]?
  | x :: xs, 0, _, j, hj => by
    show (c2 x ++ cv xs)[0 * 2 + j]? = _
    rw [List.getElem?_append_left (by show 0 * 2 + j < 2; omega)]
    simp
  | x :: xs, i + 1, hi, j, hj => by
    show (c2 x ++ cv xs)[(i + 1) * 2 + j]? = _
    rw [List.getElem?_append_right (by show 2 ≤ (i + 1) * 2 + j; omega), show (i + 1) * 2 + j - (c2 x).length = i * 2 + j by show (i + 1) * 2 + j - 2 = _; omega]
    have hi' : i < xs.length := by simpa using hi
    rw [cv_get hi' hj]; rfl
def Asks2 (r : Option Nat) (h : Heap) (f : Value) (P : Int × Int → Bool) : Prop := ∃ g cap, f = .func (.func g) #[] cap ∧ ∀ (x : Int × Int) (h1 : Heap), UpdO r h h1 → CallsH Tryd.prog g ([.agg #[.int .i64 x.1, .int .u32 x.2]] ++ cap.toList) h1 fun v h' => v = .bool (P x) ∧ New h1 h'
theorem Asks2.call {r : Option Nat} {h h1 : Heap} {f : Value} {P : Int × Int → Bool} (a : Asks2 r h f P) (u : UpdO r h h1) (x : Int × Int) {F : Bool → Heap → Prop} (hF : ∀ h', New h1 h' → F (P x) h') : callW Tryd.prog (.sc .bool) f [.agg #[.int .i64 x.1, .int .u32 x.2]] F h1 := by
  obtain ⟨g, cap, rfl, hc⟩ := a
  refine callW_of (first := #[]) (cap := cap) (hc x h1 u) ?_
  rintro v h' ⟨rfl, n⟩
  exact ⟨P x, rfl, hF h' n⟩
theorem idx2_ok {a : Option Addr} {n c : Nat} {xs : List (Int × Int)} {f : Value} {P : Int × Int → Bool} (h : Heap) (o : OwnH h 0 TC 2 a n c (cv xs)) (hx : n ≤ 1000) (hf : Asks2 (blkOf a) h f P) :
    CallsH Tryd.prog 76 [.slice a n c, f] h fun v h' => New h h' ∧ ((v = .int .i64 (-1) ∧ ∀ x ∈ xs, P x = false) ∨ ∃ (i : Nat) (hi : i < xs.length), v = .int .i64 (i : Int) ∧ (∀ x ∈ xs.take i, P x = false) ∧ P xs[i] = true) := by
  refine fun_ok hm' Tryd.func76 (by kernel_rfl) (F76_eq _ _ _ _ _ h) ?_
  unfold F76
  have hl : xs.length = n := by have := o.1; rw [cv_len] at this; omega
  refine ⟨fun (s : Int) h' => ∃ i : Nat, s = i ∧ i ≤ n ∧ New h h' ∧ ∀ x ∈ xs.take i, P x = false, fun (s : Int) _ => ((n : Int) - s).toNat, ⟨0, rfl, Nat.zero_le _, New.refl h, by simp⟩, ?_⟩
  rintro s j h1 ⟨i, rfl, hi, n1, hall⟩
  refine br_of (fun hlt => ?_) (fun hlt => ?_)
  · have hlt : (i : Int) < (n : Int) := of_decide_eq_true hlt
    have hiL : i < xs.length := by omega
    have hcell : ∀ j, j < 2 → ∃ u, (c2 xs[i])[j]? = some u ∧ ∃ g, a = some ⟨g, 0, none⟩ ∧ g < h.size ∧ cellH h1 ⟨g, i * 2 + j, none⟩ = some u := fun j hj => by
      obtain ⟨u, hu⟩ : ∃ u, (c2 xs[i])[j]? = some u := ⟨_, List.getElem?_eq_getElem (show j < 2 from hj)⟩
      obtain ⟨g, e, _, hc⟩ := o.cell (j := i * 2 + j) (u := u) (by rw [cv_get hiL hj]; exact hu)
      have hg := (o.blk_ge g (by rw [e]; rfl)).2
      exact ⟨u, hu, g, e, hg, by rw [cellH_same (n1.same g hg)]; exact hc⟩
    obtain ⟨_, _, g, rfl, hg, _⟩ := hcell 0 (by omega)
    refine agg_at (k := 2) ((xs[i].1, xs[i].2) : Int × Int) (es := c2 xs[i]) (fun j hj => ?_) rfl rfl (by omega) (hf.call (UpdO.of_new n1) xs[i] fun h2 n2 => br_of (fun hp => ⟨n1.trans n2, .inr ⟨i, hiL, rfl, hall, hp⟩⟩) fun hp => ?_)
    · obtain ⟨u, hu, g', e, _, hc⟩ := hcell j hj
      injection e with e; injection e with e1 e2; subst e1
      rw [hu, Nat.zero_add]; exact hc
    rw [wr64 (by omega) (by omega)]
    refine ⟨⟨i + 1, rfl, by omega, n1.trans n2, fun x hx => ?_⟩, (by first | omega | (dsimp only; omega) | (simp only []; omega))⟩
    rw [← List.take_append_getElem hiL] at hx
    rcases List.mem_append.1 hx with hx | hx
    · exact hall x hx
    · obtain rfl := List.mem_singleton.1 hx; exact hp
  · have hlt : ¬ (i : Int) < (n : Int) := of_decide_eq_false hlt
    have : i = xs.length := by omega
    subst this
    rw [List.take_length] at hall
    exact ⟨n1, .inl ⟨rfl, hall⟩⟩
theorem zeroC2 : zeroV Tryd.prog TC = some (.agg #[.int .i64 0, .int .u32 0]) := by kernel_rfl
theorem zeroCs : (zeroC Tryd.prog TC).size = 2 := by kernel_rfl
theorem filter_all2 {P : Int × Int → Bool} {xs : List (Int × Int)} (h : ∀ x ∈ xs, P x = false) : xs.filter (fun x => !P x) = xs := List.filter_eq_self.2 fun x hx => by rw [h x hx]; rfl
theorem del2_ok {a : Option Addr} {n c : Nat} {xs : List (Int × Int)} {f : Value} {P : Int × Int → Bool} (h : Heap) (o : OwnH h 0 TC 2 a n c (cv xs)) (hx : n ≤ 1000) (hf : Asks2 (blkOf a) h f P) :
    CallsH Tryd.prog 73 [.slice a n c, f] h fun v h' => v = .slice a (xs.filter fun x => !P x).length c ∧ OwnH h' 0 TC 2 a (xs.filter fun x => !P x).length c (cv (xs.filter fun x => !P x)) ∧ UpdO (blkOf a) h h' := by
  refine fun_ok hm' Tryd.func73 (by kernel_rfl) (F73_eq _ _ _ _ _ h) ?_
  unfold F73
  have hl : xs.length = n := by have := o.1; rw [cv_len] at this; omega
  refine call_of (idx2_ok h o hx hf) ?_
  rintro v h1 ⟨n1, ⟨rfl, hno⟩ | ⟨i0, hi0, rfl, hpre, hat⟩⟩
  · refine ⟨(-1 : Int), rfl, br_t rfl ?_⟩
    rw [filter_all2 hno, hl]
    exact ⟨rfl, o.grow n1, UpdO.of_new n1⟩
  refine ⟨(i0 : Int), rfl, br_f (by simp) ?_⟩
  obtain ⟨_, ⟨_, h0, _⟩ | ⟨g, cur, rfl, _, hb, hnc, hcs, htk⟩⟩ := o.row
  · omega
  have hgl := hb.lt
  rw [wr64 (by omega) (by omega)]
  have hcm : c ≤ maxLen := by
    rcases o.2 with ⟨e1, _⟩ | ⟨g', cap, cur', e1, _, _, _, h1, _⟩
    · cases e1
    · injection e1 with _ _ e1; subst e1; exact h1
  have hu0 : ∀ k, k < n * 2 → cur[k]? = (cv xs)[k]? := fun k hk => by rw [← htk, List.getElem?_take_of_lt (by omega), Array.getElem?_toList]
  refine ⟨fun (s : Int × Int) h' => ∃ (i k : Nat) (ys : Array Value), s = ((i : Int), (k : Int)) ∧ i < k ∧ k ≤ n ∧ Blk h' g ys TC ∧ ys.size = c * 2 ∧ i = ((xs.take k).filter fun x => !P x).length ∧ (∀ m, m < i * 2 → ys[m]? = (cv ((xs.take k).filter fun x => !P x))[m]?) ∧ (∀ m, k * 2 ≤ m → m < n * 2 → ys[m]? = (cv xs)[m]?) ∧ UpdO (some g) h h',
    fun (s : Int × Int) _ => ((n : Int) - s.2).toNat, ⟨i0, i0 + 1, cur, rfl, by omega, by omega, hb.new n1, hcs, ?_, ?_, fun m _ hm => hu0 m hm, UpdO.of_new n1⟩, ?_⟩
  · rw [← List.take_append_getElem hi0, List.filter_append, filter_all2 hpre]
    simp [hat]; omega
  · intro m hm
    rw [← List.take_append_getElem hi0, List.filter_append, filter_all2 hpre]
    simp only [List.filter_cons, hat, Bool.not_true, Bool.false_eq_true, if_false, List.filter_nil, List.append_nil]
    rw [hu0 m (by omega)]
    have : cv xs = cv (xs.take i0) ++ cv (xs.drop i0) := by rw [← cv_app, List.take_append_drop]
    rw [this, List.getElem?_append_left (by rw [cv_len, List.length_take]; omega)]
  rintro s j h2 ⟨i, k, ys, rfl, hik, hk, hb2, hyl, hi, hyt, hys, u2⟩
  refine br_of (fun hlt => ?_) (fun hlt => ?_)
  · have hlt : (k : Int) < (n : Int) := of_decide_eq_true hlt
    have hkL : k < xs.length := by omega
    have htks : xs.take (k + 1) = xs.take k ++ [xs[k]] := (List.take_append_getElem hkL).symm
    refine agg_at (k := 2) ((xs[k].1, xs[k].2) : Int × Int) (es := c2 xs[k]) (fun j hj => ?_) rfl rfl (by omega) (new_stL (by rw [zeroCs]; rfl) fun h3 b3 n3 s3 => ?_)
    · rw [Nat.zero_add, cellH_blk hb2, hys _ (by omega) (by omega), cv_get hkL hj]
    have b3 : Blk h3 h2.size #[.int .i64 xs[k].1, .int .u32 xs[k].2] TC := b3
    refine ldAgg_blk ((xs[k].1, xs[k].2) : Int × Int) b3 ⟨rfl, rfl, trivial⟩ (hf.call (UpdO.trans u2 (UpdO.of_new n3)) xs[k] fun h4 n4 => br_of (fun hp => ?_) fun hp => ?_)
    · have hp : P xs[k] = false := by simpa using hp
      refine ldAgg_blk ((xs[k].1, xs[k].2) : Int × Int) (b3.new n4) ⟨rfl, rfl, trivial⟩ ⟨⟨by show (0 : Int) ≤ (i : Int) ∧ (i : Int) < (n : Int); omega, rfl⟩, ?_⟩
      rw [add_mk, Int.toNat_natCast, Nat.zero_add]
      refine stL_blk ((hb2.new n3).new n4) (by show i * 2 + 2 ≤ _; omega) fun h5 b5 o5 => ?_
      rw [wr64 (by omega) (by omega), wr64 (by omega) (by omega)]
      have ef : (xs.take (k + 1)).filter (fun x => !P x) = (xs.take k).filter (fun x => !P x) ++ [xs[k]] := by rw [htks, List.filter_append]; simp [hp]
      have hcl : (cv ((xs.take k).filter fun x => !P x)).length = i * 2 := by rw [cv_len, ← hi]
      refine ⟨⟨i + 1, k + 1, _, rfl, by omega, by omega, b5, by rw [setsA_size]; exact hyl, by rw [ef, List.length_append, ← hi]; rfl, fun m hm => ?_, fun m h1 h2 => ?_, UpdO.trans u2 (UpdO.trans (UpdO.of_new (n3.trans n4)) ⟨by rw [o5.size]; exact Nat.le_refl _, fun m hm hne => o5.same m fun e => hne (by rw [e])⟩)⟩, (by first | omega | (dsimp only; omega) | (simp only []; omega))⟩
      · rw [ef, cv_app, setsA_get]
        by_cases h1 : m < i * 2
        · rw [if_neg (by omega), List.getElem?_append_left (by omega)]; exact hyt m h1
        · rw [if_pos ⟨by omega, by show m < i * 2 + 2; omega, by omega⟩, List.getElem?_append_right (by omega), hcl]; rfl
      · rw [setsA_get, if_neg (by intro hh; have : m < i * 2 + 2 := hh.2.1; omega)]; exact hys m (by omega) h2
    · have hp : P xs[k] = true := by simpa using hp
      rw [wr64 (by omega) (by omega)]
      have ef : (xs.take (k + 1)).filter (fun x => !P x) = (xs.take k).filter (fun x => !P x) := by rw [htks, List.filter_append]; simp [hp]
      exact ⟨⟨i, k + 1, ys, rfl, by omega, by omega, (hb2.new n3).new n4, hyl, by rw [ef]; exact hi, by rw [ef]; exact hyt, fun m h1 h2 => hys m (by omega) h2, UpdO.trans u2 (UpdO.of_new (n3.trans n4))⟩, (by first | omega | (dsimp only; omega) | (simp only []; omega))⟩
  · have hlt : ¬ (k : Int) < (n : Int) := of_decide_eq_false hlt
    have hkn : k = xs.length := by omega
    subst hkn
    rw [List.take_length] at hi hyt
    refine ⟨⟨by omega, by omega, by omega, by omega⟩, ?_⟩
    have e1 : ((n : Int)).toNat - ((i : Int)).toNat = n - i := by omega
    have e2 : ((c : Int)).toNat - ((i : Int)).toNat = c - i := by omega
    have e3 : sliceBase (some (⟨g, 0, none⟩ : Addr)) ((i : Int)).toNat ((c : Int)).toNat 2 = some ⟨g, i * 2, none⟩ := by
      unfold sliceBase
      rw [if_neg (by omega)]
      show some (Addr.add ⟨g, 0, none⟩ (((i : Int)).toNat * 2)) = _
      rw [add_mk]; simp
    show clW _ _ #[.slice (sliceBase (some (⟨g, 0, none⟩ : Addr)) ((i : Int)).toNat ((c : Int)).toNat 2) (((n : Int)).toNat - ((i : Int)).toNat) (((c : Int)).toNat - ((i : Int)).toNat)] _ h2
    rw [e1, e2, e3]
    refine cl_blk (e := TC) (z := .agg #[.int .i64 0, .int .u32 0]) (by kernel_rfl) zeroC2 (by simp [Value.cells, Value.oneCell']) hb2 (by show i * 2 + (n - i) * 2 ≤ _; omega) fun h3 b3 o3 => ?_
    refine ⟨⟨by omega, by omega, by omega, by omega⟩, ?_⟩
    have e4 : sliceBase (some (⟨g, 0, none⟩ : Addr)) ((0 : Int)).toNat ((c : Int)).toNat 2 = some ⟨g, 0, none⟩ := by
      unfold sliceBase
      split
      · rfl
      · show some (Addr.add ⟨g, 0, none⟩ (0 * 2)) = _
        rw [add_mk]
    have e5 : ((i : Int)).toNat - ((0 : Int)).toNat = i := by omega
    have e6 : ((c : Int)).toNat - ((0 : Int)).toNat = c := by omega
    rw [e4, e5, e6, ← hi]
    refine ⟨rfl, ?_, UpdO.trans u2 ⟨by rw [o3.size]; exact Nat.le_refl _, fun m hm hne => o3.same m fun e => hne (by rw [e]; rfl)⟩⟩
    refine ⟨by rw [cv_len, ← hi], .inr ⟨g, c, _, rfl, Nat.zero_le _, b3, by omega, hcm, ?_, ?_⟩⟩
    · rw [setsA_size]; exact hyl
    · apply List.ext_getElem?
      intro m
      by_cases hm : m < i * 2
      · rw [List.getElem?_take_of_lt hm, Array.getElem?_toList, setsA_get, if_neg (by omega)]; exact hyt m hm
      · rw [List.getElem?_eq_none (by simp; omega), List.getElem?_eq_none (by rw [cv_len, ← hi]; omega)]
end Go.Proofs.YticppjmldlhbiaaDoor.Zo
