/-
  slices.IndexFunc, slices.DeleteFunc and slices.Clone at rows of numbers, as package zones calls them.
-/
import Derived.Test.YticppjmldlhbiaaDoorWZones
import Derived.Test.YticppjmldlhbiaaDoorSep
import Derived.Test.YticppjmldlhbiaaDoorOwn
namespace Go.Proofs.YticppjmldlhbiaaDoor.Zo
open Go.Pl Go.Proofs.YticppjmldlhbiaaDoor.W
theorem hm' : Tryd.prog.follows .mixedOrders = true := by kernel_rfl
theorem ix_of {i n : Nat} {F : Prop} (h : i < n) (hF : F) : idxW (i : Int) n true F := ⟨⟨⟨by omega, by omega⟩, rfl⟩, hF⟩
abbrev TI : TypeId := 3
def iv (xs : List Int) : List Value := xs.map (Value.int .i64)
theorem UpdO.refl (r : Option Nat) (h : Heap) : UpdO r h h := ⟨Nat.le_refl _, fun _ _ _ => rfl⟩
theorem UpdO.trans {r : Option Nat} {h1 h2 h3 : Heap} (a : UpdO r h1 h2) (b : UpdO r h2 h3) : UpdO r h1 h3 := ⟨Nat.le_trans a.size b.size, fun k hk hr => (b.same k (Nat.lt_of_lt_of_le hk a.size) hr).trans (a.same k hk hr)⟩
theorem UpdO.of_new {r : Option Nat} {h1 h2 : Heap} (n : New h1 h2) : UpdO r h1 h2 := ⟨n.size, fun k hk _ => n.same k hk⟩
/-- What a func value answers of numbers, at any heap behind h but for the row's block. -/
def Asks (r : Option Nat) (h : Heap) (f : Value) (P : Int → Bool) : Prop := ∃ g cap, f = .func (.func g) #[] cap ∧ ∀ (x : Int) (h1 : Heap), UpdO r h h1 → CallsH Tryd.prog g ([.int .i64 x] ++ cap.toList) h1 fun v h' => v = .bool (P x) ∧ New h1 h'
theorem Asks.call {r : Option Nat} {h h1 : Heap} {f : Value} {P : Int → Bool} (a : Asks r h f P) (u : UpdO r h h1) (x : Int) {F : Bool → Heap → Prop} (hF : ∀ h', New h1 h' → F (P x) h') : callW Tryd.prog (.sc .bool) f [.int .i64 x] F h1 := by
  obtain ⟨g, cap, rfl, hc⟩ := a
  refine callW_of (first := #[]) (cap := cap) (hc x h1 u) ?_
  rintro v h' ⟨rfl, n⟩
  exact ⟨P x, rfl, hF h' n⟩
theorem idx_ok {a : Option Addr} {n c : Nat} {xs : List Int} {f : Value} {P : Int → Bool} (h : Heap) (o : OwnH h 0 TI 1 a n c (iv xs)) (hx : n ≤ 1000) (hf : Asks (blkOf a) h f P) :
    CallsH Tryd.prog 75 [.slice a n c, f] h fun v h' => New h h' ∧ ((v = .int .i64 (-1) ∧ ∀ x ∈ xs, P x = false) ∨ ∃ (i : Nat) (hi : i < xs.length), v = .int .i64 (i : Int) ∧ (∀ x ∈ xs.take i, P x = false) ∧ P xs[i] = true) := by
  refine fun_ok hm' Tryd.func75 (by kernel_rfl) (F75_eq _ _ _ _ _ h) ?_
  unfold F75
  have hl : xs.length = n := by have := o.1; simpa [iv] using this
  refine ⟨fun (s : Int) h' => ∃ i : Nat, s = i ∧ i ≤ n ∧ New h h' ∧ ∀ x ∈ xs.take i, P x = false, fun (s : Int) _ => ((n : Int) - s).toNat, ⟨0, rfl, Nat.zero_le _, New.refl h, by simp⟩, ?_⟩
  rintro s j h1 ⟨i, rfl, hi, n1, hall⟩
  refine br_of (fun hlt => ?_) (fun hlt => ?_)
  · have hlt : (i : Int) < (n : Int) := of_decide_eq_true hlt
    have hiL : i < xs.length := by omega
    obtain ⟨g, rfl, _, hc⟩ := o.cell (j := i) (u := .int .i64 xs[i]) (by simp [iv, hiL])
    have hg := (o.blk_ge g rfl).2
    refine ⟨⟨by omega, rfl⟩, ld_of (c := .int .i64) xs[i] (by rw [add_mk, Int.toNat_natCast, Nat.zero_add, Nat.mul_one, cellH_same (n1.same g hg)]; exact hc) (hf.call (UpdO.of_new n1) xs[i] fun h2 n2 => br_of (fun hp => ⟨n1.trans n2, .inr ⟨i, hiL, rfl, hall, hp⟩⟩) fun hp => ?_)⟩
    rw [wr64 (by omega) (by omega)]
    refine ⟨⟨i + 1, rfl, by omega, n1.trans n2, fun x hx => ?_⟩, (by first | omega | (dsimp only; omega) | (simp only []; omega))⟩
    rw [← List.take_append_getElem hiL] at hx
    rcases List.mem_append.1 hx with hx | hx
    · exact hall x hx
    · obtain rfl := List.mem_singleton.1 hx; exact hp
  · have hlt : ¬ (i : Int) < (n : Int) := of_decide_eq_false hlt
    have : i = xs.length := by omega
    subst this
    rw [List.take_length] at hall
    exact ⟨n1, .inl ⟨rfl, hall⟩⟩
theorem zeroI : zeroV Tryd.prog TI = some (.int .i64 0) := by kernel_rfl
theorem filter_all {P : Int → Bool} {xs : List Int} (h : ∀ x ∈ xs, P x = false) : xs.filter (fun x => !P x) = xs := List.filter_eq_self.2 fun x hx => by rw [h x hx]; rfl
theorem del_ok {a : Option Addr} {n c : Nat} {xs : List Int} {f : Value} {P : Int → Bool} (h : Heap) (o : OwnH h 0 TI 1 a n c (iv xs)) (hx : n ≤ 1000) (hf : Asks (blkOf a) h f P) :
    CallsH Tryd.prog 71 [.slice a n c, f] h fun v h' => v = .slice a (xs.filter fun x => !P x).length c ∧ OwnH h' 0 TI 1 a (xs.filter fun x => !P x).length c (iv (xs.filter fun x => !P x)) ∧ UpdO (blkOf a) h h' := by
  refine fun_ok hm' Tryd.func71 (by kernel_rfl) (F71_eq _ _ _ _ _ h) ?_
  unfold F71
  have hl : xs.length = n := by have := o.1; simpa [iv] using this
  refine call_of (idx_ok h o hx hf) ?_
  rintro v h1 ⟨n1, ⟨rfl, hno⟩ | ⟨i0, hi0, rfl, hpre, hat⟩⟩
  · refine ⟨(-1 : Int), rfl, br_t rfl ?_⟩
    rw [filter_all hno, hl]
    exact ⟨rfl, o.grow n1, UpdO.of_new n1⟩
  refine ⟨(i0 : Int), rfl, br_f (by simp) ?_⟩
  obtain ⟨_, ⟨_, h0, _⟩ | ⟨g, cur, rfl, _, hb, hnc, hcs, htk⟩⟩ := o.row
  · omega
  have hgl := hb.lt
  rw [wr64 (by omega) (by omega)]
  have hcm : c ≤ maxLen := by
    rcases o.2 with ⟨e1, _⟩ | ⟨g', cap, cur', e1, _, _, _, h1, _⟩
    · cases e1
    · injection e1 with _ _ e1; subst e1; exact h1
  have hu0 : ∀ k, k < n → cur.toList[k]? = (iv xs)[k]? := fun k hk => by rw [← htk, List.getElem?_take_of_lt (by omega)]
  refine ⟨fun (s : Int × Int) h' => ∃ (i k : Nat) (ys : List Value), s = ((i : Int), (k : Int)) ∧ i < k ∧ k ≤ n ∧ Blk h' g ys.toArray TI ∧ ys.length = c ∧ i = ((xs.take k).filter fun x => !P x).length ∧ ys.take i = iv ((xs.take k).filter fun x => !P x) ∧ (∀ m, k ≤ m → m < n → ys[m]? = (iv xs)[m]?) ∧ UpdO (some g) h h',
    fun (s : Int × Int) _ => ((n : Int) - s.2).toNat, ⟨i0, i0 + 1, cur.toList, rfl, by omega, by omega, by simpa using hb.new n1, by simpa using hcs, ?_, ?_, fun m _ hm => hu0 m hm, UpdO.of_new n1⟩, ?_⟩
  · rw [← List.take_append_getElem hi0, List.filter_append, filter_all hpre]
    simp [hat]; omega
  · rw [← List.take_append_getElem hi0, List.filter_append, filter_all hpre]
    simp only [List.filter_cons, hat, Bool.not_true, Bool.false_eq_true, if_false, List.filter_nil, List.append_nil]
    apply List.ext_getElem?
    intro m
    by_cases hm : m < i0
    · rw [List.getElem?_take_of_lt hm, hu0 m (by omega)]; simp only [iv, List.getElem?_map]; rw [List.getElem?_take_of_lt hm]
    · rw [List.getElem?_eq_none (by simp; omega), List.getElem?_eq_none (by simp [iv]; omega)]
  rintro s j h2 ⟨i, k, ys, rfl, hik, hk, hb2, hyl, hi, hyt, hys, u2⟩
  refine br_of (fun hlt => ?_) (fun hlt => ?_)
  · have hlt : (k : Int) < (n : Int) := of_decide_eq_true hlt
    have hkL : k < xs.length := by omega
    have hyk : ys[k]? = some (.int .i64 xs[k]) := by rw [hys k (Nat.le_refl _) (by omega)]; simp [iv, hkL]
    have htks : xs.take (k + 1) = xs.take k ++ [xs[k]] := (List.take_append_getElem hkL).symm
    refine ⟨⟨by omega, rfl⟩, ld_of (c := .int .i64) xs[k] (by rw [add_mk, Int.toNat_natCast, Nat.zero_add, Nat.mul_one, cellH_blk hb2, List.getElem?_toArray]; exact hyk) (hf.call u2 xs[k] fun h3 n3 => br_of (fun hp => ?_) fun hp => ?_)⟩
    · have hp : P xs[k] = false := by simpa using hp
      refine ⟨⟨by show (0 : Int) ≤ (i : Int) ∧ (i : Int) < (n : Int); omega, rfl⟩, ?_⟩
      rw [add_mk, Int.toNat_natCast, Nat.zero_add, Nat.mul_one]
      refine st_blk (hb2.new n3) (by simp; omega) fun h4 b4 o4 => ?_
      rw [wr64 (by omega) (by omega), wr64 (by omega) (by omega)]
      have ef : (xs.take (k + 1)).filter (fun x => !P x) = (xs.take k).filter (fun x => !P x) ++ [xs[k]] := by rw [htks, List.filter_append]; simp [hp]
      refine ⟨⟨i + 1, k + 1, ys.set i (.int .i64 xs[k]), rfl, by omega, by omega, by simpa using b4, by simpa using hyl, by rw [ef, List.length_append, ← hi]; rfl, ?_, fun m h1 h2 => ?_, UpdO.trans u2 (UpdO.trans (UpdO.of_new n3) ⟨by rw [o4.size]; exact Nat.le_refl _, fun m hm hne => o4.same m fun e => hne (by rw [e])⟩)⟩, (by first | omega | (dsimp only; omega) | (simp only []; omega))⟩
      · rw [ef]
        have : (ys.set i (Value.int .i64 xs[k])).take (i + 1) = ys.take i ++ [Value.int .i64 xs[k]] := by
          rw [List.take_set, List.take_succ_eq_append_getElem (show i < ys.length by omega), List.set_append_right _ _ (by simp; omega)]
          simp [show i - min i ys.length = 0 by omega]
        rw [this, hyt]; simp [iv]
      · rw [List.getElem?_set_ne (by omega)]; exact hys m (by omega) h2
    · have hp : P xs[k] = true := by simpa using hp
      rw [wr64 (by omega) (by omega)]
      have ef : (xs.take (k + 1)).filter (fun x => !P x) = (xs.take k).filter (fun x => !P x) := by rw [htks, List.filter_append]; simp [hp]
      exact ⟨⟨i, k + 1, ys, rfl, by omega, by omega, hb2.new n3, hyl, by rw [ef]; exact hi, by rw [ef]; exact hyt, fun m h1 h2 => hys m (by omega) h2, UpdO.trans u2 (UpdO.of_new n3)⟩, (by first | omega | (dsimp only; omega) | (simp only []; omega))⟩
  · have hlt : ¬ (k : Int) < (n : Int) := of_decide_eq_false hlt
    have hkn : k = xs.length := by omega
    subst hkn
    rw [List.take_length] at hi hyt
    refine ⟨⟨by omega, by omega, by omega, by omega⟩, ?_⟩
    have e1 : ((n : Int)).toNat - ((i : Int)).toNat = n - i := by omega
    have e2 : ((c : Int)).toNat - ((i : Int)).toNat = c - i := by omega
    have e3 : sliceBase (some (⟨g, 0, none⟩ : Addr)) ((i : Int)).toNat ((c : Int)).toNat 1 = some ⟨g, i, none⟩ := by
      unfold sliceBase
      rw [if_neg (by omega)]
      show some (Addr.add ⟨g, 0, none⟩ (((i : Int)).toNat * 1)) = _
      rw [add_mk]; simp
    show clW _ _ #[.slice (sliceBase (some (⟨g, 0, none⟩ : Addr)) ((i : Int)).toNat ((c : Int)).toNat 1) (((n : Int)).toNat - ((i : Int)).toNat) (((c : Int)).toNat - ((i : Int)).toNat)] _ h2
    rw [e1, e2, e3]
    refine cl_blk (e := TI) (z := .int .i64 0) (by kernel_rfl) zeroI (by simp [Value.cells, Value.oneCell']) hb2 (by simp [Value.cells]; omega) fun h3 b3 o3 => ?_
    refine ⟨⟨by omega, by omega, by omega, by omega⟩, ?_⟩
    have e4 : sliceBase (some (⟨g, 0, none⟩ : Addr)) ((0 : Int)).toNat ((c : Int)).toNat 1 = some ⟨g, 0, none⟩ := by
      unfold sliceBase
      split
      · rfl
      · show some (Addr.add ⟨g, 0, none⟩ (0 * 1)) = _
        rw [add_mk]
    have e5 : ((i : Int)).toNat - ((0 : Int)).toNat = i := by omega
    have e6 : ((c : Int)).toNat - ((0 : Int)).toNat = c := by omega
    rw [e4, e5, e6, ← hi]
    refine ⟨rfl, ?_, UpdO.trans u2 ⟨by rw [o3.size]; exact Nat.le_refl _, fun m hm hne => o3.same m fun e => hne (by rw [e]; rfl)⟩⟩
    refine ⟨by rw [← hyt, List.length_take]; omega, .inr ⟨g, c, _, rfl, Nat.zero_le _, b3, by omega, hcm, ?_, ?_⟩⟩
    · rw [setsA_size]; simpa using hyl
    · rw [← hyt]
      apply List.ext_getElem?
      intro m
      by_cases hm : m < i
      · rw [Nat.mul_one, List.getElem?_take_of_lt hm, List.getElem?_take_of_lt hm, Array.getElem?_toList, setsA_get, if_neg (by omega)]; simp
      · rw [List.getElem?_eq_none (by simp; omega), List.getElem?_eq_none (by simp; omega)]
end Go.Proofs.YticppjmldlhbiaaDoor.Zo
