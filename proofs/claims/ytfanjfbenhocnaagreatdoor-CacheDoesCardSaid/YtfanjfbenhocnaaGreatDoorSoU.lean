/-
  The sort of numbers (slices.Sort at []uint32): what each of its functions makes of a row.
-/
import Derived.Test.YtfanjfbenhocnaaGreatDoorWSoU
import Derived.Test.YtfanjfbenhocnaaGreatDoorLen
import Derived.Sort.WalkB3
import Derived.Sort.WalkA6
import Derived.Sort.WalkC4
import Derived.Sort.AssemblyPlain
namespace Go.Proofs.YtfanjfbenhocnaaGreatDoor.So
open Go.Pl Go.Proofs.YtfanjfbenhocnaaGreatDoor.W Go.Sort
theorem hm' : Tryz.prog.follows .mixedOrders = true := by kernel_rfl
abbrev El : Type := Int
abbrev TE : TypeId := 34
def lt (x y : Int) : Bool := decide (x < y)
theorem swo : SWO lt := ⟨fun x => by unfold lt; simp, fun (x y z : Int) h1 h2 => by unfold lt at *; have := of_decide_eq_true h1; have := of_decide_eq_true h2; exact decide_eq_true (by omega), fun (x y z : Int) h1 h2 => by unfold lt at *; have := of_decide_eq_false h1; have := of_decide_eq_false h2; exact decide_eq_false (by omega)⟩
/-- The row whose block is g holds d in its first n places, of c; from heap h0 on nothing else has turned. -/
structure Rw (h0 h : Heap) (g n c : Nat) (d : Array El) : Prop where
  blk : ∃ A, Blk h g A TE ∧ A.size = c ∧ ∀ i, i < n → A[i]? = some (.int .u32 d[i]!)
  size : d.size = n
  le : n ≤ c
  upd : Upd g h0 h
  big : n ≤ 1000000
theorem swp_get {d : Array El} {i j k : Nat} (hi : i < d.size) (hj : j < d.size) : (swp d j i)[k]! = if k = i then d[j]! else if k = j then d[i]! else d[k]! := by
  unfold swp
  by_cases e : k = i
  · subst e; rw [if_pos rfl, getElem!_set_same _ _ _ (by simpa using hi)]
  · rw [if_neg e, getElem!_set_other _ _ _ _ e]
    by_cases e2 : k = j
    · subst e2; rw [if_pos rfl, getElem!_set_same _ _ _ hj]
    · rw [if_neg e2, getElem!_set_other _ _ _ _ e2]
theorem swp_size (d : Array El) (i j : Nat) : (swp d i j).size = d.size := by simp [swp]
section
variable {h0 h : Heap} {g n c : Nat} {d : Array El}
theorem Rw.new {h' : Heap} (H : Rw h0 h g n c d) (nw : New h h') : Rw h0 h' g n c d := by
  obtain ⟨⟨A, hb, r⟩, s, l, u, b⟩ := H
  exact ⟨⟨A, hb.new nw, r⟩, s, l, u.trans nw.upd, b⟩
/-- What turns a block that was laid since leaves it. -/
theorem Rw.aside {h' : Heap} {q : Nat} (H : Rw h0 h g n c d) (o : Only q h h') (hq : h0.size ≤ q) (hg : q ≠ g) : Rw h0 h' g n c d := by
  obtain ⟨⟨A, hb, r⟩, s, l, u, b⟩ := H
  exact ⟨⟨A, hb.only o (Ne.symm hg), r⟩, s, l, ⟨by rw [o.size]; exact u.size, fun k hk hne => (o.same k (by omega)).trans (u.same k hk hne)⟩, b⟩
theorem sw {i j : Nat} {I J : Int} {K : Heap → Prop} (H : Rw h0 h g n c d) (hi : i < n) (hj : j < n) (hI : I = (i : Int)) (hJ : J = (j : Int)) (hK : ∀ h', Rw h0 h' g n c (swp d j i) → Only g h h' → K h') :
    ptrW (some (⟨g, 0, none⟩ : Addr)) (fun a1 => idxW I n true (ldW (.int .u32) (Addr.add a1 (Int.toNat I * 1)) (fun (x2 : Int) => ptrW (some (⟨g, 0, none⟩ : Addr)) (fun a3 => idxW J n true (ldW (.int .u32) (Addr.add a3 (Int.toNat J * 1)) (fun (x4 : Int) =>
      ptrW (some (⟨g, 0, none⟩ : Addr)) (fun a5 => idxW J n true (stW (Addr.add a5 (Int.toNat J * 1)) (.int .u32 x2) (fun h6 => ptrW (some (⟨g, 0, none⟩ : Addr)) (fun a7 => idxW I n true (stW (Addr.add a7 (Int.toNat I * 1)) (.int .u32 x4) (fun h8 => K h8) h6))) h))) h))) h)) := by
  subst hI; subst hJ
  obtain ⟨⟨A, hb, hA, r⟩, s, l, u, b⟩ := H
  refine ptr_of ⟨⟨by omega, rfl⟩, ld_of (c := .int .u32) d[i]! ?_ (ptr_of ⟨⟨by omega, rfl⟩, ld_of (c := .int .u32) d[j]! ?_ (ptr_of ⟨⟨by omega, rfl⟩, ?_⟩)⟩)⟩
  · rw [add_mk, cellH_blk hb, Int.toNat_natCast, Nat.zero_add, Nat.mul_one]; exact r i hi
  · rw [add_mk, cellH_blk hb, Int.toNat_natCast, Nat.zero_add, Nat.mul_one]; exact r j hj
  rw [add_mk, Int.toNat_natCast, Nat.zero_add, Nat.mul_one]
  refine st_blk hb (by omega) fun h1 b1 o1 => ptr_of ⟨⟨by omega, rfl⟩, ?_⟩
  rw [add_mk, Int.toNat_natCast, Nat.zero_add, Nat.mul_one]
  refine st_blk b1 (by simp; omega) fun h2 b2 o2 => hK h2 ⟨⟨_, b2, by simpa using hA, fun k hk => ?_⟩, by rw [swp_size]; exact s, l, u.trans (o1.upd.trans o2.upd), b⟩ (o1.trans o2)
  rw [swp_get (by omega) (by omega)]
  by_cases e : k = i
  · subst e; rw [if_pos rfl, Array.getElem?_setIfInBounds_self_of_lt (by simp; omega)]
  · rw [if_neg e, Array.getElem?_setIfInBounds_ne (by omega)]
    by_cases e2 : k = j
    · subst e2; rw [if_pos rfl, Array.getElem?_setIfInBounds_self_of_lt (by omega)]
    · rw [if_neg e2, Array.getElem?_setIfInBounds_ne (by omega)]; exact r k hk
theorem nan_ok (x : Int) (h : Heap) : CallsH Tryz.prog 90 [.int .u32 x] h fun v h' => v = .bool false ∧ h' = h := by
  refine fun_ok hm' Tryz.func90 (by kernel_rfl) (F90_eq _ _ h) ?_
  unfold F90
  exact ⟨by simp, rfl⟩
theorem less_ok (x y : Int) (h : Heap) : CallsH Tryz.prog 80 [.int .u32 x, .int .u32 y] h fun v h' => v = .bool (lt x y) ∧ h' = h := by
  refine fun_ok hm' Tryz.func80 (by kernel_rfl) (F80_eq _ _ _ h) ?_
  unfold F80
  refine call_of (nan_ok x h) ?_
  rintro v h' ⟨rfl, hh⟩; subst h'
  exact ⟨false, rfl, br_f rfl ⟨rfl, rfl⟩⟩
theorem ts {i j : Nat} {I J : Int} {K : Bool → Prop} (H : Rw h0 h g n c d) (hi : i < n) (hj : j < n) (hI : I = (i : Int)) (hJ : J = (j : Int)) (hK : K (lt d[i]! d[j]!)) :
    ptrW (some (⟨g, 0, none⟩ : Addr)) (fun a1 => idxW I n true (ldW (.int .u32) (Addr.add a1 (Int.toNat I * 1)) (fun (x2 : Int) => ptrW (some (⟨g, 0, none⟩ : Addr)) (fun a3 => idxW J n true (ldW (.int .u32) (Addr.add a3 (Int.toNat J * 1)) (fun (x4 : Int) =>
      callQ Tryz.prog 80 [.int .u32 x2, .int .u32 x4] [.sc .bool] (fun (r : Bool) => K r) h) h))) h)) := by
  subst hI; subst hJ
  obtain ⟨⟨A, hb, hA, r⟩, s, l, u, b⟩ := H
  refine ptr_of ⟨⟨by omega, rfl⟩, ld_of (c := .int .u32) d[i]! ?_ (ptr_of ⟨⟨by omega, rfl⟩, ld_of (c := .int .u32) d[j]! ?_ ⟨lt d[i]! d[j]!, fun h' _ => less_ok _ _ h', hK⟩⟩)⟩
  · rw [add_mk, cellH_blk hb, Int.toNat_natCast, Nat.zero_add, Nat.mul_one]; exact r i hi
  · rw [add_mk, cellH_blk hb, Int.toNat_natCast, Nat.zero_add, Nat.mul_one]; exact r j hj
end
section
variable {h0 h : Heap} {g n c : Nat} {d : Array El}
/-- A fact that is put aside. -/
structure Hd (p : Prop) : Prop where
  out : p
theorem ins_ok (H : Rw h0 h g n c d) {a b : Nat} (hb : b ≤ n) (hab : a ≤ b) : CallsH Tryz.prog 74 [.slice (some ⟨g, 0, none⟩) n c, .int .i64 (a : Int), .int .i64 (b : Int)] h fun v h' => v = .tuple #[] ∧ Rw h0 h' g n c (insertionSort lt d a b) := by
  refine fun_ok hm' Tryz.func74 (by kernel_rfl) (F74_eq _ _ _ _ _ _ h) ?_
  unfold F74
  have hn := H.big
  refine ⟨fun (s : Int) h' => ∃ (i : Nat) (dk : Array El), s = (i : Int) ∧ a + 1 ≤ i ∧ i ≤ b + 1 ∧ Rw h0 h' g n c dk ∧ insOuter lt a b i dk = insOuter lt a b (a + 1) d, fun (s : Int) _ => ((b : Int) - s).toNat, ⟨a + 1, d, (by first | (rw [wr64 (by omega) (by omega)]; omega) | (simp only [IntKind.wrap_i64]; omega)), Nat.le_refl _, by omega, H, rfl⟩, ?_⟩
  rintro s j0 h1 ⟨i, dk, rfl, hi, hib, H1, he⟩
  refine br_of (fun hlt => ?_) (fun hlt => ?_)
  rotate_left
  · have hlt : ¬ (i : Int) < (b : Int) := of_decide_eq_false hlt
    rw [insOuter_stop _ _ _ _ _ (by omega)] at he
    exact ⟨rfl, by rw [insertionSort, ← he]; exact H1⟩
  have hlt : (i : Int) < (b : Int) := of_decide_eq_true hlt
  refine cut_q (ts := []) (fun _ h' => Rw h0 h' g n c (insInner lt a i dk)) ?_ ?_
  · rintro _ h2 H2 _
    refine ⟨⟨i + 1, _, (by first | (rw [wr64 (by omega) (by omega)]; omega) | (simp only [IntKind.wrap_i64]; omega)), by omega, by omega, H2, ?_⟩, (by dsimp only; first | (rw [wr64 (by omega) (by omega)]; omega) | (rw [wr64 (by omega) (by omega), wr64 (by omega) (by omega)]; omega) | (simp only [IntKind.wrap_i64]; omega))⟩
    rw [← he, insOuter_go _ _ _ _ dk (by omega)]
  intro K hK
  refine ⟨fun (s : Int) h' => ∃ (j : Nat) (dj : Array El), s = (j : Int) ∧ j ≤ i ∧ Rw h0 h' g n c dj ∧ insInner lt a j dj = insInner lt a i dk, fun (s : Int) _ => s.toNat, ⟨i, dk, rfl, Nat.le_refl _, H1, rfl⟩, ?_⟩
  rintro s j1 h2 ⟨j, dj, rfl, hj, H2, he2⟩
  refine cut_q (ts := []) (fun _ h' => Rw h0 h' g n c dj ∧ a < j ∧ lt dj[j]! dj[j - 1]! = true) ?_ ?_
  · rintro _ h3 ⟨H3, haj, hl⟩ _
    refine sw H3 (i := j - 1) (j := j) (by omega) (by omega) (by first | (rw [wr64 (by omega) (by omega)]; omega) | (simp only [IntKind.wrap_i64]; omega)) rfl fun h4 H4 _ => ⟨⟨j - 1, _, (by first | (rw [wr64 (by omega) (by omega)]; omega) | (simp only [IntKind.wrap_i64]; omega)), by omega, H4, ?_⟩, (by dsimp only; first | (rw [wr64 (by omega) (by omega)]; omega) | (rw [wr64 (by omega) (by omega), wr64 (by omega) (by omega)]; omega) | (simp only [IntKind.wrap_i64]; omega))⟩
    rw [← he2, insInner_go _ _ _ dj haj hl]
  intro K2 hK2
  refine br_of (fun hc => ?_) (fun hc => hK () _ ?_)
  · have hc : (j : Int) > (a : Int) := of_decide_eq_true hc
    refine ts H2 (i := j) (j := j - 1) (by omega) (by omega) rfl (by first | (rw [wr64 (by omega) (by omega)]; omega) | (simp only [IntKind.wrap_i64]; omega)) ?_
    refine br_of (fun hl => hK2 () _ ⟨H2, by omega, hl⟩) (fun hl => hK () _ ?_)
    rw [← he2, insInner_stop _ _ _ _ (.inr hl)]; exact H2
  · have hc : ¬ (j : Int) > (a : Int) := of_decide_eq_false hc
    rw [← he2, insInner_stop _ _ _ _ (.inl (by omega))]; exact H2
theorem sift_ok (H : Rw h0 h g n c d) {lo hi first : Nat} (hb : first + hi ≤ n) (hlo : lo ≤ 1000000) : CallsH Tryz.prog 85 [.slice (some ⟨g, 0, none⟩) n c, .int .i64 (lo : Int), .int .i64 (hi : Int), .int .i64 (first : Int)] h fun v h' => v = .tuple #[] ∧ Rw h0 h' g n c (siftDown lt hi first lo d) := by
  refine fun_ok hm' Tryz.func85 (by kernel_rfl) (F85_eq _ _ _ _ _ _ _ h) ?_
  unfold F85
  have hn := H.big
  refine ⟨fun (s : Int) h' => ∃ (r : Nat) (dk : Array El), s = (r : Int) ∧ r ≤ 1000000 ∧ Rw h0 h' g n c dk ∧ siftDown lt hi first r dk = siftDown lt hi first lo d, fun (s : Int) _ => (((1000001 : Nat) : Int) - s).toNat, ⟨lo, d, rfl, hlo, H, rfl⟩, ?_⟩
  rintro s j0 h1 ⟨r, dk, rfl, hr, H1, he⟩
  refine br_of (fun hge => ?_) (fun hge => ?_)
  · have hge := of_decide_eq_true hge
    simp only [IntKind.wrap_i64] at hge
    rw [sd_end _ _ (by omega)] at he
    exact ⟨rfl, by rw [← he]; exact H1⟩
  have hge := of_decide_eq_false hge
  simp only [IntKind.wrap_i64] at hge
  have hlt : 2 * r + 1 < hi := by omega
  refine cut_q (ts := [.sc (.int .i64)]) (fun (s : Int) h' => Rw h0 h' g n c dk ∧ ((2 * r + 2 < hi ∧ lt dk[first + (2 * r + 1)]! dk[first + (2 * r + 2)]! = true ∧ s = ((2 * r + 2 : Nat) : Int)) ∨ ((2 * r + 2 < hi → lt dk[first + (2 * r + 1)]! dk[first + (2 * r + 2)]! = false) ∧ s = ((2 * r + 1 : Nat) : Int)))) ?_ ?_
  rotate_left
  · intro K hK
    refine cut_q (ts := [.sc .bool]) (fun (s : Bool) h' => Rw h0 h' g n c dk ∧ ((2 * r + 2 < hi ∧ lt dk[first + (2 * r + 1)]! dk[first + (2 * r + 2)]! = true ∧ s = true) ∨ ((2 * r + 2 < hi → lt dk[first + (2 * r + 1)]! dk[first + (2 * r + 2)]! = false) ∧ s = false))) ?_ ?_
    · rintro s h2 ⟨H2, hh⟩ _
      refine br_of (fun hs => hK _ _ ⟨H2, ?_⟩) (fun hs => hK _ _ ⟨H2, ?_⟩)
      · rcases hh with ⟨h3, h4, _⟩ | ⟨_, h4⟩
        · exact .inl ⟨h3, h4, (by first | (rw [wr64 (by omega) (by omega)]; omega) | (simp only [IntKind.wrap_i64]; omega))⟩
        · rw [show s = false from h4] at hs; cases hs
      · rcases hh with ⟨_, _, h4⟩ | ⟨h3, _⟩
        · rw [show s = true from h4] at hs; cases hs
        · exact .inr ⟨h3, (by first | (rw [wr64 (by omega) (by omega)]; omega) | (simp only [IntKind.wrap_i64]; omega))⟩
    intro K2 hK2
    refine br_of (fun hc => ?_) (fun hc => hK2 _ _ ⟨H1, .inr ⟨fun h3 => ?_, rfl⟩⟩)
    · have hc := of_decide_eq_true hc
      simp only [IntKind.wrap_i64] at hc
      refine ts H1 (i := first + (2 * r + 1)) (j := first + (2 * r + 2)) (by omega) (by omega) (by first | (rw [wr64 (by omega) (by omega)]; omega) | (simp only [IntKind.wrap_i64]; omega)) (by first | (rw [wr64 (by omega) (by omega)]; omega) | (simp only [IntKind.wrap_i64]; omega)) ?_
      cases hl : lt dk[first + (2 * r + 1)]! dk[first + (2 * r + 2)]! with
      | true => exact hK2 _ _ ⟨H1, .inl ⟨by omega, hl, rfl⟩⟩
      | false => exact hK2 _ _ ⟨H1, .inr ⟨fun _ => hl, rfl⟩⟩
    · have hc := of_decide_eq_false hc
      simp only [IntKind.wrap_i64] at hc
      omega
  rintro s h2 ⟨H2, hh⟩ _
  obtain ⟨ch, hs, hch, hstop, hgo⟩ : ∃ ch : Nat, s = (ch : Int) ∧ (ch < hi ∧ r < ch) ∧ (lt dk[first + r]! dk[first + ch]! = false → siftDown lt hi first r dk = dk) ∧ (lt dk[first + r]! dk[first + ch]! = true → siftDown lt hi first r dk = siftDown lt hi first ch (swp dk (first + r) (first + ch))) := by
    rcases hh with ⟨h3, h4, e⟩ | ⟨h3, e⟩
    · exact ⟨2 * r + 2, e, by omega, fun hl => sd_right_stop _ _ h3 h4 hl, fun hl => sd_right_go _ _ h3 h4 hl⟩
    · exact ⟨2 * r + 1, e, by omega, fun hl => sd_left_stop _ _ hlt h3 hl, fun hl => sd_left_go _ _ hlt h3 hl⟩
  subst hs
  refine ts H2 (i := first + r) (j := first + ch) (by omega) (by omega) (by first | (rw [wr64 (by omega) (by omega)]; omega) | (simp only [IntKind.wrap_i64]; omega)) (by first | (rw [wr64 (by omega) (by omega)]; omega) | (simp only [IntKind.wrap_i64]; omega)) ?_
  refine br_of (fun hl => ?_) (fun hl => ?_)
  · have hl : lt dk[first + r]! dk[first + ch]! = false := by simpa using hl
    rw [hstop hl] at he
    exact ⟨rfl, by rw [← he]; exact H2⟩
  · have hl : lt dk[first + r]! dk[first + ch]! = true := by simpa using hl
    refine sw H2 (i := first + ch) (j := first + r) (by omega) (by omega) (by first | (rw [wr64 (by omega) (by omega)]; omega) | (simp only [IntKind.wrap_i64]; omega)) (by first | (rw [wr64 (by omega) (by omega)]; omega) | (simp only [IntKind.wrap_i64]; omega)) fun h4 H4 _ => ⟨⟨ch, _, rfl, by omega, H4, ?_⟩, (by first | omega | (dsimp only; omega) | (simp only []; omega))⟩
    rw [← he, hgo hl]
theorem heap_ok (H : Rw h0 h g n c d) {a b : Nat} (hb : b ≤ n) (hab : a ≤ b) : CallsH Tryz.prog 75 [.slice (some ⟨g, 0, none⟩) n c, .int .i64 (a : Int), .int .i64 (b : Int)] h fun v h' => v = .tuple #[] ∧ Rw h0 h' g n c (heapSort lt d a b) := by
  refine fun_ok hm' Tryz.func75 (by kernel_rfl) (F75_eq _ _ _ _ _ _ h) ?_
  unfold F75
  have hn := H.big
  have ew : IntKind.wrap .i64 ((b : Int) - (a : Int)) = ((b - a : Nat) : Int) := (by first | (rw [wr64 (by omega) (by omega)]; omega) | (simp only [IntKind.wrap_i64]; omega))
  have es : IntKind.wrap .i64 (Int.tdiv (IntKind.wrap .i64 (IntKind.wrap .i64 ((b : Int) - (a : Int)) - 1)) 2) = (((b - a - 1) / 2 + 1 : Nat) : Int) - 1 := by
    have := half_start hab
    rw [ew, show IntKind.wrap .i64 (((b - a : Nat) : Int) - 1) = (b : Int) - (a : Int) - 1 by rw [wr64 (by omega) (by omega)]; omega, this]
    simp only [IntKind.wrap_i64]; omega
  refine ⟨fun (s : Int) h' => ∃ (k : Nat) (dk : Array El), s = (k : Int) - 1 ∧ k ≤ (b - a - 1) / 2 + 1 ∧ Rw h0 h' g n c dk ∧ heapBuild lt (b - a) a k dk = heapBuild lt (b - a) a ((b - a - 1) / 2 + 1) d, fun (s : Int) _ => (s + 1).toNat, ⟨_, d, es, Nat.le_refl _, H, rfl⟩, ?_⟩
  rintro s j0 h1 ⟨k, dk, rfl, hk, H1, he⟩
  refine br_of (fun hge => ?_) (fun hge => ?_)
  · have hge : (k : Int) - 1 ≥ 0 := of_decide_eq_true hge
    obtain ⟨k, rfl⟩ : ∃ q, k = q + 1 := ⟨k - 1, by omega⟩
    rw [ew, show ((k + 1 : Nat) : Int) - 1 = (k : Int) by omega]
    refine call_of (sift_ok H1 (lo := k) (hi := b - a) (first := a) (by omega) (by omega)) ?_
    rintro v h2 ⟨rfl, H2⟩
    refine ⟨(), rfl, ⟨k, _, (by first | (rw [wr64 (by omega) (by omega)]; omega) | (simp only [IntKind.wrap_i64]; omega)), by omega, H2, ?_⟩, (by dsimp only; first | (rw [wr64 (by omega) (by omega)]; omega) | (rw [wr64 (by omega) (by omega), wr64 (by omega) (by omega)]; omega) | (simp only [IntKind.wrap_i64]; omega))⟩
    rw [← he]; rfl
  have hge : ¬ (k : Int) - 1 ≥ 0 := of_decide_eq_false hge
  have hk0 : k = 0 := by omega
  subst hk0
  have he : dk = heapBuild lt (b - a) a ((b - a - 1) / 2 + 1) d := he
  refine ⟨fun (s : Int) h' => ∃ (k : Nat) (dj : Array El), s = (k : Int) - 1 ∧ k ≤ b - a ∧ Rw h0 h' g n c dj ∧ heapPop lt a k dj = heapPop lt a (b - a) dk, fun (s : Int) _ => (s + 1).toNat, ⟨b - a, dk, by rw [ew]; simp only [IntKind.wrap_i64]; omega, Nat.le_refl _, H1, rfl⟩, ?_⟩
  rintro s j1 h2 ⟨k, dj, rfl, hk2, H2, he2⟩
  refine br_of (fun hge2 => ?_) (fun hge2 => ?_)
  · have hge2 : (k : Int) - 1 ≥ 0 := of_decide_eq_true hge2
    obtain ⟨k, rfl⟩ : ∃ q, k = q + 1 := ⟨k - 1, by omega⟩
    rw [show ((k + 1 : Nat) : Int) - 1 = (k : Int) by omega]
    refine sw H2 (i := a + k) (j := a) (by omega) (by omega) (by first | (rw [wr64 (by omega) (by omega)]; omega) | (simp only [IntKind.wrap_i64]; omega)) rfl fun h3 H3 _ => ?_
    refine call_of (sift_ok H3 (lo := 0) (hi := k) (first := a) (by omega) (by omega)) ?_
    rintro v h4 ⟨rfl, H4⟩
    refine ⟨(), rfl, ⟨k, _, (by first | (rw [wr64 (by omega) (by omega)]; omega) | (simp only [IntKind.wrap_i64]; omega)), by omega, H4, ?_⟩, (by dsimp only; first | (rw [wr64 (by omega) (by omega)]; omega) | (rw [wr64 (by omega) (by omega), wr64 (by omega) (by omega)]; omega) | (simp only [IntKind.wrap_i64]; omega))⟩
    rw [← he2]; rfl
  · have hge2 : ¬ (k : Int) - 1 ≥ 0 := of_decide_eq_false hge2
    have hk0 : k = 0 := by omega
    subst hk0
    have he2 : dj = heapPop lt a (b - a) dk := he2
    exact ⟨rfl, by rw [heapSort, ← he, ← he2]; exact H2⟩
theorem rev_ok (H : Rw h0 h g n c d) {a b : Nat} (hb : b ≤ n) (hab : a < b) : CallsH Tryz.prog 78 [.slice (some ⟨g, 0, none⟩) n c, .int .i64 (a : Int), .int .i64 (b : Int)] h fun v h' => v = .tuple #[] ∧ Rw h0 h' g n c (reverseRange d a b) := by
  refine fun_ok hm' Tryz.func78 (by kernel_rfl) (F78_eq _ _ _ _ _ _ h) ?_
  unfold F78
  have hn := H.big
  refine ⟨fun (s : Int × Int) h' => ∃ (i j : Nat) (dk : Array El), s = ((i : Int), (j : Int)) ∧ j < b ∧ Rw h0 h' g n c dk ∧ reverseLoop i j dk = reverseLoop a (b - 1) d, fun (s : Int × Int) _ => (s.2 - s.1).toNat, ⟨a, b - 1, d, by rw [show IntKind.wrap .i64 ((b : Int) - 1) = ((b - 1 : Nat) : Int) by rw [wr64 (by omega) (by omega)]; omega]; rfl, by omega, H, rfl⟩, ?_⟩
  rintro s j0 h1 ⟨i, j, dk, rfl, hj, H1, he⟩
  refine br_of (fun hlt => ?_) (fun hlt => ?_)
  · have hlt : (i : Int) < (j : Int) := of_decide_eq_true hlt
    refine sw H1 (i := j) (j := i) (by omega) (by omega) rfl rfl fun h2 H2 _ => ⟨⟨i + 1, j - 1, _, ?_, by omega, H2, ?_⟩, ?_⟩
    · rw [show IntKind.wrap .i64 ((i : Int) + 1) = ((i + 1 : Nat) : Int) by rw [wr64 (by omega) (by omega)]; omega, show IntKind.wrap .i64 ((j : Int) - 1) = ((j - 1 : Nat) : Int) by rw [wr64 (by omega) (by omega)]; omega]
    · rw [← he]; conv => rhs; rw [reverseLoop, if_pos (by omega)]
    · simp only [IntKind.wrap_i64]; omega
  · have hlt : ¬ (i : Int) < (j : Int) := of_decide_eq_false hlt
    rw [reverseLoop, if_neg (by omega)] at he
    exact ⟨rfl, by rw [reverseRange, ← he]; exact H1⟩
set_option maxHeartbeats 800000 in
theorem scanS_ok (H : Rw h0 h g n c d) {a b : Nat} (hb : b ≤ n) (hab : a < b) : CallsH Tryz.prog 79 [.slice (some ⟨g, 0, none⟩) n c, .int .i64 (a : Int), .int .i64 (b : Int)] h fun v h' => v = .bool (partialInsertionSort lt d a b).2 ∧ Rw h0 h' g n c (partialInsertionSort lt d a b).1 := by
  refine fun_ok hm' Tryz.func79 (by kernel_rfl) (F79_eq _ _ _ _ _ _ h) ?_
  unfold F79
  have hn := H.big
  refine ⟨fun (s : Int × Int) h' => ∃ (i k : Nat) (dk : Array El), s = ((i : Int), (k : Int)) ∧ a + 1 ≤ i ∧ i ≤ b ∧ k ≤ 5 ∧ Rw h0 h' g n c dk ∧ partialIns lt a b (5 - k) i dk = partialIns lt a b 5 (a + 1) d, fun (s : Int × Int) _ => (5 - s.2).toNat, ⟨a + 1, 0, d, by rw [show IntKind.wrap .i64 ((a : Int) + 1) = ((a + 1 : Nat) : Int) by rw [wr64 (by omega) (by omega)]; omega]; rfl, by omega, by omega, by omega, H, rfl⟩, ?_⟩
  rintro s j0 h1 ⟨i, k, dk, rfl, hi, hib, hk, H1, he⟩
  refine br_of (fun hlt => ?_) (fun hlt => ?_)
  rotate_left
  · have hlt : ¬ (k : Int) < 5 := of_decide_eq_false hlt
    have : k = 5 := by omega
    subst this
    rw [pi_end] at he
    exact ⟨by rw [partialInsertionSort, ← he], by rw [partialInsertionSort, ← he]; exact H1⟩
  have hlt : (k : Int) < 5 := of_decide_eq_true hlt
  refine cut_q (ts := [.sc (.int .i64)]) (fun (s : Int) h' => ∃ (i' : Nat) (dj : Array El), s = (i' : Int) ∧ a + 1 ≤ i' ∧ i' ≤ b ∧ Rw h0 h' g n c dj ∧ partialIns lt a b (5 - (k + 1)) i' dj = partialIns lt a b 5 (a + 1) d) ?_ ?_
  · rintro s h2 ⟨i', dj, hs, h3, h4, H2, he2⟩ _
    refine ⟨⟨i', k + 1, dj, ?_, h3, h4, by omega, H2, he2⟩, (by dsimp only; first | (rw [wr64 (by omega) (by omega)]; omega) | (rw [wr64 (by omega) (by omega), wr64 (by omega) (by omega)]; omega) | (simp only [IntKind.wrap_i64]; omega))⟩
    rw [show IntKind.wrap .i64 ((k : Int) + 1) = ((k + 1 : Nat) : Int) by rw [wr64 (by omega) (by omega)]; omega, show s = (i' : Int) from hs]
  intro K hK
  obtain ⟨q, hq⟩ : ∃ q, Hd (scanSorted lt dk b i = q) := ⟨_, ⟨rfl⟩⟩
  refine cut_q (ts := [.sc (.int .i64)]) (fun (s : Int) h' => s = (q : Int) ∧ q ≤ b ∧ i ≤ q ∧ Rw h0 h' g n c dk) ?_ ?_
  rotate_left
  · intro K2 hK2
    refine ⟨fun (s : Int) h' => ∃ z : Nat, s = (z : Int) ∧ i ≤ z ∧ z ≤ b ∧ Rw h0 h' g n c dk ∧ Hd (scanSorted lt dk b z = q), fun (s : Int) _ => ((b : Int) - s).toNat, ⟨i, rfl, Nat.le_refl _, hib, H1, hq⟩, ?_⟩
    rintro s j1 h2 ⟨z, rfl, hz, hzb, H2, he2⟩
    refine cut_q (ts := []) (fun _ h' => Rw h0 h' g n c dk ∧ z < b ∧ lt dk[z]! dk[z - 1]! = false) ?_ ?_
    · rintro _ h3 ⟨H3, h4, hl⟩ _
      exact ⟨⟨z + 1, (by first | (rw [wr64 (by omega) (by omega)]; omega) | (simp only [IntKind.wrap_i64]; omega)), by omega, by omega, H3, ⟨by rw [← he2.out, scanSorted_go _ dk _ _ h4 hl]⟩⟩, (by dsimp only; first | (rw [wr64 (by omega) (by omega)]; omega) | (rw [wr64 (by omega) (by omega), wr64 (by omega) (by omega)]; omega) | (simp only [IntKind.wrap_i64]; omega))⟩
    intro K3 hK3
    refine br_of (fun hc => ?_) (fun hc => hK2 _ _ ?_)
    · have hc : (z : Int) < (b : Int) := of_decide_eq_true hc
      refine ts H2 (i := z) (j := z - 1) (by omega) (by omega) rfl (by first | (rw [wr64 (by omega) (by omega)]; omega) | (simp only [IntKind.wrap_i64]; omega)) ?_
      refine br_of (fun hl => hK3 () _ ⟨H2, by omega, by simpa using hl⟩) (fun hl => hK2 _ _ ?_)
      have he2 := he2.out
      rw [scanSorted_stop _ _ _ _ (.inr (by simpa using hl))] at he2
      subst he2
      exact ⟨rfl, by omega, by omega, H2⟩
    · have hc : ¬ (z : Int) < (b : Int) := of_decide_eq_false hc
      have he2 := he2.out
      rw [scanSorted_stop _ _ _ _ (.inl (by omega))] at he2
      subst he2
      exact ⟨rfl, by omega, by omega, H2⟩
  rintro s h2 ⟨hs, hq1, hq2, H2⟩ _
  have hs : s = (q : Int) := hs
  subst hs
  refine br_of (fun hqb => ?_) (fun hqb => br_of (fun h50 => ?_) fun h50 => ?_)
  · have hqb : (q : Int) = (b : Int) := by simpa using hqb
    rw [pi_true _ _ _ _ _ _ (by omega) (hq.out.trans (by omega))] at he
    exact ⟨by rw [partialInsertionSort, ← he], by rw [partialInsertionSort, ← he]; exact H2⟩
  · have hqb : (q : Int) ≠ (b : Int) := by simpa using hqb
    have h50 := of_decide_eq_true h50
    simp only [IntKind.wrap_i64] at h50
    rw [pi_short _ _ _ _ _ _ (by omega) (by rw [hq.out]; omega) (by omega)] at he
    exact ⟨by rw [partialInsertionSort, ← he], by rw [partialInsertionSort, ← he]; exact H2⟩
  have hqb : (q : Int) ≠ (b : Int) := by simpa using hqb
  have h50 := of_decide_eq_false h50
  simp only [IntKind.wrap_i64] at h50
  rw [pi_go _ _ _ _ _ q _ (by omega) hq.out (by omega) (by omega)] at he
  refine sw H2 (i := q - 1) (j := q) (by omega) (by omega) (by first | (rw [wr64 (by omega) (by omega)]; omega) | (simp only [IntKind.wrap_i64]; omega)) rfl fun h3 H3 _ => ?_
  refine cut_q (ts := []) (fun _ h' => Rw h0 h' g n c (fixDown lt a q (swp dk q (q - 1)))) ?_ ?_
  rotate_left
  · intro K2 hK2
    refine br_of (fun h2a => ?_) (fun h2a => hK2 () _ ?_)
    · have h2a := of_decide_eq_true h2a
      simp only [IntKind.wrap_i64] at h2a
      have ef : fixDown lt a q (swp dk q (q - 1)) = shiftDown lt (q - 1) (swp dk q (q - 1)) := if_pos (by omega)
      refine ⟨fun (s : Int) h' => ∃ (j : Nat) (dj : Array El), s = (j : Int) ∧ j < n ∧ Rw h0 h' g n c dj ∧ shiftDown lt j dj = shiftDown lt (q - 1) (swp dk q (q - 1)), fun (s : Int) _ => s.toNat, ⟨q - 1, _, (by first | (rw [wr64 (by omega) (by omega)]; omega) | (simp only [IntKind.wrap_i64]; omega)), by omega, H3, rfl⟩, ?_⟩
      rintro s j1 h4 ⟨j, dj, rfl, hj, H4, he4⟩
      refine br_of (fun hc => ?_) (fun hc => hK2 () _ ?_)
      · have hc : (j : Int) ≥ 1 := of_decide_eq_true hc
        refine ts H4 (i := j) (j := j - 1) (by omega) (by omega) rfl (by first | (rw [wr64 (by omega) (by omega)]; omega) | (simp only [IntKind.wrap_i64]; omega)) ?_
        refine br_of (fun hl => hK2 () _ ?_) (fun hl => ?_)
        · rw [shiftDown_stop _ _ _ (.inr (by simpa using hl))] at he4
          rw [ef, ← he4]; exact H4
        · refine sw H4 (i := j - 1) (j := j) (by omega) (by omega) (by first | (rw [wr64 (by omega) (by omega)]; omega) | (simp only [IntKind.wrap_i64]; omega)) rfl fun h5 H5 _ => ⟨⟨j - 1, _, (by first | (rw [wr64 (by omega) (by omega)]; omega) | (simp only [IntKind.wrap_i64]; omega)), by omega, H5, ?_⟩, (by dsimp only; first | (rw [wr64 (by omega) (by omega)]; omega) | (rw [wr64 (by omega) (by omega), wr64 (by omega) (by omega)]; omega) | (simp only [IntKind.wrap_i64]; omega))⟩
          rw [← he4, shiftDown_go _ _ dj (by omega) (by simpa using hl)]
      · have hc : ¬ (j : Int) ≥ 1 := of_decide_eq_false hc
        rw [shiftDown_stop _ _ _ (.inl (by omega))] at he4
        rw [ef, ← he4]; exact H4
    · have h2a := of_decide_eq_false h2a
      simp only [IntKind.wrap_i64] at h2a
      have ef : fixDown lt a q (swp dk q (q - 1)) = swp dk q (q - 1) := if_neg (by omega)
      rw [ef]; exact H3
  rintro _ h4 H4 _
  generalize fixDown lt a q (swp dk q (q - 1)) = dm at he H4
  refine br_of (fun h2b => ?_) (fun h2b => hK _ _ ⟨q, dm, rfl, by omega, hq1, H4, ?_⟩)
  · have h2b := of_decide_eq_true h2b
    simp only [IntKind.wrap_i64] at h2b
    have ef : fixUp lt b q dm = shiftUp lt b (q + 1) dm := if_pos (by omega)
    rw [ef] at he
    refine ⟨fun (s : Int) h' => ∃ (j : Nat) (dj : Array El), s = (j : Int) ∧ q + 1 ≤ j ∧ j ≤ b ∧ Rw h0 h' g n c dj ∧ shiftUp lt b j dj = shiftUp lt b (q + 1) dm, fun (s : Int) _ => ((b : Int) - s).toNat, ⟨q + 1, _, (by first | (rw [wr64 (by omega) (by omega)]; omega) | (simp only [IntKind.wrap_i64]; omega)), Nat.le_refl _, by omega, H4, rfl⟩, ?_⟩
    rintro s j1 h5 ⟨j, dj, rfl, hj, hjb, H5, he5⟩
    refine br_of (fun hc => ?_) (fun hc => hK _ _ ⟨q, dj, rfl, by omega, hq1, H5, ?_⟩)
    · have hc : (j : Int) < (b : Int) := of_decide_eq_true hc
      refine ts H5 (i := j) (j := j - 1) (by omega) (by omega) rfl (by first | (rw [wr64 (by omega) (by omega)]; omega) | (simp only [IntKind.wrap_i64]; omega)) ?_
      refine br_of (fun hl => hK _ _ ⟨q, dj, rfl, by omega, hq1, H5, ?_⟩) (fun hl => ?_)
      · rw [shiftUp_stop _ _ _ _ (.inr (by simpa using hl))] at he5
        rw [he5]; exact he
      · have e1 : IntKind.wrap .i64 ((j : Int) + 1) = ((j + 1 : Nat) : Int) := (by first | (rw [wr64 (by omega) (by omega)]; omega) | (simp only [IntKind.wrap_i64]; omega))
        rw [e1]
        have m1 : ((b : Int) - ((j + 1 : Nat) : Int)).toNat < ((b : Int) - (j : Int)).toNat := by omega
        have g1 : shiftUp lt b (j + 1) (swp dj j (j - 1)) = shiftUp lt b (q + 1) dm := by rw [← he5, shiftUp_go _ _ _ dj (by omega) (by simpa using hl)]
        exact sw H5 (i := j - 1) (j := j) (by omega) (by omega) (by first | (rw [wr64 (by omega) (by omega)]; omega) | (simp only [IntKind.wrap_i64]; omega)) rfl fun h6 H6 _ => ⟨⟨j + 1, _, rfl, by omega, by omega, H6, g1⟩, m1⟩
    · have hc : ¬ (j : Int) < (b : Int) := of_decide_eq_false hc
      rw [shiftUp_stop _ _ _ _ (.inl (by omega))] at he5
      rw [he5]; exact he
  · have h2b := of_decide_eq_false h2b
    simp only [IntKind.wrap_i64] at h2b
    have ef : fixUp lt b q dm = dm := if_neg (by omega)
    rw [ef] at he; exact he
end
section
variable {h0 h : Heap} {g n c : Nat} {d : Array El}
theorem zeroI1 : zeroC Tryz.prog 3 = #[.int .i64 0] := by kernel_rfl
theorem zeroX1 : zeroC Tryz.prog 152 = #[.int .u64 0] := by kernel_rfl
theorem ord2_ok (H : Rw h0 h g n c d) {a b q : Nat} {x : Int} (ha : a < n) (hb : b < n) (hq : h0.size ≤ q) (hg : q ≠ g) (B : Blk h q #[.int .i64 x] 3) : CallsH Tryz.prog 91 [.slice (some ⟨g, 0, none⟩) n c, .int .i64 (a : Int), .int .i64 (b : Int), .pointer (some ⟨q, 0, none⟩)] h
    fun v h' => ∃ a' b' : Nat, v = .tuple #[.int .i64 (a' : Int), .int .i64 (b' : Int)] ∧ (a' = a ∨ a' = b) ∧ (b' = a ∨ b' = b) ∧ Rw h0 h' g n c d ∧ ∃ y, Blk h' q #[.int .i64 y] 3 := by
  refine fun_ok hm' Tryz.func91 (by kernel_rfl) (F91_eq _ _ _ _ _ _ _ h) ?_
  unfold F91
  refine ts H (i := b) (j := a) hb ha rfl rfl ?_
  refine br_of (fun _ => ?_) (fun _ => ⟨a, b, rfl, .inl rfl, .inr rfl, H, x, B⟩)
  refine ld_of (c := .int .i64) x (by rw [cellH_blk B]; rfl) (st_blk B (by show 0 < 1; omega) fun h2 b2 o2 => ⟨b, a, rfl, .inr rfl, .inl rfl, H.aside o2 hq hg, _, b2⟩)
theorem med_ok (H : Rw h0 h g n c d) {a b e q : Nat} {x : Int} (ha : a < n) (hb : b < n) (he : e < n) (hq : h0.size ≤ q) (hg : q ≠ g) (B : Blk h q #[.int .i64 x] 3) : CallsH Tryz.prog 89 [.slice (some ⟨g, 0, none⟩) n c, .int .i64 (a : Int), .int .i64 (b : Int), .int .i64 (e : Int), .pointer (some ⟨q, 0, none⟩)] h
    fun v h' => ∃ m : Nat, v = .int .i64 (m : Int) ∧ (m = a ∨ m = b ∨ m = e) ∧ Rw h0 h' g n c d ∧ ∃ y, Blk h' q #[.int .i64 y] 3 := by
  refine fun_ok hm' Tryz.func89 (by kernel_rfl) (F89_eq _ _ _ _ _ _ _ _ h) ?_
  unfold F89
  refine call_of (ord2_ok H ha hb hq hg B) ?_
  rintro v h1 ⟨a1, b1, rfl, r1, r2, H1, x1, B1⟩
  refine ⟨((a1 : Int), (b1 : Int)), rfl, call_of (ord2_ok H1 (a := b1) (b := e) (by omega) he hq hg B1) ?_⟩
  rintro v h2 ⟨a2, b2, rfl, r3, r4, H2, x2, B2⟩
  refine ⟨((a2 : Int), (b2 : Int)), rfl, call_of (ord2_ok H2 (a := a1) (b := a2) (by omega) (by omega) hq hg B2) ?_⟩
  rintro v h3 ⟨a3, b3, rfl, r5, r6, H3, x3, B3⟩
  exact ⟨((a3 : Int), (b3 : Int)), rfl, b3, rfl, by omega, H3, x3, B3⟩
theorem medadj_ok (H : Rw h0 h g n c d) {a q : Nat} {x : Int} (ha : 1 ≤ a ∧ a + 1 < n) (hq : h0.size ≤ q) (hg : q ≠ g) (B : Blk h q #[.int .i64 x] 3) : CallsH Tryz.prog 88 [.slice (some ⟨g, 0, none⟩) n c, .int .i64 (a : Int), .pointer (some ⟨q, 0, none⟩)] h
    fun v h' => ∃ m : Nat, v = .int .i64 (m : Int) ∧ a ≤ m + 1 ∧ m ≤ a + 1 ∧ Rw h0 h' g n c d ∧ ∃ y, Blk h' q #[.int .i64 y] 3 := by
  refine fun_ok hm' Tryz.func88 (by kernel_rfl) (F88_eq _ _ _ _ _ _ h) ?_
  unfold F88
  have hn := H.big
  rw [show IntKind.wrap .i64 ((a : Int) - 1) = ((a - 1 : Nat) : Int) by rw [wr64 (by omega) (by omega)]; omega, show IntKind.wrap .i64 ((a : Int) + 1) = ((a + 1 : Nat) : Int) by rw [wr64 (by omega) (by omega)]; omega]
  refine call_of (med_ok H (a := a - 1) (b := a) (e := a + 1) (by omega) (by omega) (by omega) hq hg B) ?_
  rintro v h1 ⟨m, rfl, r1, H1, B1⟩
  exact ⟨(m : Int), rfl, m, rfl, by omega, by omega, H1, B1⟩
set_option maxHeartbeats 800000 in
theorem choose_ok (H : Rw h0 h g n c d) {a b : Nat} (hb : b ≤ n) (hab : a < b) : CallsH Tryz.prog 77 [.slice (some ⟨g, 0, none⟩) n c, .int .i64 (a : Int), .int .i64 (b : Int)] h
    fun v h' => ∃ (p' : Nat) (t : Int), v = .tuple #[.int .i64 (p' : Int), .int .i64 t] ∧ a ≤ p' ∧ p' < b ∧ Rw h0 h' g n c d := by
  refine fun_ok hm' Tryz.func77 (by kernel_rfl) (F77_eq _ _ _ _ _ _ h) ?_
  unfold F77
  rw [zeroI1]
  have hn := H.big
  refine new_of fun h1 b1 n1 s1 => ?_
  have H1 := H.new n1
  have hq : h0.size ≤ h.size := H.upd.size
  have hg : h.size ≠ g := by obtain ⟨A, hb, _⟩ := H.blk; have := hb.lt; omega
  have ew : IntKind.wrap .i64 ((b : Int) - (a : Int)) = ((b - a : Nat) : Int) := (by first | (rw [wr64 (by omega) (by omega)]; omega) | (simp only [IntKind.wrap_i64]; omega))
  have e4 : IntKind.wrap .i64 (Int.tdiv (((b - a : Nat) : Int)) 4) = (((b - a) / 4 : Nat) : Int) := by rw [show (4 : Int) = ((4 : Nat) : Int) from rfl, tdiv_nat, wr64 (by omega) (by omega)]
  have em : ∀ k : Nat, k ≤ 3 → IntKind.wrap .i64 ((a : Int) + IntKind.wrap .i64 ((((b - a) / 4 : Nat) : Int) * (k : Int))) = ((a + (b - a) / 4 * k : Nat) : Int) := fun k hk => by
    have : (b - a) / 4 * k ≤ (b - a) / 4 * 3 := Nat.mul_le_mul_left _ hk
    have e : (((b - a) / 4 : Nat) : Int) * (k : Int) = (((b - a) / 4 * k : Nat) : Int) := by simp
    rw [e]; generalize (b - a) / 4 * k = z at *; rw [wr64 (n := (z : Int)) (by omega) (by omega), wr64 (by omega) (by omega)]; omega
  have em1 := em 1 (by omega); have em2 := em 2 (by omega); have em3 := em 3 (by omega)
  simp only [ew, e4]
  rw [show (1 : Int) = ((1 : Nat) : Int) from rfl] at *
  rw [show (2 : Int) = ((2 : Nat) : Int) from rfl] at *
  rw [show (3 : Int) = ((3 : Nat) : Int) from rfl] at *
  simp only [em1, em2, em3]
  refine cut_q (ts := [.sc (.int .i64)]) (fun (s : Int) h' => ∃ p' : Nat, s = (p' : Int) ∧ a ≤ p' ∧ p' < b ∧ Rw h0 h' g n c d ∧ ∃ y, Blk h' h.size #[.int .i64 y] 3) ?_ ?_
  · rintro s h2 ⟨p', hs, hp1, hp2, H2, y, B2⟩ _
    have hs : s = (p' : Int) := hs
    subst hs
    refine ld_of (c := .int .i64) y (by rw [cellH_blk B2]; rfl) (br_of (fun _ => ⟨p', _, rfl, hp1, hp2, H2⟩) fun _ => br_of (fun _ => ⟨p', _, rfl, hp1, hp2, H2⟩) fun _ => ⟨p', _, rfl, hp1, hp2, H2⟩)
  intro K hK
  refine br_of (fun h8 => ?_) (fun h8 => hK _ _ ⟨a + (b - a) / 4 * 2, rfl, by omega, by omega, H1, 0, b1⟩)
  have h8 : ((b - a : Nat) : Int) ≥ 8 := of_decide_eq_true h8
  refine cut_q (ts := [.sc (.int .i64), .sc (.int .i64), .sc (.int .i64)]) (fun (s : Int × Int × Int) h' => ∃ i j k : Nat, s = ((i : Int), (j : Int), (k : Int)) ∧ (a ≤ i ∧ i < b) ∧ (a ≤ j ∧ j < b) ∧ (a ≤ k ∧ k < b) ∧ Rw h0 h' g n c d ∧ ∃ y, Blk h' h.size #[.int .i64 y] 3) ?_ ?_
  · rintro s h2 ⟨i, j, k, hs, hi, hj, hk, H2, y, B2⟩ _
    have hs : s = ((i : Int), (j : Int), (k : Int)) := hs
    subst hs
    refine call_of (med_ok H2 (a := i) (b := j) (e := k) (by omega) (by omega) (by omega) hq hg B2) ?_
    rintro v h3 ⟨m, rfl, hm, H3, B3⟩
    exact ⟨(m : Int), rfl, hK _ _ ⟨m, rfl, by omega, by omega, H3, B3⟩⟩
  intro K2 hK2
  refine br_of (fun h50 => ?_) (fun h50 => hK2 _ _ ⟨_, _, _, rfl, by omega, by omega, by omega, H1, 0, b1⟩)
  have h50 : ((b - a : Nat) : Int) ≥ 50 := of_decide_eq_true h50
  refine call_of (medadj_ok H1 (a := a + (b - a) / 4 * 1) (by omega) hq hg b1) ?_
  rintro v h2 ⟨i, rfl, hi1, hi2, H2, y2, B2⟩
  refine ⟨(i : Int), rfl, call_of (medadj_ok H2 (a := a + (b - a) / 4 * 2) (by omega) hq hg B2) ?_⟩
  rintro v h3 ⟨j, rfl, hj1, hj2, H3, y3, B3⟩
  refine ⟨(j : Int), rfl, call_of (medadj_ok H3 (a := a + (b - a) / 4 * 3) (by omega) hq hg B3) ?_⟩
  rintro v h4 ⟨k, rfl, hk1, hk2, H4, B4⟩
  exact ⟨(k : Int), rfl, hK2 _ _ ⟨i, j, k, rfl, by omega, by omega, by omega, H4, B4⟩⟩
theorem next_ok {h : Heap} {q : Nat} {x : Int} {X : TypeId} (B : Blk h q #[.int .u64 x] X) : CallsH Tryz.prog 87 [.pointer (some ⟨q, 0, none⟩)] h fun v h' => ∃ y z : Int, v = .int .u64 y ∧ Blk h' q #[.int .u64 z] X ∧ Only q h h' := by
  refine fun_ok hm' Tryz.func87 (by kernel_rfl) (F87_eq _ _ h) ?_
  unfold F87
  refine ld_of (c := .int .u64) x (by rw [cellH_blk B]; rfl) (ld_of (c := .int .u64) x (by rw [cellH_blk B]; rfl) (st_blk B (by show 0 < 1; omega) fun h1 b1 o1 => ?_))
  refine ld_of (c := .int .u64) _ (by rw [cellH_blk b1]; rfl) (ld_of (c := .int .u64) _ (by rw [cellH_blk b1]; rfl) (st_blk b1 (by show 0 < 1; omega) fun h2 b2 o2 => ?_))
  refine ld_of (c := .int .u64) _ (by rw [cellH_blk b2]; rfl) (ld_of (c := .int .u64) _ (by rw [cellH_blk b2]; rfl) (st_blk b2 (by show 0 < 1; omega) fun h3 b3 o3 => ?_))
  exact ld_of (c := .int .u64) _ (by rw [cellH_blk b3]; rfl) ⟨_, _, rfl, b3, (o1.trans o2).trans o3⟩
theorem pow_ok (L : Nat) (hL : 0 < L) (hx : L < 256) (h : Heap) : CallsH Tryz.prog 86 [.int .i64 (L : Int)] h fun v h' => h' = h ∧ ∃ m : Int, v = .int .u64 m ∧ 1 ≤ m ∧ m ≤ 2 * (L : Int) := by
  refine fun_ok hm' Tryz.func86 (by kernel_rfl) (F86_eq _ _ h) ?_
  unfold F86
  rw [show IntKind.wrap .u64 (L : Int) = (L : Int) by simp [IntKind.wrap, IntKind.bits, IntKind.signed]; omega]
  refine call_of (Len.len_ok L hx h) ?_
  rintro v h' ⟨hh, t, rfl, h8, h1, h2⟩; subst h'
  have h2 := h2 hL
  have hp := Nat.two_pow_pos t
  refine ⟨(t : Int), rfl, ck_t (decide_eq_true (by omega)) ⟨rfl, (2 ^ t : Nat), ?_, by omega, by omega⟩⟩
  congr 1
  rw [Int.toNat_natCast, Nat.min_eq_left (by omega), Int.one_mul]
  have e : ((2 : Int) ^ t) = ((2 ^ t : Nat) : Int) := by simp
  rw [e]
  simp [IntKind.wrap, IntKind.bits, IntKind.signed]; omega
theorem brk_ok (H : Rw h0 h g n c d) {a b : Nat} (hb : b ≤ n) (hab : a ≤ b) (h255 : n < 256) : CallsH Tryz.prog 76 [.slice (some ⟨g, 0, none⟩) n c, .int .i64 (a : Int), .int .i64 (b : Int)] h fun v h' => v = .tuple #[] ∧ ∃ d', PermIn a b d d' ∧ Rw h0 h' g n c d' := by
  refine fun_ok hm' Tryz.func76 (by kernel_rfl) (F76_eq _ _ _ _ _ _ h) ?_
  unfold F76
  rw [zeroX1]
  have ew : IntKind.wrap .i64 ((b : Int) - (a : Int)) = ((b - a : Nat) : Int) := (by first | (rw [wr64 (by omega) (by omega)]; omega) | (simp only [IntKind.wrap_i64]; omega))
  rw [ew]
  refine br_of (fun h8 => ?_) (fun _ => ⟨rfl, d, permIn_refl _ _ _, H⟩)
  have h8 : ((b - a : Nat) : Int) ≥ 8 := of_decide_eq_true h8
  refine new_of fun h1 b1 n1 s1 => ?_
  have H1 := H.new n1
  have hq : h0.size ≤ h.size := H.upd.size
  have hg : h.size ≠ g := by obtain ⟨A, hb, _⟩ := H.blk; have := hb.lt; omega
  refine st_blk b1 (by show 0 < 1; omega) fun h2 b2 o2 => ?_
  have H2 := H1.aside o2 hq hg
  have b2 : Blk h2 h.size #[.int .u64 (IntKind.wrap .u64 ((b - a : Nat) : Int))] 152 := b2
  refine call_of (pow_ok (b - a) (by omega) (by omega) h2) ?_
  rintro v h' ⟨hh, m, rfl, hm1, hm2⟩; subst h'
  have e4 : IntKind.wrap .i64 (Int.tdiv (((b - a : Nat) : Int)) 4) = (((b - a) / 4 : Nat) : Int) := by rw [show (4 : Int) = ((4 : Nat) : Int) from rfl, tdiv_nat, wr64 (by omega) (by omega)]
  have em : IntKind.wrap .i64 ((a : Int) + IntKind.wrap .i64 ((((b - a) / 4 : Nat) : Int) * 2)) = ((a + (b - a) / 4 * 2 : Nat) : Int) := by rw [wr64 (n := (((b - a) / 4 : Nat) : Int) * 2) (by omega) (by omega), wr64 (by omega) (by omega)]; omega
  rw [e4, em]
  have e1 : IntKind.wrap .i64 (((a + (b - a) / 4 * 2 : Nat) : Int) + 1) = ((a + (b - a) / 4 * 2 + 1 : Nat) : Int) := (by first | (rw [wr64 (by omega) (by omega)]; omega) | (simp only [IntKind.wrap_i64]; omega))
  rw [e1]
  refine ⟨m, rfl, ⟨fun (s : Int) h' => ∃ (i : Nat) (dk : Array El) (x : Int), s = (i : Int) ∧ a ≤ i ∧ i ≤ a + (b - a) / 4 * 2 + 2 ∧ PermIn a b d dk ∧ Rw h0 h' g n c dk ∧ Blk h' h.size #[.int .u64 x] 152, fun (s : Int) _ => (((a + (b - a) / 4 * 2 + 2 : Nat) : Int) - s).toNat, ⟨a + (b - a) / 4 * 2 - 1, d, _, (by first | (rw [wr64 (by omega) (by omega)]; omega) | (simp only [IntKind.wrap_i64]; omega)), by omega, by omega, permIn_refl _ _ _, H2, b2⟩, ?_⟩⟩
  rintro s j0 h3 ⟨i, dk, x, rfl, hi1, hi2, P3, H3, B3⟩
  refine br_of (fun hlt => ?_) (fun _ => ⟨rfl, dk, P3, H3⟩)
  have hlt : (i : Int) ≤ ((a + (b - a) / 4 * 2 + 1 : Nat) : Int) := of_decide_eq_true hlt
  refine cut_q (ts := []) (fun _ h' => ∃ (dj : Array El) (x : Int), PermIn a b d dj ∧ Rw h0 h' g n c dj ∧ Blk h' h.size #[.int .u64 x] 152) ?_ ?_
  · rintro _ h4 ⟨dj, x4, P4, H4, B4⟩ _
    exact ⟨⟨i + 1, dj, x4, (by first | (rw [wr64 (by omega) (by omega)]; omega) | (simp only [IntKind.wrap_i64]; omega)), by omega, by omega, P4, H4, B4⟩, (by dsimp only; first | (rw [wr64 (by omega) (by omega)]; omega) | (rw [wr64 (by omega) (by omega), wr64 (by omega) (by omega)]; omega) | (simp only [IntKind.wrap_i64]; omega))⟩
  intro K hK
  refine call_of (next_ok B3) ?_
  rintro v h4 ⟨y, z, rfl, B4, o4⟩
  have H4 := H3.aside o4 hq hg
  obtain ⟨o, ho, eo⟩ := Len.and_lt y m hm1 (by omega)
  refine ⟨y, rfl, ?_⟩
  rw [eo]
  refine cut_q (ts := [.sc (.int .i64)]) (fun (s : Int) h' => h' = h4 ∧ ∃ o' : Nat, s = (o' : Int) ∧ o' < b - a) ?_ ?_
  · rintro s h' ⟨hh, o', hs, ho'⟩ _; subst h'
    have hs : s = (o' : Int) := hs
    subst hs
    refine sw H4 (i := a + o') (j := i) (by omega) (by omega) (by first | (rw [wr64 (by omega) (by omega)]; omega) | (simp only [IntKind.wrap_i64]; omega)) rfl fun h5 H5 o5 => hK () _ ⟨_, z, permIn_trans _ _ _ _ _ P3 (swp_permIn _ a b _ _ (by omega) (by omega) (by omega) (by omega) (by have := H3.size; omega)), H5, B4.only o5 hg⟩
  intro K2 hK2
  refine br_of (fun hge => hK2 _ _ ⟨rfl, o - (b - a), ?_, by omega⟩) (fun hge => hK2 _ _ ⟨rfl, o, rfl, ?_⟩)
  · have hge : (o : Int) ≥ ((b - a : Nat) : Int) := of_decide_eq_true hge
    exact (by first | (rw [wr64 (by omega) (by omega)]; omega) | (simp only [IntKind.wrap_i64]; omega))
  · have hge : ¬ (o : Int) ≥ ((b - a : Nat) : Int) := of_decide_eq_false hge
    omega
end
section
variable {h0 h : Heap} {g n c : Nat} {d : Array El}
theorem eq_ok (H : Rw h0 h g n c d) {a b pv : Nat} (hb : b ≤ n) (hap : a ≤ pv) (hpb : pv < b) : CallsH Tryz.prog 81 [.slice (some ⟨g, 0, none⟩) n c, .int .i64 (a : Int), .int .i64 (b : Int), .int .i64 (pv : Int)] h
    fun v h' => v = .int .i64 ((partitionEqual lt d a b pv).1 : Int) ∧ Rw h0 h' g n c (partitionEqual lt d a b pv).2 := by
  refine fun_ok hm' Tryz.func81 (by kernel_rfl) (F81_eq _ _ _ _ _ _ _ h) ?_
  unfold F81
  have hn := H.big
  refine sw H (i := pv) (j := a) (by omega) (by omega) rfl rfl fun h1 H1 _ => ?_
  have hd : (partitionEqual lt d a b pv) = partEqLoop lt a (a + 1) (b - 1) (swp d a pv) := rfl
  rw [hd]
  refine cut_q (ts := [.sc (.int .i64)]) (fun (s : Int) h' => s = ((partEqLoop lt a (a + 1) (b - 1) (swp d a pv)).1 : Int) ∧ Rw h0 h' g n c (partEqLoop lt a (a + 1) (b - 1) (swp d a pv)).2) ?_ ?_
  · rintro s h2 ⟨hs, H2⟩ _
    exact ⟨by rw [show s = _ from hs], H2⟩
  intro K hK
  refine ⟨fun (s : Int × Int) h' => ∃ (i j : Nat) (dk : Array El), s = ((i : Int), (j : Int)) ∧ a < i ∧ i ≤ b ∧ j < b ∧ Rw h0 h' g n c dk ∧ partEqLoop lt a i j dk = partEqLoop lt a (a + 1) (b - 1) (swp d a pv), fun (s : Int × Int) _ => (s.2 + 1 - s.1).toNat, ⟨a + 1, b - 1, _, ?_, by omega, by omega, by omega, H1, rfl⟩, ?_⟩
  · rw [show IntKind.wrap .i64 ((a : Int) + 1) = ((a + 1 : Nat) : Int) by rw [wr64 (by omega) (by omega)]; omega, show IntKind.wrap .i64 ((b : Int) - 1) = ((b - 1 : Nat) : Int) by rw [wr64 (by omega) (by omega)]; omega] <;> rfl
  rintro s j0 h2 ⟨i, j, dk, rfl, hi, hib, hj, H2, he⟩
  obtain ⟨i2, hi2⟩ : ∃ q, Hd (q = scanUp (fun x => !lt dk[a]! x) dk j i) := ⟨_, ⟨rfl⟩⟩
  refine cut_q (ts := [.sc (.int .i64)]) (fun (s : Int) h' => s = (i2 : Int) ∧ i ≤ i2 ∧ i2 ≤ b ∧ Rw h0 h' g n c dk) ?_ ?_
  rotate_left
  · intro K2 hK2
    refine ⟨fun (s : Int) h' => ∃ q : Nat, s = (q : Int) ∧ i ≤ q ∧ q ≤ b ∧ Rw h0 h' g n c dk ∧ Hd (scanUp (fun x => !lt dk[a]! x) dk j q = i2), fun (s : Int) _ => ((b : Int) - s).toNat, ⟨i, rfl, Nat.le_refl _, hib, H2, ⟨hi2.out.symm⟩⟩, ?_⟩
    rintro s j1 h3 ⟨q, rfl, hq, hqb, H3, he2⟩
    refine cut_q (ts := []) (fun _ h' => Rw h0 h' g n c dk ∧ q ≤ j ∧ lt dk[a]! dk[q]! = false) ?_ ?_
    · rintro _ h4 ⟨H4, h5, hl⟩ _
      exact ⟨⟨q + 1, (by first | (rw [wr64 (by omega) (by omega)]; omega) | (simp only [IntKind.wrap_i64]; omega)), by omega, by omega, H4, ⟨by rw [← he2.out, scanUp_go _ dk _ _ h5 (by simp [hl])]⟩⟩, (by dsimp only; first | (rw [wr64 (by omega) (by omega)]; omega) | (rw [wr64 (by omega) (by omega), wr64 (by omega) (by omega)]; omega) | (simp only [IntKind.wrap_i64]; omega))⟩
    intro K3 hK3
    refine br_of (fun hc => ?_) (fun hc => hK2 _ _ ?_)
    · have hc : (q : Int) ≤ (j : Int) := of_decide_eq_true hc
      refine ts H3 (i := a) (j := q) (by omega) (by omega) rfl rfl ?_
      refine br_of (fun hl => hK3 () _ ⟨H3, by omega, by simpa using hl⟩) (fun hl => hK2 _ _ ?_)
      have he2 := he2.out
      rw [scanUp_end _ _ _ _ (.inr (by simpa using hl))] at he2
      subst he2
      exact ⟨rfl, by omega, by omega, H3⟩
    · have hc : ¬ (q : Int) ≤ (j : Int) := of_decide_eq_false hc
      have he2 := he2.out
      rw [scanUp_end _ _ _ _ (.inl (by omega))] at he2
      subst he2
      exact ⟨rfl, by omega, by omega, H3⟩
  rintro s h3 ⟨hs, hq1, hq2, H3⟩ _
  have hs : s = (i2 : Int) := hs
  subst hs
  obtain ⟨j2, hj2⟩ : ∃ q, Hd (q = scanDown (fun x => lt dk[a]! x) dk i2 j) := ⟨_, ⟨rfl⟩⟩
  refine cut_q (ts := [.sc (.int .i64)]) (fun (s : Int) h' => s = (j2 : Int) ∧ j2 ≤ j ∧ Rw h0 h' g n c dk) ?_ ?_
  rotate_left
  · intro K2 hK2
    refine ⟨fun (s : Int) h' => ∃ q : Nat, s = (q : Int) ∧ q ≤ j ∧ Rw h0 h' g n c dk ∧ Hd (scanDown (fun x => lt dk[a]! x) dk i2 q = j2), fun (s : Int) _ => s.toNat, ⟨j, rfl, Nat.le_refl _, H3, ⟨hj2.out.symm⟩⟩, ?_⟩
    rintro s j1 h4 ⟨q, rfl, hq, H4, he2⟩
    refine cut_q (ts := []) (fun _ h' => Rw h0 h' g n c dk ∧ i2 ≤ q ∧ lt dk[a]! dk[q]! = true) ?_ ?_
    · rintro _ h5 ⟨H5, h6, hl⟩ _
      exact ⟨⟨q - 1, (by first | (rw [wr64 (by omega) (by omega)]; omega) | (simp only [IntKind.wrap_i64]; omega)), by omega, H5, ⟨by rw [← he2.out, scanDown_go _ dk _ _ h6 (by omega) (by simp [hl])]⟩⟩, (by dsimp only; first | (rw [wr64 (by omega) (by omega)]; omega) | (rw [wr64 (by omega) (by omega), wr64 (by omega) (by omega)]; omega) | (simp only [IntKind.wrap_i64]; omega))⟩
    intro K3 hK3
    refine br_of (fun hc => ?_) (fun hc => hK2 _ _ ?_)
    · have hc : (i2 : Int) ≤ (q : Int) := of_decide_eq_true hc
      refine ts H4 (i := a) (j := q) (by omega) (by omega) rfl rfl ?_
      refine br_of (fun hl => hK3 () _ ⟨H4, by omega, hl⟩) (fun hl => hK2 _ _ ?_)
      have he2 := he2.out
      rw [scanDown_end _ _ _ _ (.inr (by simpa using hl))] at he2
      subst he2
      exact ⟨rfl, by omega, H4⟩
    · have hc : ¬ (i2 : Int) ≤ (q : Int) := of_decide_eq_false hc
      have he2 := he2.out
      rw [scanDown_end _ _ _ _ (.inl (by omega))] at he2
      subst he2
      exact ⟨rfl, by omega, H4⟩
  rintro s h4 ⟨hs, hj3, H4⟩ _
  have hs : s = (j2 : Int) := hs
  subst hs
  refine br_of (fun hc => hK _ _ ?_) (fun hc => ?_)
  · have hc : (i2 : Int) > (j2 : Int) := of_decide_eq_true hc
    rw [partEq_break _ a i j dk hi2.out hj2.out (by omega)] at he
    rw [← he]; exact ⟨rfl, H4⟩
  · have hc : ¬ (i2 : Int) > (j2 : Int) := of_decide_eq_false hc
    have hlt := scans_lt _ a i j dk (by omega) hi2.out hj2.out (by omega)
    rw [partEq_go _ a i j dk hi2.out hj2.out (by omega)] at he
    refine sw H4 (i := j2) (j := i2) (by omega) (by omega) rfl rfl fun h5 H5 _ => ⟨⟨i2 + 1, j2 - 1, _, ?_, by omega, by omega, by omega, H5, he⟩, (by dsimp only; first | (rw [wr64 (by omega) (by omega)]; omega) | (rw [wr64 (by omega) (by omega), wr64 (by omega) (by omega)]; omega) | (simp only [IntKind.wrap_i64]; omega))⟩
    rw [show IntKind.wrap .i64 ((i2 : Int) + 1) = ((i2 + 1 : Nat) : Int) by rw [wr64 (by omega) (by omega)]; omega, show IntKind.wrap .i64 ((j2 : Int) - 1) = ((j2 - 1 : Nat) : Int) by rw [wr64 (by omega) (by omega)]; omega] <;> rfl
set_option maxHeartbeats 1600000 in
theorem prt_ok (H : Rw h0 h g n c d) {a b pv : Nat} (hb : b ≤ n) (hap : a ≤ pv) (hpb : pv < b) : CallsH Tryz.prog 82 [.slice (some ⟨g, 0, none⟩) n c, .int .i64 (a : Int), .int .i64 (b : Int), .int .i64 (pv : Int)] h
    fun v h' => v = .tuple #[.int .i64 ((partition lt d a b pv).1 : Int), .bool (partition lt d a b pv).2.1] ∧ Rw h0 h' g n c (partition lt d a b pv).2.2 := by
  refine fun_ok hm' Tryz.func82 (by kernel_rfl) (F82_eq _ _ _ _ _ _ _ h) ?_
  unfold F82
  have hn := H.big
  refine sw H (i := pv) (j := a) (by omega) (by omega) rfl rfl fun h1 H1 _ => ?_
  have eb : IntKind.wrap .i64 ((b : Int) - 1) = ((b - 1 : Nat) : Int) := (by first | (rw [wr64 (by omega) (by omega)]; omega) | (simp only [IntKind.wrap_i64]; omega))
  have ea : IntKind.wrap .i64 ((a : Int) + 1) = ((a + 1 : Nat) : Int) := (by first | (rw [wr64 (by omega) (by omega)]; omega) | (simp only [IntKind.wrap_i64]; omega))
  rw [eb, ea]
  obtain ⟨dk, hdk⟩ : ∃ q, q = swp d a pv := ⟨_, rfl⟩
  rw [← hdk] at H1
  obtain ⟨i2, hi2⟩ : ∃ q, Hd (q = scanUp (fun x => lt x dk[a]!) dk (b - 1) (a + 1)) := ⟨_, ⟨rfl⟩⟩
  refine cut_q (ts := [.sc (.int .i64)]) (fun (s : Int) h' => s = (i2 : Int) ∧ a + 1 ≤ i2 ∧ i2 ≤ b ∧ Rw h0 h' g n c dk) ?_ ?_
  rotate_left
  · intro K2 hK2
    refine ⟨fun (s : Int) h' => ∃ q : Nat, s = (q : Int) ∧ a + 1 ≤ q ∧ q ≤ b ∧ Rw h0 h' g n c dk ∧ Hd (scanUp (fun x => lt x dk[a]!) dk (b - 1) q = i2), fun (s : Int) _ => ((b : Int) - s).toNat, ⟨a + 1, rfl, Nat.le_refl _, by omega, H1, ⟨hi2.out.symm⟩⟩, ?_⟩
    rintro s j1 h3 ⟨q, rfl, hq, hqb, H3, he2⟩
    refine cut_q (ts := []) (fun _ h' => Rw h0 h' g n c dk ∧ q ≤ b - 1 ∧ lt dk[q]! dk[a]! = true) ?_ ?_
    · rintro _ h4 ⟨H4, h5, hl⟩ _
      exact ⟨⟨q + 1, (by first | (rw [wr64 (by omega) (by omega)]; omega) | (simp only [IntKind.wrap_i64]; omega)), by omega, by omega, H4, ⟨by rw [← he2.out, scanUp_go _ dk _ _ h5 (by simp [hl])]⟩⟩, (by dsimp only; first | (rw [wr64 (by omega) (by omega)]; omega) | (rw [wr64 (by omega) (by omega), wr64 (by omega) (by omega)]; omega) | (simp only [IntKind.wrap_i64]; omega))⟩
    intro K3 hK3
    refine br_of (fun hc => ?_) (fun hc => hK2 _ _ ?_)
    · have hc : (q : Int) ≤ ((b - 1 : Nat) : Int) := of_decide_eq_true hc
      refine ts H3 (i := q) (j := a) (by omega) (by omega) rfl rfl ?_
      refine br_of (fun hl => hK3 () _ ⟨H3, by omega, hl⟩) (fun hl => hK2 _ _ ?_)
      have he2 := he2.out
      rw [scanUp_end _ _ _ _ (.inr (by simpa using hl))] at he2
      subst he2
      exact ⟨rfl, by omega, by omega, H3⟩
    · have hc : ¬ (q : Int) ≤ ((b - 1 : Nat) : Int) := of_decide_eq_false hc
      have he2 := he2.out
      rw [scanUp_end _ _ _ _ (.inl (by omega))] at he2
      subst he2
      exact ⟨rfl, by omega, by omega, H3⟩
  rintro s h3 ⟨hs, hq1, hq2, H3⟩ _
  have hs : s = (i2 : Int) := hs
  subst hs
  obtain ⟨j2, hj2⟩ : ∃ q, Hd (q = scanDown (fun x => !lt x dk[a]!) dk i2 (b - 1)) := ⟨_, ⟨rfl⟩⟩
  refine cut_q (ts := [.sc (.int .i64)]) (fun (s : Int) h' => s = (j2 : Int) ∧ j2 ≤ b - 1 ∧ Rw h0 h' g n c dk) ?_ ?_
  rotate_left
  · intro K2 hK2
    refine ⟨fun (s : Int) h' => ∃ q : Nat, s = (q : Int) ∧ q ≤ b - 1 ∧ Rw h0 h' g n c dk ∧ Hd (scanDown (fun x => !lt x dk[a]!) dk i2 q = j2), fun (s : Int) _ => s.toNat, ⟨b - 1, rfl, Nat.le_refl _, H3, ⟨hj2.out.symm⟩⟩, ?_⟩
    rintro s j1 h4 ⟨q, rfl, hq, H4, he2⟩
    refine cut_q (ts := []) (fun _ h' => Rw h0 h' g n c dk ∧ i2 ≤ q ∧ lt dk[q]! dk[a]! = false) ?_ ?_
    · rintro _ h5 ⟨H5, h6, hl⟩ _
      exact ⟨⟨q - 1, (by first | (rw [wr64 (by omega) (by omega)]; omega) | (simp only [IntKind.wrap_i64]; omega)), by omega, H5, ⟨by rw [← he2.out, scanDown_go _ dk _ _ h6 (by omega) (by simp [hl])]⟩⟩, (by dsimp only; first | (rw [wr64 (by omega) (by omega)]; omega) | (rw [wr64 (by omega) (by omega), wr64 (by omega) (by omega)]; omega) | (simp only [IntKind.wrap_i64]; omega))⟩
    intro K3 hK3
    refine br_of (fun hc => ?_) (fun hc => hK2 _ _ ?_)
    · have hc : (i2 : Int) ≤ (q : Int) := of_decide_eq_true hc
      refine ts H4 (i := q) (j := a) (by omega) (by omega) rfl rfl ?_
      refine br_of (fun hl => hK3 () _ ⟨H4, by omega, by simpa using hl⟩) (fun hl => hK2 _ _ ?_)
      have he2 := he2.out
      rw [scanDown_end _ _ _ _ (.inr (by simpa using hl))] at he2
      subst he2
      exact ⟨rfl, by omega, H4⟩
    · have hc : ¬ (i2 : Int) ≤ (q : Int) := of_decide_eq_false hc
      have he2 := he2.out
      rw [scanDown_end _ _ _ _ (.inl (by omega))] at he2
      subst he2
      exact ⟨rfl, by omega, H4⟩
  rintro s h4 ⟨hs, hj3, H4⟩ _
  have hs : s = (j2 : Int) := hs
  subst hs
  refine br_of (fun hc => ?_) (fun hc => ?_)
  · have hc : (i2 : Int) > (j2 : Int) := of_decide_eq_true hc
    rw [part_first_break _ d a b pv rfl rfl hdk hi2.out hj2.out (by omega)]
    exact sw H4 (i := a) (j := j2) (by omega) (by omega) rfl rfl fun h5 H5 _ => ⟨rfl, H5⟩
  have hc : ¬ (i2 : Int) > (j2 : Int) := of_decide_eq_false hc
  rw [part_first_go _ d a b pv rfl rfl hdk hi2.out hj2.out (by omega)]
  have hlt := part_scans_lt _ a (a + 1) (b - 1) dk (by omega) hi2.out hj2.out (by omega)
  refine sw H4 (i := j2) (j := i2) (by omega) (by omega) rfl rfl fun h5 H5 _ => ?_
  obtain ⟨r, hr⟩ : ∃ q, q = partLoop lt a (i2 + 1) (j2 - 1) (swp dk i2 j2) := ⟨_, rfl⟩
  rw [← hr]
  refine cut_q (ts := [.sc (.int .i64)]) (fun (s : Int) h' => s = (r.1 : Int) ∧ r.1 < b ∧ Rw h0 h' g n c r.2) ?_ ?_
  · rintro s h6 ⟨hs, hrb, H6⟩ _
    have hs : s = (r.1 : Int) := hs
    subst hs
    exact sw H6 (i := a) (j := r.1) (by omega) (by omega) rfl rfl fun h7 H7 _ => ⟨rfl, H7⟩
  intro K hK
  clear hi2 hj2
  refine ⟨fun (s : Int × Int) h' => ∃ (i j : Nat) (dk : Array El), s = ((i : Int), (j : Int)) ∧ a < i ∧ i ≤ b ∧ j < b ∧ Rw h0 h' g n c dk ∧ partLoop lt a i j dk = r, fun (s : Int × Int) _ => (s.2 + 1 - s.1).toNat, ⟨i2 + 1, j2 - 1, _, ?_, by omega, by omega, by omega, H5, hr.symm⟩, ?_⟩
  · rw [show IntKind.wrap .i64 ((i2 : Int) + 1) = ((i2 + 1 : Nat) : Int) by rw [wr64 (by omega) (by omega)]; omega, show IntKind.wrap .i64 ((j2 : Int) - 1) = ((j2 - 1 : Nat) : Int) by rw [wr64 (by omega) (by omega)]; omega] <;> rfl
  clear hr H5 H4 H3 H1 hdk
  clear dk
  rintro s j0 h2 ⟨i, j, dk, rfl, hi, hib, hj, H2, he⟩
  obtain ⟨i2, hi2⟩ : ∃ q, Hd (q = scanUp (fun x => lt x dk[a]!) dk j i) := ⟨_, ⟨rfl⟩⟩
  refine cut_q (ts := [.sc (.int .i64)]) (fun (s : Int) h' => s = (i2 : Int) ∧ i ≤ i2 ∧ i2 ≤ b ∧ Rw h0 h' g n c dk) ?_ ?_
  rotate_left
  · intro K2 hK2
    refine ⟨fun (s : Int) h' => ∃ q : Nat, s = (q : Int) ∧ i ≤ q ∧ q ≤ b ∧ Rw h0 h' g n c dk ∧ Hd (scanUp (fun x => lt x dk[a]!) dk j q = i2), fun (s : Int) _ => ((b : Int) - s).toNat, ⟨i, rfl, Nat.le_refl _, hib, H2, ⟨hi2.out.symm⟩⟩, ?_⟩
    rintro s j1 h3 ⟨q, rfl, hq, hqb, H3, he2⟩
    refine cut_q (ts := []) (fun _ h' => Rw h0 h' g n c dk ∧ q ≤ j ∧ lt dk[q]! dk[a]! = true) ?_ ?_
    · rintro _ h4 ⟨H4, h5, hl⟩ _
      exact ⟨⟨q + 1, (by first | (rw [wr64 (by omega) (by omega)]; omega) | (simp only [IntKind.wrap_i64]; omega)), by omega, by omega, H4, ⟨by rw [← he2.out, scanUp_go _ dk _ _ h5 (by simp [hl])]⟩⟩, (by dsimp only; first | (rw [wr64 (by omega) (by omega)]; omega) | (rw [wr64 (by omega) (by omega), wr64 (by omega) (by omega)]; omega) | (simp only [IntKind.wrap_i64]; omega))⟩
    intro K3 hK3
    refine br_of (fun hc => ?_) (fun hc => hK2 _ _ ?_)
    · have hc : (q : Int) ≤ (j : Int) := of_decide_eq_true hc
      refine ts H3 (i := q) (j := a) (by omega) (by omega) rfl rfl ?_
      refine br_of (fun hl => hK3 () _ ⟨H3, by omega, hl⟩) (fun hl => hK2 _ _ ?_)
      have he2 := he2.out
      rw [scanUp_end _ _ _ _ (.inr (by simpa using hl))] at he2
      subst he2
      exact ⟨rfl, by omega, by omega, H3⟩
    · have hc : ¬ (q : Int) ≤ (j : Int) := of_decide_eq_false hc
      have he2 := he2.out
      rw [scanUp_end _ _ _ _ (.inl (by omega))] at he2
      subst he2
      exact ⟨rfl, by omega, by omega, H3⟩
  rintro s h3 ⟨hs, hq1, hq2, H3⟩ _
  have hs : s = (i2 : Int) := hs
  subst hs
  obtain ⟨j2, hj2⟩ : ∃ q, Hd (q = scanDown (fun x => !lt x dk[a]!) dk i2 j) := ⟨_, ⟨rfl⟩⟩
  refine cut_q (ts := [.sc (.int .i64)]) (fun (s : Int) h' => s = (j2 : Int) ∧ j2 ≤ j ∧ Rw h0 h' g n c dk) ?_ ?_
  rotate_left
  · intro K2 hK2
    refine ⟨fun (s : Int) h' => ∃ q : Nat, s = (q : Int) ∧ q ≤ j ∧ Rw h0 h' g n c dk ∧ Hd (scanDown (fun x => !lt x dk[a]!) dk i2 q = j2), fun (s : Int) _ => s.toNat, ⟨j, rfl, Nat.le_refl _, H3, ⟨hj2.out.symm⟩⟩, ?_⟩
    rintro s j1 h4 ⟨q, rfl, hq, H4, he2⟩
    refine cut_q (ts := []) (fun _ h' => Rw h0 h' g n c dk ∧ i2 ≤ q ∧ lt dk[q]! dk[a]! = false) ?_ ?_
    · rintro _ h5 ⟨H5, h6, hl⟩ _
      exact ⟨⟨q - 1, (by first | (rw [wr64 (by omega) (by omega)]; omega) | (simp only [IntKind.wrap_i64]; omega)), by omega, H5, ⟨by rw [← he2.out, scanDown_go _ dk _ _ h6 (by omega) (by simp [hl])]⟩⟩, (by dsimp only; first | (rw [wr64 (by omega) (by omega)]; omega) | (rw [wr64 (by omega) (by omega), wr64 (by omega) (by omega)]; omega) | (simp only [IntKind.wrap_i64]; omega))⟩
    intro K3 hK3
    refine br_of (fun hc => ?_) (fun hc => hK2 _ _ ?_)
    · have hc : (i2 : Int) ≤ (q : Int) := of_decide_eq_true hc
      refine ts H4 (i := q) (j := a) (by omega) (by omega) rfl rfl ?_
      refine br_of (fun hl => hK3 () _ ⟨H4, by omega, by simpa using hl⟩) (fun hl => hK2 _ _ ?_)
      have he2 := he2.out
      rw [scanDown_end _ _ _ _ (.inr (by simpa using hl))] at he2
      subst he2
      exact ⟨rfl, by omega, H4⟩
    · have hc : ¬ (i2 : Int) ≤ (q : Int) := of_decide_eq_false hc
      have he2 := he2.out
      rw [scanDown_end _ _ _ _ (.inl (by omega))] at he2
      subst he2
      exact ⟨rfl, by omega, H4⟩
  rintro s h4 ⟨hs, hj3, H4⟩ _
  have hs : s = (j2 : Int) := hs
  subst hs
  refine br_of (fun hc => hK _ _ ?_) (fun hc => ?_)
  · have hc : (i2 : Int) > (j2 : Int) := of_decide_eq_true hc
    rw [part_break _ a i j dk hi2.out hj2.out (by omega)] at he
    rw [← he]; exact ⟨rfl, by omega, H4⟩
  · have hc : ¬ (i2 : Int) > (j2 : Int) := of_decide_eq_false hc
    have hlt := part_scans_lt _ a i j dk (by omega) hi2.out hj2.out (by omega)
    rw [part_go _ a i j dk hi2.out hj2.out (by omega)] at he
    refine sw H4 (i := j2) (j := i2) (by omega) (by omega) rfl rfl fun h5 H5 _ => ⟨⟨i2 + 1, j2 - 1, _, ?_, by omega, by omega, by omega, H5, he⟩, (by dsimp only; first | (rw [wr64 (by omega) (by omega)]; omega) | (rw [wr64 (by omega) (by omega), wr64 (by omega) (by omega)]; omega) | (simp only [IntKind.wrap_i64]; omega))⟩
    rw [show IntKind.wrap .i64 ((i2 : Int) + 1) = ((i2 + 1 : Nat) : Int) by rw [wr64 (by omega) (by omega)]; omega, show IntKind.wrap .i64 ((j2 : Int) - 1) = ((j2 - 1 : Nat) : Int) by rw [wr64 (by omega) (by omega)]; omega] <;> rfl
end
section
variable {h0 h : Heap} {g n c : Nat} {d : Array El}
set_option maxHeartbeats 1600000 in
theorem pdq_ok (h255 : n < 256) : ∀ (N a b lim : Nat) (d : Array El) (h : Heap), b - a < N → Rw h0 h g n c d → a ≤ b → b ≤ n → Below lt a b d → lim ≤ 1000 →
    CallsH Tryz.prog 72 [.slice (some ⟨g, 0, none⟩) n c, .int .i64 (a : Int), .int .i64 (b : Int), .int .i64 (lim : Int)] h fun v h' => v = .tuple #[] ∧ ∃ d', PermIn a b d d' ∧ SortedIn lt a b d' ∧ Rw h0 h' g n c d' := by
  intro N
  induction N with
  | zero => intro a b lim d h hN; omega
  | succ N ih =>
  intro a b lim d h hN H hab hb hB hlim
  refine fun_ok hm' Tryz.func72 (by kernel_rfl) (F72_eq _ _ _ _ _ _ _ h) ?_
  unfold F72
  refine ⟨fun (s : Int × Int × Int × Bool × Bool) h' => ∃ (a' b' l' : Nat) (wb wp : Bool) (dk : Array El), s = ((a' : Int), (b' : Int), (l' : Int), wb, wp) ∧ a' ≤ b' ∧ b' ≤ n ∧ b' - a' ≤ b - a ∧ l' ≤ 1000 ∧ Below lt a' b' dk ∧ Rw h0 h' g n c dk ∧ (∀ R, PermIn a' b' dk R → SortedIn lt a' b' R → PermIn a b d R ∧ SortedIn lt a b R),
    fun (s : Int × Int × Int × Bool × Bool) _ => (s.2.1 - s.1).toNat, ⟨a, b, lim, true, true, d, rfl, hab, hb, Nat.le_refl _, hlim, hB, H, fun R h1 h2 => ⟨h1, h2⟩⟩, ?_⟩
  rintro s j0 h1 ⟨a', b', l', wb, wp, dk, rfl, hab', hb', hle, hl', hB', H1, cont⟩
  have hsz := H1.size
  have ew : IntKind.wrap .i64 ((b' : Int) - (a' : Int)) = ((b' - a' : Nat) : Int) := (by first | (rw [wr64 (by omega) (by omega)]; omega) | (simp only [IntKind.wrap_i64]; omega))
  dsimp only
  rw [ew]
  refine br_of (fun h12 => ?_) (fun h12 => ?_)
  · refine call_of (ins_ok H1 hb' hab') ?_
    rintro v h2 ⟨rfl, H2⟩
    obtain ⟨p1, p2⟩ := insertionSort_holds swo dk a' b' hab' (by omega)
    obtain ⟨p1, p2⟩ := cont _ p1 p2
    exact ⟨(), rfl, rfl, _, p1, p2, H2⟩
  have h12 : ¬ ((b' - a' : Nat) : Int) ≤ 12 := of_decide_eq_false h12
  have hlt : a' < b' := by omega
  refine br_of (fun h0l => ?_) (fun h0l => ?_)
  · refine call_of (heap_ok H1 hb' hab') ?_
    rintro v h2 ⟨rfl, H2⟩
    obtain ⟨p1, p2⟩ := heapSort_holds swo dk a' b' hab' (by omega)
    obtain ⟨p1, p2⟩ := cont _ p1 p2
    exact ⟨(), rfl, rfl, _, p1, p2, H2⟩
  have h0l : (l' : Int) ≠ 0 := by simpa using h0l
  refine cut_q (ts := [.sc (.int .i64)]) (fun (s : Int) h' => ∃ (l2 : Nat) (d1 : Array El), s = (l2 : Int) ∧ l2 ≤ 1000 ∧ PermIn a' b' dk d1 ∧ Rw h0 h' g n c d1) ?_ ?_
  rotate_left
  · intro K hK
    refine br_of (fun _ => ?_) (fun _ => hK _ _ ⟨l', dk, rfl, hl', permIn_refl _ _ _, H1⟩)
    refine call_of (brk_ok H1 hb' hab' h255) ?_
    rintro v h2 ⟨rfl, d1, p1, H2⟩
    exact ⟨(), rfl, hK _ _ ⟨l' - 1, d1, (by first | (rw [wr64 (by omega) (by omega)]; omega) | (simp only [IntKind.wrap_i64]; omega)), by omega, p1, H2⟩⟩
  rintro s h2 ⟨l2, d1, hs, hl2, p1, H2⟩ _
  have hs : s = (l2 : Int) := hs
  subst hs
  refine call_of (choose_ok H2 hb' hlt) ?_
  rintro v h3 ⟨pv, t, rfl, hp1, hp2, H3⟩
  refine ⟨((pv : Int), t), rfl, cut_q (ts := [.sc (.int .i64), .sc (.int .i64)]) (fun (s : Int × Int) h' => ∃ (q : Nat) (t' : Int) (d2 : Array El), s = ((q : Int), t') ∧ a' ≤ q ∧ q < b' ∧ PermIn a' b' dk d2 ∧ Rw h0 h' g n c d2) ?_ ?_⟩
  rotate_left
  · intro K hK
    refine br_of (fun _ => ?_) (fun _ => hK _ _ ⟨pv, t, d1, rfl, hp1, hp2, p1, H3⟩)
    refine call_of (rev_ok H3 hb' hlt) ?_
    rintro v h4 ⟨rfl, H4⟩
    refine ⟨(), rfl, hK _ _ ⟨(b' - 1) - (pv - a'), 1, _, ?_, by omega, by omega, permIn_trans _ _ _ _ _ p1 (reverseRange_holds d1 a' b' hab' (by have := H3.size; omega)), H4⟩⟩
    rw [wr64 (n := (b' : Int) - 1) (by omega) (by omega), wr64 (n := (pv : Int) - (a' : Int)) (by omega) (by omega), wr64 (by omega) (by omega), show (b' : Int) - 1 - ((pv : Int) - (a' : Int)) = (((b' - 1) - (pv - a') : Nat) : Int) by omega] <;> rfl
  rintro s h4 ⟨q, t', d2, hs, hq1, hq2, p2, H4⟩ _
  have hs : s = ((q : Int), t') := hs
  subst hs
  have hB2 := hB'.perm (by omega) p2
  have hsz2 := H4.size
  refine cut_q (ts := []) (fun _ h' => ∃ d3 : Array El, PermIn a' b' dk d3 ∧ Rw h0 h' g n c d3) ?_ ?_
  rotate_left
  · intro K hK
    have key : ∀ {h4 : Heap}, Rw h0 h4 g n c d2 → callT Tryz.prog 79 [.slice (some ⟨g, 0, none⟩) n c, .int .i64 (a' : Int), .int .i64 (b' : Int)] [.sc .bool] (fun (r : Bool) h5 => br r (Value.tuple #[] = Value.tuple #[] ∧ ∃ d', PermIn a b d d' ∧ SortedIn lt a b d' ∧ Rw h0 h5 g n c d') (K () h5)) h4 := fun {h4} H4 => by
      refine call_of (scanS_ok H4 hb' hlt) ?_
      rintro v h5 ⟨rfl, H5⟩
      obtain ⟨q1, q2⟩ := partialInsertionSort_holds swo d2 a' b' hlt (by omega) hB2
      refine ⟨_, rfl, br_of (fun hr => ?_) (fun _ => hK () _ ⟨_, permIn_trans _ _ _ _ _ p2 q1, H5⟩)⟩
      obtain ⟨q1, q2⟩ := cont _ (permIn_trans _ _ _ _ _ p2 q1) (q2 hr)
      exact ⟨rfl, _, q1, q2, H5⟩
    refine cut_q (ts := [.sc .bool]) (fun _ h' => Rw h0 h' g n c d2) ?_ ?_
    · rintro s h5 H5 _
      exact br_of (fun _ => key H5) (fun _ => hK () _ ⟨_, p2, H5⟩)
    · intro K2 hK2
      exact br_of (fun _ => br_of (fun _ => hK2 _ _ H4) (fun _ => hK2 _ _ H4)) (fun _ => hK2 _ _ H4)
  clear hB2 hsz2
  rintro _ h5 ⟨d3, p3, H5⟩ _
  have hB3 := hB'.perm (by omega) p3
  have hsz3 := H5.size
  refine cut_q (ts := [.sc (.int .i64)]) (fun (s : Int) h' => s = (a' : Int) ∧ Rw h0 h' g n c d3) ?_ ?_
  rotate_left
  · intro K hK
    refine cut_q (ts := [.sc .bool]) (fun (s : Bool) h' => (s = true → 0 < a' ∧ lt d3[a' - 1]! d3[q]! = false) ∧ Rw h0 h' g n c d3) ?_ ?_
    rotate_left
    · intro K2 hK2
      refine br_of (fun hc => ?_) (fun _ => hK2 _ _ ⟨fun hh => (by cases hh), H5⟩)
      have hc : (a' : Int) > 0 := of_decide_eq_true hc
      refine ts H5 (i := a' - 1) (j := q) (by omega) (by omega) (by first | (rw [wr64 (by omega) (by omega)]; omega) | (simp only [IntKind.wrap_i64]; omega)) rfl ?_
      exact hK2 _ _ ⟨fun hh => ⟨by omega, by simpa using hh⟩, H5⟩
    rintro s h6 ⟨hs, H6⟩ _
    refine br_of (fun hs2 => ?_) (fun _ => hK _ _ ⟨rfl, H6⟩)
    obtain ⟨ha0, hnl⟩ := hs hs2
    refine call_of (eq_ok H6 hb' hq1 hq2) ?_
    rintro v h7 ⟨rfl, H7⟩
    obtain ⟨e1, e2, e3, e4, e5⟩ := round_eq swo (partitionEqual_holds _) ha0 hq1 hq2 (by omega) hB3 hnl (mid := (partitionEqual lt d3 a' b' q).1) (d4 := (partitionEqual lt d3 a' b' q).2) rfl
    refine ⟨_, rfl, ⟨_, b', l2, wb, wp, _, rfl, e2, hb', by omega, hl2, e4, H7, fun R r1 r2 => ?_⟩, ?_⟩
    · obtain ⟨r3, r4⟩ := e5 R r1 r2
      exact cont R (permIn_trans _ _ _ _ _ p3 r3) r4
    · generalize (partitionEqual lt d3 a' b' q).1 = z at e1 e2
      exact (by first | omega | (dsimp only; omega) | (simp only []; omega))
  rintro s h6 ⟨hs, H6⟩ _
  have hs : s = (a' : Int) := hs
  subst hs
  refine call_of (prt_ok H6 hb' hq1 hq2) ?_
  rintro v h7 ⟨rfl, H7⟩
  obtain ⟨mid, ap, d4, hx⟩ : ∃ mid ap d4, partition lt d3 a' b' q = (mid, ap, d4) := ⟨_, _, _, rfl⟩
  obtain ⟨r1, r2, r3, r4, r5, r6, r7⟩ := round_part swo (partition_holds _) hq1 hq2 (show b' ≤ d3.size by omega) hB3 hx
  rw [hx] at H7 ⊢
  refine ⟨((mid : Int), ap), rfl, ?_⟩
  have w1 : IntKind.wrap .i64 ((mid : Int) - (a' : Int)) = ((mid - a' : Nat) : Int) := (by first | (rw [wr64 (by omega) (by omega)]; omega) | (simp only [IntKind.wrap_i64]; omega))
  have w2 : IntKind.wrap .i64 ((b' : Int) - (mid : Int)) = ((b' - mid : Nat) : Int) := (by first | (rw [wr64 (by omega) (by omega)]; omega) | (simp only [IntKind.wrap_i64]; omega))
  have w3 : IntKind.wrap .i64 ((mid : Int) + 1) = ((mid + 1 : Nat) : Int) := (by first | (rw [wr64 (by omega) (by omega)]; omega) | (simp only [IntKind.wrap_i64]; omega))
  dsimp only
  rw [w1, w2, w3]
  refine br_of (fun _ => ?_) (fun _ => ?_)
  · refine call_of (ih a' mid l2 d4 h7 (by omega) H7 r1 (by omega) r4 hl2) ?_
    rintro v h8 ⟨rfl, L, q1, q2, H8⟩
    obtain ⟨z1, z2⟩ := r6 L q1 q2
    refine ⟨(), rfl, ⟨mid + 1, b', l2, _, _, L, rfl, by omega, hb', by omega, hl2, z1, H8, fun R y1 y2 => ?_⟩, (by first | omega | (dsimp only; omega) | (simp only []; omega))⟩
    obtain ⟨y3, y4⟩ := z2 R y1 y2
    exact cont R (permIn_trans _ _ _ _ _ p3 y3) y4
  · refine call_of (ih (mid + 1) b' l2 d4 h7 (by omega) H7 (by omega) hb' r5 hl2) ?_
    rintro v h8 ⟨rfl, L, q1, q2, H8⟩
    obtain ⟨z1, z2⟩ := r7 L q1 q2
    refine ⟨(), rfl, ⟨a', mid, l2, _, _, L, rfl, r1, by omega, by omega, hl2, z1, H8, fun R y1 y2 => ?_⟩, (by first | omega | (dsimp only; omega) | (simp only []; omega))⟩
    obtain ⟨y3, y4⟩ := z2 R y1 y2
    exact cont R (permIn_trans _ _ _ _ _ p3 y3) y4
end
end Go.Proofs.YtfanjfbenhocnaaGreatDoor.So
