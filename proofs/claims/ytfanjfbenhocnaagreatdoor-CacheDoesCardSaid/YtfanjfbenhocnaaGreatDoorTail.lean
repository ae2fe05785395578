/-
  The rest of a row of ones own, with its room. Over any program.
-/
import Derived.Test.YtfanjfbenhocnaaGreatDoorSep
import Derived.ArgAppend
namespace Go.Pl
/- THE REST OF A ROW OF ONES OWN, WITH ITS ROOM. -/
/-- What stands at a in a block of its kind, with room to c: the rest of a row that was cut in front. -/
def RowT (h : Heap) (e : TypeId) (a : Option Addr) (n c : Nat) (xs : List Value) : Prop :=
  xs.length = n ∧ n ≤ c ∧ c ≤ maxLen ∧ ((a = none ∧ c = 0) ∨ ∃ g o arr, a = some ⟨g, o, none⟩ ∧ Blk h g arr e ∧ o + c ≤ arr.size ∧ ∀ (j : Nat) (u : Value), xs[j]? = some u → arr[o + j]? = some u)
theorem RowT.own {h : Heap} {base n c : Nat} {e : TypeId} {a : Option Addr} {xs : List Value} (r : OwnH h base e 1 a n c xs) : RowT h e a n c xs := by
  have hr : RowS h e 1 a n c xs := .inl (r.low (Nat.zero_le _))
  refine ⟨by have := hr.len; omega, hr.le, hr.capMax, ?_⟩
  rcases r.row with ⟨hl, ⟨h1, _, h2⟩ | ⟨g, cur, h1, _, h2, h3, h4, h5⟩⟩
  · exact .inl ⟨h1, h2⟩
  · refine .inr ⟨g, 0, cur, h1, h2, by omega, fun j u hu => ?_⟩
    rw [← h5, List.getElem?_take] at hu
    split at hu
    · rw [Nat.zero_add]; simpa using hu
    · cases hu
theorem RowT.keep {h h' : Heap} {n c : Nat} {e : TypeId} {a : Option Addr} {xs : List Value} (r : RowT h e a n c xs) (hk : ∀ g, blkOf a = some g → g < h.size → h'[g]? = h[g]?) : RowT h' e a n c xs := by
  obtain ⟨h1, h2, h3, h4⟩ := r
  refine ⟨h1, h2, h3, ?_⟩
  rcases h4 with h4 | ⟨g, o, arr, e1, hb, r⟩
  · exact .inl h4
  · subst e1
    exact .inr ⟨g, o, arr, rfl, (hk g rfl hb.lt).trans hb, r⟩
theorem RowT.new {h h' : Heap} {n c : Nat} {e : TypeId} {a : Option Addr} {xs : List Value} (r : RowT h e a n c xs) (hn : New h h') : RowT h' e a n c xs := r.keep fun g _ hl => hn.same g hl
theorem RowT.ar {k : IntKind} {h : Heap} {n c : Nat} {e : TypeId} {a : Option Addr} {xs : List Int} (r : RowT h e a n c (xs.map (Value.int k))) : Ar k h a xs := fun i x hx => by
  obtain ⟨h1, h2, _, h4⟩ := r
  rcases h4 with ⟨_, h5⟩ | ⟨g, o, arr, e1, hb, _, hc⟩
  · have := (List.getElem?_eq_some_iff.1 hx).1; simp at h1; omega
  · exact ⟨g, o, e1, hb.lt, by rw [cellH_blk hb]; exact hc i _ (by simp [hx])⟩
theorem RowT.blk_lt {h : Heap} {n c : Nat} {e : TypeId} {a : Option Addr} {xs : List Value} (r : RowT h e a n c xs) : ∀ g, blkOf a = some g → g < h.size := by
  obtain ⟨_, _, _, h4⟩ := r
  intro g hg
  rcases h4 with ⟨h5, _⟩ | ⟨g', o, arr, e1, hb, _⟩
  · subst h5; cases hg
  · subst e1; injection hg with hg; change g' = g at hg; subst hg; exact hb.lt
/-- The row without its first value. -/
theorem RowT.tail {h : Heap} {n c : Nat} {e : TypeId} {a : Option Addr} {x : Value} {xs : List Value} (r : RowT h e a (n + 1) c (x :: xs)) : RowT h e (sliceBase a 1 c 1) n (c - 1) xs ∧ blkOf (sliceBase a 1 c 1) = blkOf a := by
  obtain ⟨h1, h2, h3, h4⟩ := r
  have h1 : xs.length = n := by simpa using h1
  rcases h4 with ⟨_, h5⟩ | ⟨g, o, arr, rfl, hb, hs, hc⟩
  · omega
  · unfold sliceBase
    by_cases hc1 : c = 1
    · rw [if_pos hc1]
      subst hc1
      have : xs = [] := List.eq_nil_of_length_eq_zero (by omega)
      subst this
      exact ⟨⟨h1, by omega, by omega, .inr ⟨g, o, arr, rfl, hb, by omega, fun j u hu => by simp at hu⟩⟩, rfl⟩
    · rw [if_neg hc1]
      refine ⟨⟨h1, by omega, by omega, .inr ⟨g, o + 1, arr, by simp [add_mk], hb, by omega, fun j u hu => ?_⟩⟩, by simp [blkOf, add_mk]⟩
      rw [show o + 1 + j = o + (j + 1) by omega]
      exact hc (j + 1) u (by simpa using hu)
theorem setCells_heap {w : World} {g o : Nat} {v : Value} {arr : Array Value} {e : TypeId} {h : Heap} (hw' : w.heap = h) (hb : Blk h g arr e) : (w.setCells g o [v]).heap = setH h ⟨g, o, none⟩ v := by
  subst hw'
  simp [World.setCells]
  rfl
/-- One value more. -/
theorem RowT.push {P : Program} {t e : TypeId} {bytes : Nat} (hB : apB P t e 1 bytes = true) {h : Heap} {n c : Nat} {a : Option Addr} {xs : List Value} {v : Value} (r : RowT h e a n c xs) (hv : v.oneCell' = true) (hn : n ≤ 1000000) (hby : bytes ≤ 64) {F : Option Addr → Nat → Nat → Heap → Prop}
    (hF : ∀ a' c' h', RowT h' e a' (n + 1) c' (xs ++ [v]) → UpdO (blkOf a) h h' → (blkOf a' = blkOf a ∨ ∃ g, blkOf a' = some g ∧ h.size ≤ g) → F a' (n + 1) c' h') : newW (.cells #[v] e) (fun p h' => apW P #[t, t] #[.slice a n c, .slice (some p) 1 1] F h') h := by
  refine new_of fun h1 b1 n1 s1 => ?_
  have r1 := r.new n1
  have hb : (n + 1) * bytes ≤ 140737488355328 := Nat.le_trans (Nat.mul_le_mul (show n + 1 ≤ 1000001 by omega) hby) (by decide)
  have up : ∀ {h' : Heap}, UpdO (blkOf a) h1 h' → UpdO (blkOf a) h h' := fun u => ⟨Nat.le_trans n1.size u.size, fun k hk hne => (u.same k (Nat.lt_of_lt_of_le hk n1.size) hne).trans (n1.same k hk)⟩
  have nw : ∀ (j : Nat) (u : Value), ([v] : List Value)[j]? = some u → cellH h1 ((⟨h.size, 0, none⟩ : Addr).add j) = some u := fun j u hu => by
    have hj : j = 0 := by have := (List.getElem?_eq_some_iff.1 hu).1; simp at this; omega
    subst hj
    rw [add_mk, cellH_blk b1]; simpa using hu
  obtain ⟨l1, l2, l3, l4⟩ := id r1
  by_cases hroom : n + 1 ≤ c
  · rcases l4 with ⟨_, h5⟩ | ⟨g, o, arr, rfl, hbl, hs, hc⟩
    · omega
    · intro w hw'
      obtain ⟨ht, i, z, hi, hz, hs1, hby', hzs⟩ := apB_spec hB
      have hcell : ∀ j, j < 1 → (w.cell? ⟨g, o + n * i.size + j, none⟩).isSome = true ∧ w.frozen? ⟨g, o + n * i.size + j, none⟩ = false := fun j hj => by
        rw [hs1, Nat.mul_one]
        refine ⟨?_, ?_⟩
        · rw [hw_cell h1 w hw', cellH_blk hbl]
          have : o + n + j < arr.size := by omega
          simp [this]
        · rw [frozenH_eq, hw']; exact frozenH_blk hbl
      have hr := run_append_room_cells (P := P) w t 0 e i ht hi g o n c ⟨h.size, 0, none⟩ 1 1 [v] (by simp [hs1]) (fun j u hu => by rw [hw_cell h1 w hw']; exact nw j u hu) (by simpa using hv) hroom (fun j hj => (hcell j (by simpa using hj)).1) (fun j hj => (hcell j (by simpa using hj)).2)
      have hh := setCells_heap (o := o + n * i.size) (v := v) hw' hbl
      have hbn := setH_blk (o := o + n * i.size) v hbl
      have hon := setH_only (h := h1) (b := g) (o := o + n * i.size) v
      refine ⟨_, _, _, _, hr, ?_, ?_⟩
      · rw [hh]
        rw [hs1, Nat.mul_one] at hbn hon ⊢
        refine hF _ _ _ ⟨by simp [l1], hroom, l3, .inr ⟨g, o, _, rfl, hbn, by simpa using hs, fun j u hu => ?_⟩⟩ (up ⟨by rw [hon.size]; exact Nat.le_refl _, fun k hk hne => hon.same k fun e => hne (by rw [e]; rfl)⟩) (.inl rfl)
        by_cases hj : j < xs.length
        · rw [List.getElem?_append_left hj] at hu
          rw [Array.getElem?_setIfInBounds_ne (by omega)]
          exact hc j u hu
        · have hj' : j < (xs ++ [v]).length := (List.getElem?_eq_some_iff.1 hu).1
          have : j = n := by simp at hj'; omega
          subst this
          rw [List.getElem?_append_right (by omega), l1, Nat.sub_self] at hu
          injection hu with hu
          subst hu
          rw [Array.getElem?_setIfInBounds_self_of_lt (by omega)]
      · simp only [World.setCells]
        exact Rest.setCell w _ _
  · have hnc : c = n := by omega
    subst hnc
    cases ha : a with
    | none =>
      subst ha
      have hx : c = 0 := by rcases l4 with ⟨_, h5⟩ | ⟨g, o, arr, e1, _⟩; exact h5; cases e1
      subst hx
      have hx : xs = [] := List.eq_nil_of_length_eq_zero l1
      subst hx
      refine ap_row hB (RowS.nil h1 e 1) [v] (by simp) nw (by simpa using hv) (by simp [maxLen]) hb fun a' c' h' r' w' ow => hF a' c' h' ?_ (up w'.upd) ?_
      · have := RowT.own (ow (by omega)); simpa using this
      · rcases w'.at_ with h5 | ⟨g, h5, h6, _⟩
        · exact .inl h5
        · exact .inr ⟨g, h5, by omega⟩
    | some b =>
      subst ha
      have rs : RowS h1 e 1 (some b) c c xs := by
        refine RowS.full (by omega) l3 fun j u hu => ?_
        rcases l4 with ⟨e1, _⟩ | ⟨g, o, arr, e1, hbl, _, hc⟩
        · cases e1
        · exact ⟨g, o, e1, hbl.lt, by rw [cellH_blk hbl]; exact hc j u hu⟩
      refine ap_row hB rs [v] (by simp) nw (by simpa using hv) (by simp [maxLen]; omega) hb fun a' c' h' r' w' ow => hF a' c' h' (RowT.own (ow (by omega))) (up w'.upd) ?_
      rcases w'.at_ with h5 | ⟨g, h5, h6, _⟩
      · exact .inl h5
      · exact .inr ⟨g, h5, by omega⟩
end Go.Pl
