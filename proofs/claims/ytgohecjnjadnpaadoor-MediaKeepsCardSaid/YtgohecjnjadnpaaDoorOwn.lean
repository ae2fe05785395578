/-
  Rows that may have room beyond them, and what is copied. Over any program.
-/
import Derived.Test.YtgohecjnjadnpaaDoorArr
import Derived.Laws.IdiomCopy
namespace Go.Pl
/- MANY CELLS AT ONCE: loaded, laid, cleared, copied. -/
theorem ldRaw_blk {n b o : Nat} {arr : Array Value} {T : TypeId} {F : { l : List Value // l.length = n } → Prop} {h : Heap} (hb : Blk h b arr T) (ho : o + n ≤ arr.size)
    (hF : F ⟨(arr.toList.drop o).take n, by simp; omega⟩) : ldRawW n ⟨b, o, none⟩ F h := by
  refine ⟨_, ?_, hF⟩
  have key : ∀ (l : List Value) (i : Nat), (∀ j, j < l.length → arr[o + i + j]? = l[j]?) → cellsAre h ⟨b, o, none⟩ i l := by
    intro l
    induction l with
    | nil => intro i _; trivial
    | cons v l ih =>
      intro i hh
      refine ⟨?_, ih (i + 1) fun j hj => ?_⟩
      · rw [add_mk, cellH_blk hb]; have := hh 0 (by simp); simpa using this
      · have := hh (j + 1) (by simp; omega)
        rw [show o + (i + 1) + j = o + i + (j + 1) by omega, this]; simp
  refine key _ 0 fun j hj => ?_
  simp only [List.length_take, List.length_drop, Array.length_toList] at hj
  rw [List.getElem?_take_of_lt (by omega), List.getElem?_drop]; simp
theorem stRaw_blk {h : Heap} {b o : Nat} {arr : Array Value} {T : TypeId} {vs : List Value} {F : Heap → Prop} (hb : Blk h b arr T) (ho : o + vs.length ≤ arr.size) (h1 : ∀ v ∈ vs, v.oneCell' = true)
    (hF : ∀ h', Blk h' b (setsA arr o vs) T → Only b h h' → F h') : stRawW ⟨b, o, none⟩ vs F h :=
  ⟨⟨h1, canWr_blk hb ho⟩, hF _ (by have := wrH_blk vs h b o 0 arr T hb; simpa using this) (wrH_only vs h b o 0)⟩
theorem new_stRaw {arr : Array Value} {T : TypeId} {vs : List Value} {n : Nat} {G : Addr → Heap → Prop} {h : Heap} (hl : vs.length = n) (ha : arr.size = n) (h1 : ∀ v ∈ vs, v.oneCell' = true)
    (hG : ∀ h', Blk h' h.size vs.toArray T → New h h' → h.size < h'.size → G ⟨h.size, 0, none⟩ h') : newW (.cells arr T) (fun a h1 => vs.length = n ∧ stRawW a vs (fun h2 => G a h2) h1) h :=
  new_of fun h1' b1 n1 s1 => ⟨hl, stRaw_blk b1 (by omega) h1 fun h2 b2 o2 => hG h2 (by rw [setsA_all (by omega)] at b2; exact b2) (o2.upd.new n1 (Nat.le_refl _)) (by have := o2.size; omega)⟩
theorem ints_one {k : IntKind} {xs : List Int} : ∀ v ∈ xs.map (Value.int k), v.oneCell' = true := by
  intro v hv
  obtain ⟨x, _, rfl⟩ := List.mem_map.1 hv
  rfl
/-- The zero cells of n elements. -/
def zerosL (z : Array Value) (n : Nat) : List Value := (Builtin.zeroCells z n).toList
theorem zerosL_len (z : Array Value) (n : Nat) : (zerosL z n).length = n * z.size := by simp [zerosL, Builtin.zeroCells]
theorem zerosL_all {z : Array Value} {n : Nat} {v : Value} (hz : ∀ i, i < z.size → z[i]? = some v) : zerosL z n = List.replicate (n * z.size) v := by
  apply List.ext_getElem?
  intro i
  by_cases hi : i < n * z.size
  · have hp : 0 < z.size := by
      rcases Nat.eq_zero_or_pos z.size with h0 | h0
      · rw [h0] at hi; simp at hi
      · exact h0
    have hlt := Nat.mod_lt i hp
    have := hz _ hlt
    rw [Array.getElem?_eq_getElem hlt] at this
    injection this with this
    rw [List.getElem?_replicate_of_lt hi]
    simp only [zerosL, Builtin.zeroCells, Array.getElem?_toList, Array.getElem?_map]
    rw [Array.getElem?_eq_getElem (by simpa using hi)]
    simp [hlt, this]
  · rw [List.getElem?_eq_none (by rw [zerosL_len]; omega), List.getElem?_eq_none (by simp; omega)]
theorem cl_blk {P : Program} {t e : TypeId} {z : Value} (ht : P.underlying t = some (.slice e)) (hz : zeroV P e = some z) (h1 : ∀ v ∈ z.cells.toList, v.oneCell' = true) {b o n c : Nat} {arr : Array Value} {T : TypeId} {h : Heap} {F : Heap → Prop}
    (hb : Blk h b arr T) (ho : o + n * z.cells.size ≤ arr.size) (hF : ∀ h', Blk h' b (setsA arr o (zerosL z.cells n)) T → Only b h h' → F h') : clW P #[t] #[.slice (some ⟨b, o, none⟩) n c] F h := by
  intro w hw'
  cases n with
  | zero =>
    refine ⟨w, ?_, ?_, Rest.refl w⟩
    · simp [Builtin.clear_, run_underlying ht]
    · rw [hw']
      refine hF h ?_ (Only.refl b h)
      have : zerosL z.cells 0 = [] := by simp [zerosL, Builtin.zeroCells]
      rw [this]; exact hb
  | succ n =>
    have hone : ∀ v ∈ zerosL z.cells (n + 1), v.oneCell' = true := by
      intro v hv
      simp only [zerosL, Builtin.zeroCells, Array.mem_toList_iff, Array.mem_map] at hv
      obtain ⟨i, hi, rfl⟩ := hv
      have hp : 0 < z.cells.size := by
        rcases Nat.eq_zero_or_pos z.cells.size with h0 | h0
        · rw [h0] at hi; simp at hi
        · exact h0
      have hlt := Nat.mod_lt i hp
      have : z.cells[i % z.cells.size]! = z.cells[i % z.cells.size] := by simp [hlt]
      rw [this]
      exact h1 _ (by simp)
    obtain ⟨w', hr, hh, hq⟩ := run_storeCells_wr (P := P) (a := ⟨b, o, none⟩) (zerosL z.cells (n + 1)) 0 w hone (by rw [hw']; exact canWr_blk hb (by rw [zerosL_len]; exact ho))
    refine ⟨w', ?_, ?_, hq⟩
    · have hzr := run_zeroValue' (P := P) hz w
      simp only [zerosL] at hr
      simp [Builtin.clear_, run_underlying ht, hzr, hr]
    · rw [hh, hw']
      exact hF _ (by have := wrH_blk (zerosL z.cells (n + 1)) h b o 0 arr T hb; simpa using this) (wrH_only _ h b o 0)
/-- Numbers that are copied into a block. -/
theorem cp_ints {P : Program} {dT sT e : TypeId} {k : IntKind} (hu : P.underlying dT = some (.slice e)) (hs : (P.info? e).map (·.size) = some 1) {b o n c m cb : Nat} {arr : Array Value} {T : TypeId} {h : Heap} {a : Option Addr} {ys : List Int} {F : Int → Heap → Prop}
    (hb : Blk h b arr T) (ho : o + n ≤ arr.size) (r : Ar k h a ys) (hm : m = ys.length) (hF : ∀ h', Blk h' b (setsA arr o ((ys.take n).map (Value.int k))) T → Only b h h' → F ((min m n : Nat) : Int) h') :
    cpW P #[dT, sT] #[.slice (some ⟨b, o, none⟩) n c, .slice a m cb] F h := by
  intro w hw'
  subst hm
  by_cases h0 : Nat.min ys.length n = 0
  · have e0 : ys.take n = [] := List.eq_nil_of_length_eq_zero (by simpa [Nat.min_comm] using h0)
    refine ⟨0, w, run_copy_none w dT sT 0 e _ a n c ys.length cb hu hs h0, ?_, Rest.refl w⟩
    have := hF h (by rw [e0]; exact hb) (Only.refl b h)
    have e1 : ((min ys.length n : Nat) : Int) = 0 := by have : min ys.length n = 0 := h0; omega
    rw [e1] at this; rw [hw']; exact this
  · have hlt : 0 < ys.length := by
      rcases Nat.eq_zero_or_pos ys.length with h1 | h1
      · rw [h1] at h0; simp at h0
      · exact h1
    obtain ⟨gb, go, rfl, _⟩ := r.cell hlt
    have hcl : ((ys.take n).map (Value.int k)).length = min n ys.length := by simp
    have hsrc : ∀ j v, ((ys.take n).map (Value.int k))[j]? = some v → w.cell? ((⟨gb, go, none⟩ : Addr).add j) = some v := by
      intro j v hj
      rw [List.getElem?_map] at hj
      cases hy : (ys.take n)[j]? with
      | none => rw [hy] at hj; cases hj
      | some y =>
        rw [hy] at hj; injection hj with hj; subst hj
        have hy : ys[j]? = some y := by
          rw [List.getElem?_take] at hy; split at hy
          · exact hy
          · cases hy
        obtain ⟨b', o', e', _, hc⟩ := r j y hy
        injection e' with e'; injection e' with e1 e2
        subst e1; subst e2
        rw [hw_cell h w hw', add_mk]; exact hc
    have hcan := canWr_blk (h := h) (o := o) (n := min n ys.length) hb (by omega)
    have hcell : ∀ j, j < ((ys.take n).map (Value.int k)).length → (w.cell? ⟨b, o + j, none⟩).isSome = true := fun j hj => by
      have := (hcan j (by omega)).1; rw [Nat.zero_add, add_mk] at this; rw [hw_cell h w hw']; exact this
    have hfr : ∀ j, j < ((ys.take n).map (Value.int k)).length → w.frozen? ⟨b, o + j, none⟩ = false := fun j hj => by
      have := (hcan j (by omega)).2; rw [Nat.zero_add, add_mk] at this; subst hw'; exact this
    have hr := run_copy_cells (P := P) w dT sT 0 e b o n c ⟨gb, go, none⟩ ys.length cb ((ys.take n).map (Value.int k)) hu hs (by rw [hcl, Nat.min_comm]) hsrc hcell hfr ints_one
    have hl := run_loadCells_list (P := P) w ⟨gb, go, none⟩ _ hsrc
    obtain ⟨w', hst, hh, hq⟩ := run_storeCells_wr (P := P) (a := ⟨b, o, none⟩) ((ys.take n).map (Value.int k)) 0 w ints_one (by rw [hw', hcl]; exact hcan)
    have e2 := run_storeCells_cells (P := P) b o ((ys.take n).map (Value.int k)) 0 w (by simpa using hcell) (by simpa using hfr) ints_one
    have ew : w.setCells b o ((ys.take n).map (Value.int k)) = w' := by
      have : (storeCells ⟨b, o, none⟩ ((ys.take n).map (Value.int k)) 0).run P w = .ok () (w.setCells b o ((ys.take n).map (Value.int k))) := by simpa using e2
      rw [hst] at this; injection this with _ this; exact this.symm
    refine ⟨((min ys.length n : Nat) : Int), w', ?_, ?_, hq⟩
    · rw [hr, ew, hcl, Nat.min_comm]; rfl
    · rw [hh, hw']
      exact hF _ (by have := wrH_blk ((ys.take n).map (Value.int k)) h b o 0 arr T hb; simpa using this) (wrH_only _ h b o 0)
theorem setsA_ints {k : IntKind} {pre mid post ys : List Int} {tail : List Value} (hl : mid.length = ys.length) :
    setsA (((pre ++ mid ++ post).map (Value.int k)) ++ tail).toArray pre.length (ys.map (Value.int k)) = (((pre ++ ys ++ post).map (Value.int k)) ++ tail).toArray := by
  apply Array.ext_getElem?
  intro i
  rw [setsA_get]
  simp only [List.length_map, List.size_toArray, List.length_append, List.getElem?_toArray, List.map_append, List.append_assoc]
  by_cases h1 : i < pre.length
  · rw [if_neg (by omega), List.getElem?_append_left (by simpa using h1), List.getElem?_append_left (by simpa using h1)]
  · by_cases h2 : i < pre.length + ys.length
    · rw [if_pos (by omega)]
      rw [List.getElem?_append_right (by simp; omega), List.getElem?_append_left (by simp; omega)]
      simp
    · rw [if_neg (by omega)]
      have key : ∀ (A M B : List Value), A.length + M.length ≤ i → (A ++ (M ++ B))[i]? = B[i - A.length - M.length]? := fun A M B hi => by
        rw [List.getElem?_append_right (by omega), List.getElem?_append_right (by omega)]
      rw [key _ _ _ (by simp; omega), key _ _ _ (by simp; omega)]
      simp [hl]
theorem Ar.upd' {k : IntKind} {h h' : Heap} {c : Nat} {a : Option Addr} {xs : List Int} (r : Ar k h a xs) (n : Upd c h h') (hb : xs ≠ [] → blkOf a ≠ some c) : Ar k h' a xs := by
  cases xs with
  | nil => exact Ar.nil _ _ _
  | cons x xs => exact r.upd n (hb (by simp))
theorem Ar.lt {k : IntKind} {h : Heap} {a : Option Addr} {xs : List Int} (r : Ar k h a xs) (hx : xs ≠ []) : ∀ g, blkOf a = some g → g < h.size := by
  intro g hg
  cases xs with
  | nil => exact absurd rfl hx
  | cons x xs =>
    obtain ⟨b, o, rfl, hb, _⟩ := r 0 x rfl
    injection hg with hg; change b = g at hg; subst hg; exact hb
theorem Ar.ne {k : IntKind} {h : Heap} {a : Option Addr} {xs : List Int} (r : Ar k h a xs) {b : Nat} (hb : h.size ≤ b) : xs ≠ [] → blkOf a ≠ some b := fun hx e => by have := r.lt hx b e; omega
theorem mm2_min (x y : Int) : mm2 false x y = min x y := by unfold mm2; simp only; split <;> omega
theorem mm2_max (x y : Int) : mm2 true x y = max x y := by unfold mm2; simp only; split <;> omega
end Go.Pl
