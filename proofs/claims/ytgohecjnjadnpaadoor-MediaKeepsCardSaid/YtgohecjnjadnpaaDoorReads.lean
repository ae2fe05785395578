/-
  What came in, read as data. Over any program.
-/
import Derived.Test.YtgohecjnjadnpaaDoorClose
import Derived.ChangeOld
namespace Go.Pl
open Go.RowKit Go.WideShapes Go.ChangeShapes Go.Deep
/- WHAT CAME IN, READ AS DATA. -/
/-- The shapes of data: whole numbers, bools, strings, slices, and what stands one behind the other. -/
inductive Sh where
  | int (k : IntKind) | bool | str | slice (e : Sh) | pair (a b : Sh)
def Sh.T : Sh → Type
  | .int _ => Int | .bool => Bool | .str => ByteArray | .slice e => List e.T | .pair a b => a.T × b.T
def Sh.n : Sh → Nat
  | .pair a b => a.n + b.n
  | _ => 1
/-- The cells cs, at a heap, hold the datum. -/
def Reads (h : Heap) : (s : Sh) → List Value → s.T → Prop
  | .int k, cs, (n : Int) => cs = [.int k n] ∧ (Lit.int k n).wf = true
  | .bool, cs, (b : Bool) => cs = [.bool b]
  | .str, cs, (x : ByteArray) => cs = [.string x] ∧ x.size ≤ maxLen
  | .slice e, cs, (l : List e.T) => ∃ (a : Option Addr) (c : Nat), cs = [.slice a l.length c] ∧ l.length ≤ c ∧ c ≤ maxLen ∧ (a = none → c = 0) ∧
      ∀ (i : Nat) (x : e.T), l[i]? = some x → ∃ b o es, a = some ⟨b, o, none⟩ ∧ b < h.size ∧ es.length = e.n ∧ (∀ j, j < e.n → cellH h ⟨b, o + (i * e.n + j), none⟩ = es[j]?) ∧ Reads h e es x
  | .pair a b, cs, x => ∃ c1 c2, cs = c1 ++ c2 ∧ Reads h a c1 x.1 ∧ Reads h b c2 x.2
/-- The same, of a value. -/
def ReadsV (h : Heap) (s : Sh) (v : Value) (x : s.T) : Prop := ∃ cs : List Value, (match s with | .pair _ _ => v = .agg cs.toArray | _ => cs = [v]) ∧ Reads h s cs x
theorem Sh.n_pos : ∀ s : Sh, 0 < s.n
  | .pair a b => by have := a.n_pos; simp only [Sh.n]; omega
  | .int _ => Nat.one_pos
  | .bool => Nat.one_pos
  | .str => Nat.one_pos
  | .slice _ => Nat.one_pos
theorem add_block (a : Addr) (n : Nat) : (a.add n).block = a.block := by unfold Addr.add; split <;> rfl
theorem add_off (a : Addr) (n : Nat) : (a.add n).off = a.off + n := by unfold Addr.add; split <;> simp_all
theorem cellH_new {h h' : Heap} {a : Addr} (hn : New h h') (ha : a.block < h.size) : cellH h' a = cellH h a :=
  World.cell?_of_block (w := hw h) (w' := hw h') (a := a) (hn.same a.block ha)
theorem cellH_updN {h h' : Heap} {a : Addr} {b : Nat} (hn : Upd b h h') (ha : a.block < h.size) (hb : a.block ≠ b) : cellH h' a = cellH h a :=
  World.cell?_of_block (w := hw h) (w' := hw h') (a := a) (hn.same a.block ha hb)
theorem Reads.len {h : Heap} : ∀ {s : Sh} {cs : List Value} {x : s.T}, Reads h s cs x → cs.length = s.n
  | .int _, _, _, ⟨e, _⟩ => by subst e; rfl
  | .bool, _, _, e => by cases e; rfl
  | .str, _, _, ⟨e, _⟩ => by subst e; rfl
  | .slice _, _, _, ⟨_, _, e, _⟩ => by subst e; rfl
  | .pair _ _, _, _, ⟨_, _, e, h1, h2⟩ => by subst e; rw [List.length_append, h1.len, h2.len]; rfl
theorem Reads.new {h h' : Heap} (n : New h h') : ∀ {s : Sh} {cs : List Value} {x : s.T}, Reads h s cs x → Reads h' s cs x
  | .int _, _, _, r => r
  | .bool, _, _, r => r
  | .str, _, _, r => r
  | .slice _, _, _, ⟨a, c, e, h1, h2, h3, h4⟩ => ⟨a, c, e, h1, h2, h3, fun i x hi => by
      obtain ⟨b, o, es, e1, hp, hl, hc, r⟩ := h4 i x hi
      exact ⟨b, o, es, e1, Nat.lt_of_lt_of_le hp n.size, hl, fun j hj => by rw [cellH_new n (a := ⟨b, o + (i * _ + j), none⟩) hp]; exact hc j hj, r.new n⟩⟩
  | .pair _ _, _, _, ⟨c1, c2, e, h1, h2⟩ => ⟨c1, c2, e, h1.new n, h2.new n⟩
theorem ReadsV.new {h h' : Heap} (n : New h h') {s : Sh} {v : Value} {x : s.T} : ReadsV h s v x → ReadsV h' s v x := fun ⟨cs, h1, h2⟩ => ⟨cs, h1, h2.new n⟩
/- The shape of a type, by the tables. -/
def shFs (P : Program) (f : TypeId → Option Sh) : List (TypeId × Nat) → Nat → Option Sh
  | [], _ => none
  | (t, o) :: r, off => match f t with
    | none => none
    | some s => match Nat.beq o off && Nat.beq (P.cellsOf t) s.n with
      | false => none
      | true => match r with
        | [] => some s
        | y :: r => match shFs P f (y :: r) (off + s.n) with
          | none => none
          | some s2 => some (.pair s s2)
def shOf (P : Program) : Nat → TypeId → Option Sh
  | 0, _ => none
  | d + 1, t => match P.underlying t with
    | some (.int k) => some (.int k)
    | some .bool => some .bool
    | some .string => some .str
    | some (.slice e) => match shOf P d e with
      | some s => match Nat.beq (P.cellsOf e) s.n with | true => some (.slice s) | false => none
      | none => none
    | some (.struct fs) => match shFs P (shOf P d) (fs.toList.map fun f => (f.type, f.offset)) 0 with
      | some s => match Nat.beq (P.cellsOf t) s.n with | true => some s | false => none
      | none => none
    | some (.array n e) => match shFs P (shOf P d) ((List.range n).map fun i => (e, i * P.cellsOf e)) 0 with
      | some s => match Nat.beq (P.cellsOf t) s.n with | true => some s | false => none
      | none => none
    | _ => none
section
variable {H : Type} {enc : TypeId × Value → H} {P : Program} {W : World} {base : Nat} {spare : Nat → Bool} {held : Bool}
theorem shFs_reads {f : TypeId → Option Sh} (hf : ∀ t s, f t = some s → ∀ fuel cs y, DataW.trod enc P W base spare held fuel t cs = some y → cs.length = s.n ∧ ∃ x, Reads W.heap s cs x) :
    ∀ (l : List (TypeId × Nat)) (off : Nat) (s : Sh) (cs : List Value), shFs P f l off = some s → cs.length = off + s.n →
      (∀ (j : Nat) (t : TypeId) (o : Nat), l[j]? = some (t, o) → ∃ n y, DataW.trod enc P W base spare held n t ((cs.drop o).take (P.cellsOf t)) = some y) → ∃ x, Reads W.heap s (cs.drop off) x
  | [], _, _, _, h, _, _ => by cases h
  | (t, o) :: r, off, s, cs, h, hl, hj => by
    unfold shFs at h
    split at h
    · cases h
    · rename_i s0 h0
      split at h
      · cases h
      · rename_i hb
        rw [Bool.and_eq_true] at hb
        have hb1 := Nat.eq_of_beq_eq_true hb.1
        have hb2 := Nat.eq_of_beq_eq_true hb.2
        subst hb1
        obtain ⟨n, y, ht⟩ := hj 0 t o rfl
        obtain ⟨hlen, x0, r0⟩ := hf t s0 h0 _ _ _ ht
        rw [hb2] at r0 hlen
        split at h
        · injection h with h; subst h
          rw [List.take_of_length_le (by rw [List.length_drop]; omega)] at r0
          exact ⟨x0, r0⟩
        · rename_i y2 r2
          split at h
          · cases h
          · rename_i s2 h2
            injection h with h; subst h
            obtain ⟨x2, r3⟩ := shFs_reads hf (y2 :: r2) (o + s0.n) s2 cs h2 (by rw [hl]; simp only [Sh.n]; omega) (fun j t o hh => hj (j + 1) t o hh)
            exact ⟨(x0, x2), _, _, (List.take_append_drop s0.n (cs.drop o)).symm, r0, by rw [List.drop_drop]; exact r3⟩
theorem choose_list {α : Type} {R : Nat → α → Prop} : ∀ n, (∀ i, i < n → ∃ x, R i x) → ∃ l : List α, l.length = n ∧ ∀ (i : Nat) (x : α), l[i]? = some x → R i x
  | 0, _ => ⟨[], rfl, fun i x h => by simp at h⟩
  | n + 1, h => by
    obtain ⟨l, hl, hr⟩ := choose_list n fun i hi => h i (by omega)
    obtain ⟨x, hx⟩ := h n (by omega)
    refine ⟨l ++ [x], by simp [hl], fun i y hy => ?_⟩
    by_cases hi : i < n
    · rw [List.getElem?_append_left (by omega)] at hy; exact hr i y hy
    · rw [List.getElem?_append_right (by omega)] at hy
      have : i - l.length = 0 := by
        rcases Nat.lt_or_ge (i - l.length) 1 with h' | h'
        · omega
        · rw [List.getElem?_eq_none (by simpa using h')] at hy; cases hy
      rw [this] at hy
      have : i = n := by omega
      subst this
      simp at hy; subst hy; exact hx
theorem trod_reads : ∀ (d : Nat) (t : TypeId) (s : Sh), shOf P d t = some s → ∀ (fuel : Nat) (cs : List Value) (y : DataW H × List MemPlace), DataW.trod enc P W base spare held fuel t cs = some y → cs.length = s.n ∧ ∃ x, Reads W.heap s cs x
  | 0, _, _, h, _, _, _, _ => by cases h
  | d + 1, t, s, h, fuel, cs, y, ht => by
    have key : ∃ x, Reads W.heap s cs x := by
      unfold shOf at h
      split at h
      · rename_i k hu
        injection h with h; subst h
        obtain ⟨n, rfl, _, hw⟩ := DataW.trod_int hu ht
        exact ⟨n, rfl, hw⟩
      · rename_i hu
        injection h with h; subst h
        obtain ⟨b, rfl, _⟩ := DataW.trod_bool hu ht
        exact ⟨b, rfl⟩
      · rename_i hu
        injection h with h; subst h
        obtain ⟨b, rfl, _, hs⟩ := DataW.trod_string hu ht
        exact ⟨b, rfl, hs⟩
      · rename_i e hu
        split at h
        · rename_i s0 h0
          split at h
          · rename_i hb
            have hb := Nat.eq_of_beq_eq_true hb
            injection h with h; subst h
            rcases Deep.open_slice hu ht with ⟨rfl, _⟩ | ⟨x, len, cap, m, n, D, Pl, rfl, _, hl, hcap, hm, _, hel⟩
            · exact ⟨([] : List s0.T), none, 0, rfl, Nat.le_refl _, Nat.zero_le _, fun _ => rfl, fun i x hx => by simp at hx⟩
            · have hlm : len ≤ m := by subst hm; split <;> omega
              have hsp : 0 < len → x.spot = none := fun hpos => by
                obtain ⟨cs', hc, ht'⟩ := hel 0 (by omega)
                rw [hb] at hc
                obtain ⟨_, hcl, hat⟩ := World.cells?_some hc
                have hn := s0.n_pos
                have h0 := hat 0 hn
                rw [List.getElem?_eq_getElem (by omega), Nat.zero_mul] at h0
                have h0 : W.cell? x = some cs'[0] := h0
                cases hs : x.spot with
                | none => rfl
                | some q =>
                  unfold World.cell? at h0
                  split at h0
                  · rw [hs] at h0; simp at h0
                  · cases h0
              obtain ⟨l, hll, hlr⟩ := choose_list (α := s0.T) (R := fun i x' => ∃ b o es, some x = some ⟨b, o, none⟩ ∧ b < W.heap.size ∧ es.length = s0.n ∧ (∀ j, j < s0.n → cellH W.heap ⟨b, o + (i * s0.n + j), none⟩ = es[j]?) ∧ Reads W.heap s0 es x') len (fun i hi => by
                obtain ⟨cs', hc, ht'⟩ := hel i (by omega)
                rw [hb] at hc
                obtain ⟨_, hcl, hat⟩ := World.cells?_some hc
                obtain ⟨_, x0, r0⟩ := trod_reads d e s0 h0 _ _ _ ht'
                have hn := s0.n_pos
                obtain ⟨xb, xo, xs⟩ := x
                obtain rfl : xs = none := hsp (by omega)
                refine ⟨x0, xb, xo, cs', rfl, ?_, hcl, fun j hj => ?_, r0⟩
                · have h0 := hat 0 hn
                  rw [List.getElem?_eq_getElem (by omega)] at h0
                  have := World.block_lt_of_cell? W _ h0
                  rwa [add_block, add_block] at this
                · have h1 := hat j (by omega)
                  rw [cellH_eq, add_mk, add_mk, Nat.add_assoc] at h1
                  exact h1)
              exact ⟨l, some x, cap, by rw [hll], by omega, hcap, (fun h => (by cases h)), hlr⟩
          · cases h
        · cases h
      · rename_i fs hu
        split at h
        · rename_i s0 h0
          split at h
          · rename_i hb
            have hb := Nat.eq_of_beq_eq_true hb
            injection h with h; subst h
            obtain ⟨ys, n', _, _, hlen, hyl, hff⟩ := DataW.trod_struct hu ht
            obtain ⟨x, r⟩ := shFs_reads (fun t s h => trod_reads d t s h) _ 0 s0 cs h0 (by omega) (fun j t o hj => by
              rw [List.getElem?_map] at hj
              cases hf : fs.toList[j]? with
              | none => rw [hf] at hj; cases hj
              | some f =>
                rw [hf] at hj
                injection hj with hj; injection hj with h1 h2
                subst h1; subst h2
                have hf' : fs[j]? = some f := by simpa using hf
                have hjl : j < fs.size := (Array.getElem?_eq_some_iff.1 hf').1
                have := hff j f hf'
                rw [List.getElem?_eq_getElem (by omega)] at this
                exact ⟨_, _, this⟩)
            exact ⟨x, r⟩
          · cases h
        · cases h
      · rename_i n e hu
        split at h
        · rename_i s0 h0
          split at h
          · rename_i hb
            have hb := Nat.eq_of_beq_eq_true hb
            injection h with h; subst h
            obtain ⟨ys, n', _, _, hlen, hyl, hff⟩ := DataW.trod_array hu ht
            obtain ⟨x, r⟩ := shFs_reads (fun t s h => trod_reads d t s h) _ 0 s0 cs h0 (by omega) (fun j t o hj => by
              rw [List.getElem?_map] at hj
              cases hf : (List.range n)[j]? with
              | none => rw [hf] at hj; cases hj
              | some f =>
                rw [hf] at hj
                injection hj with hj; injection hj with h1 h2
                subst h1; subst h2
                have hfm : f < n := List.mem_range.1 (List.mem_of_getElem? hf)
                have := hff f hfm
                rw [List.getElem?_eq_getElem (by omega)] at this
                exact ⟨_, _, this⟩)
            exact ⟨x, r⟩
          · cases h
        · cases h
      · cases h
    exact ⟨key.choose_spec.len, key⟩
theorem reads_of {d : Nat} {t : TypeId} {s : Sh} {v : Value} {D : DataW H} {p : List MemPlace} (hs : shOf P d t = some s) (hv : match s with | .pair _ _ => ∃ cs, v = .agg cs | _ => v.cells = #[v])
    (h : DataW.Trod enc P W base spare held t v D p) : ∃ x, ReadsV W.heap s v x := by
  obtain ⟨fuel, hf⟩ := h
  obtain ⟨_, x, r⟩ := trod_reads d t s hs _ _ _ hf
  cases s with
  | pair a b =>
    obtain ⟨cs, rfl⟩ := hv
    exact ⟨x, cs.toList, by simp, by simpa [Value.cells] using r⟩
  | _ => exact ⟨x, [v], rfl, by simp only at hv; rw [hv] at r; exact r⟩
end
end Go.Pl
