/-
  Rows of numbers. Over any program.
-/
import Derived.Test.YtgohecjnjadnpaaDoorReads
import Derived.Test.YtgohecjnjadnpaaDoorApp
namespace Go.Pl
/- ROWS OF NUMBERS. -/
/-- Numbers of kind k stand one behind the other from a on. -/
def Ar (k : IntKind) (h : Heap) (a : Option Addr) (xs : List Int) : Prop := ∀ (i : Nat) (x : Int), xs[i]? = some x → ∃ b o, a = some ⟨b, o, none⟩ ∧ b < h.size ∧ cellH h ⟨b, o + i, none⟩ = some (.int k x)
theorem Ar.nil (k : IntKind) (h : Heap) (a : Option Addr) : Ar k h a [] := fun i x h => by simp at h
theorem Ar.new {k : IntKind} {h h' : Heap} {a : Option Addr} {xs : List Int} (r : Ar k h a xs) (n : New h h') : Ar k h' a xs := fun i x hx => by
  obtain ⟨b, o, e, hp, hc⟩ := r i x hx
  exact ⟨b, o, e, Nat.lt_of_lt_of_le hp n.size, by rw [cellH_new (a := ⟨b, o + i, none⟩) n hp]; exact hc⟩
theorem Ar.upd {k : IntKind} {h h' : Heap} {c : Nat} {a : Option Addr} {xs : List Int} (r : Ar k h a xs) (n : Upd c h h') (hb : blkOf a ≠ some c) : Ar k h' a xs := fun i x hx => by
  obtain ⟨b, o, e, hp, hc⟩ := r i x hx
  subst e
  exact ⟨b, o, rfl, Nat.lt_of_lt_of_le hp n.size, by rw [cellH_updN (a := ⟨b, o + i, none⟩) n hp (fun e => hb (by subst e; rfl))]; exact hc⟩
theorem Ar.cell {k : IntKind} {h : Heap} {a : Option Addr} {xs : List Int} (r : Ar k h a xs) {i : Nat} (hi : i < xs.length) : ∃ b o, a = some ⟨b, o, none⟩ ∧ cellH h ⟨b, o + i, none⟩ = some (.int k xs[i]) := by
  obtain ⟨b, o, e, _, hc⟩ := r i _ (List.getElem?_eq_getElem hi)
  exact ⟨b, o, e, hc⟩
theorem Ar.blk' {k : IntKind} {h : Heap} {b : Nat} {T : TypeId} {arr : Array Value} {xs : List Int} (hb : Blk h b arr T) (e : ∀ (i : Nat) (x : Int), xs[i]? = some x → arr[i]? = some (.int k x)) : Ar k h (some ⟨b, 0, none⟩) xs := fun i x hx =>
  ⟨b, 0, rfl, hb.lt, by rw [Nat.zero_add, cellH_blk hb]; exact e i x hx⟩
theorem Ar.blk {k : IntKind} {h : Heap} {b : Nat} {T : TypeId} {xs : List Int} (hb : Blk h b (xs.map (Value.int k)).toArray T) : Ar k h (some ⟨b, 0, none⟩) xs := Ar.blk' hb fun i x hx => by simp [hx]
/-- What an own row holds. -/
theorem Ar.own {k : IntKind} {h : Heap} {base n c : Nat} {e : TypeId} {a : Option Addr} {xs : List Int} (ow : OwnH h base e 1 a n c (xs.map (Value.int k))) : Ar k h a xs := fun i x hx => by
  have : (xs.map (Value.int k))[i]? = some (.int k x) := by simp [hx]
  obtain ⟨hl, ⟨rfl, rfl, _⟩ | ⟨g, cur, rfl, _, hblk, _, _, ht⟩⟩ := ow.row
  · have h1 := (List.getElem?_eq_some_iff.1 hx).1; simp at hl; rw [hl] at h1; simp at h1
  · refine ⟨g, 0, rfl, hblk.lt, ?_⟩
    rw [Nat.zero_add, cellH_blk hblk]
    rw [← ht, List.getElem?_take] at this
    split at this
    · simpa using this
    · cases this
theorem own_len {k : IntKind} {h : Heap} {base n c : Nat} {e : TypeId} {a : Option Addr} {xs : List Int} (o : OwnH h base e 1 a n c (xs.map (Value.int k))) : n = xs.length := by have := o.row.1; simp at this; omega
/-- A part of a row. -/
theorem Ar.sub {k : IntKind} {h : Heap} {a : Addr} {xs : List Int} (r : Ar k h (some a) xs) (lo : Nat) : Ar k h (some (a.add lo)) (xs.drop lo) := fun i x hx => by
  rw [List.getElem?_drop] at hx
  obtain ⟨b, o, e, hp, hc⟩ := r _ x hx
  injection e with e; subst e
  exact ⟨b, o + lo, by rw [add_mk], hp, by rw [Nat.add_assoc]; exact hc⟩
theorem Ar.take {k : IntKind} {h : Heap} {a : Option Addr} {xs : List Int} (r : Ar k h a xs) (n : Nat) : Ar k h a (xs.take n) := fun i x hx => by
  rw [List.getElem?_take] at hx
  split at hx
  · exact r i x hx
  · cases hx
theorem Ar.drop {k : IntKind} {h : Heap} {a : Option Addr} {xs : List Int} (r : Ar k h a xs) (lo m : Nat) (hm : m ≠ lo ∨ xs.length ≤ lo) : Ar k h (sliceBase a lo m 1) (xs.drop lo) := by
  unfold sliceBase
  by_cases e : m = lo
  · rw [List.drop_eq_nil_of_le (by omega)]; exact Ar.nil _ _ _
  · rw [if_neg e, Nat.mul_one]
    cases a with
    | none =>
      intro i x hx
      rw [List.getElem?_drop] at hx
      obtain ⟨_, _, hp, _⟩ := r _ x hx; cases hp
    | some a => exact r.sub lo
/-- What came in as a row of numbers. -/
theorem Ar.reads {k : IntKind} {h : Heap} {v : Value} {xs : List Int} (r : ReadsV h (.slice (.int k)) v xs) : ∃ a c, v = .slice a xs.length c ∧ xs.length ≤ c ∧ c ≤ maxLen ∧ (a = none → xs.length = 0 ∧ c = 0) ∧ Ar k h a xs ∧ ∀ x ∈ xs, (Lit.int k x).wf = true := by
  obtain ⟨cs, hcs, a, c, e, hl, hc, hn, hr⟩ := r
  simp only at hcs
  subst hcs
  injection e with e
  have hx : ∀ (i : Nat) (x : Int), xs[i]? = some x → ∃ b o, a = some ⟨b, o, none⟩ ∧ b < h.size ∧ cellH h ⟨b, o + i, none⟩ = some (.int k x) ∧ (Lit.int k x).wf = true := by
    intro i x hx
    obtain ⟨b, o, es, e1, hb, hel, hce, e2, hw⟩ := hr i x hx
    have := hce 0 Nat.one_pos
    rw [e2] at this
    refine ⟨b, o, e1, hb, ?_, hw⟩
    simpa [Sh.n] using this
  refine ⟨a, c, e, hl, hc, fun h0 => ⟨?_, hn h0⟩, fun i x hi => ?_, fun x hm => ?_⟩
  · have := hn h0
    have : List.length (α := (Sh.int k).T) xs ≤ 0 := by omega
    exact Nat.le_zero.1 this
  · obtain ⟨b, o, h1, h2, h3, _⟩ := hx i x hi; exact ⟨b, o, h1, h2, h3⟩
  · obtain ⟨i, hi⟩ := List.mem_iff_getElem?.1 hm
    exact (hx i x hi).choose_spec.choose_spec.2.2.2
/-- A number of a row, through an index. -/
theorem ix_ld {k : IntKind} {h : Heap} {a : Option Addr} {xs : List Int} (r : Ar k h a xs) {i n : Nat} (hi : i < xs.length) (hn : i < n) {F : Int → Prop} (hF : F xs[i]) :
    ptrW a (fun p => idxW (i : Int) n true (ldW (.int k) (Addr.add p (Int.toNat (i : Int) * 1)) F h)) := by
  obtain ⟨b, o, rfl, hc⟩ := r.cell hi
  exact ⟨⟨by omega, rfl⟩, ld_of (c := .int k) xs[i] (by rw [Int.toNat_natCast, Nat.mul_one, add_mk]; exact hc) hF⟩
theorem ix_ld' {k : IntKind} {h : Heap} {p : Addr} {xs : List Int} (r : Ar k h (some p) xs) {i n : Nat} (hi : i < xs.length) (hn : i < n) {F : Int → Prop} (hF : F xs[i]) :
    idxW (i : Int) n true (ldW (.int k) (Addr.add p (Int.toNat (i : Int) * 1)) F h) := ix_ld r hi hn hF
/-- The same at an index that is told as a number. -/
theorem ix_lit {k : IntKind} {h : Heap} {a : Option Addr} {xs : List Int} (r : Ar k h a xs) {j : Int} {n : Nat} (i : Nat) (hj : j = (i : Int)) (hi : i < xs.length) (hn : i < n) {F : Int → Prop} (hF : F xs[i]) :
    ptrW a (fun p => idxW j n true (ldW (.int k) (Addr.add p (Int.toNat j * 1)) F h)) := by subst hj; exact ix_ld r hi hn hF
/-- A row that is filled, one by one. -/
def fillA (n : Nat) (f : Nat → Value) (i : Nat) (z : Value) : Array Value := ((List.range n).map fun j => if j < i then f j else z).toArray
theorem fillA_size (n : Nat) (f : Nat → Value) (i : Nat) (z : Value) : (fillA n f i z).size = n := by simp [fillA]
theorem fillA_get {n : Nat} {f : Nat → Value} {i j : Nat} {z : Value} (hj : j < n) : (fillA n f i z)[j]? = some (if j < i then f j else z) := by simp [fillA, hj]
theorem fillA_zero (n : Nat) (f : Nat → Value) (z : Value) : fillA n f 0 z = Array.replicate n z := by
  apply Array.ext
  · simp [fillA]
  · intro i h1 h2; simp [fillA]
theorem fillA_set (n : Nat) (f : Nat → Value) (i : Nat) (z v : Value) (hv : v = f i) : (fillA n f i z).setIfInBounds i v = fillA n f (i + 1) z := by
  subst hv
  apply Array.ext_getElem?
  intro j
  by_cases e : i = j
  · subst e
    by_cases hi : i < n
    · rw [Array.getElem?_setIfInBounds_self_of_lt (by rw [fillA_size]; exact hi), fillA_get hi, if_pos (by omega)]
    · rw [Array.getElem?_eq_none (by simp [fillA_size]; omega), Array.getElem?_eq_none (by rw [fillA_size]; omega)]
  · rw [Array.getElem?_setIfInBounds_ne e]
    by_cases hj : j < n
    · rw [fillA_get hj, fillA_get hj]
      congr 1
      by_cases h : j < i
      · rw [if_pos h, if_pos (by omega)]
      · rw [if_neg h, if_neg (by omega)]
    · rw [Array.getElem?_eq_none (by rw [fillA_size]; omega), Array.getElem?_eq_none (by rw [fillA_size]; omega)]
theorem fillA_full (n : Nat) (f : Nat → Value) (z : Value) : fillA n f n z = ((List.range n).map f).toArray := by
  apply Array.ext
  · simp [fillA]
  · intro i h1 h2; simp [fillA] at h1 ⊢; intro hh; omega
/- OWN ROWS, MORE. -/
theorem OwnH.grow' {h h' : Heap} {base n c size : Nat} {e : TypeId} {a : Option Addr} {xs : List Value} (o : OwnH h base e size a n c xs) (hn : New h h') : OwnH h' base e size a n c xs := o.grow hn
theorem OwnH.upd {h h' : Heap} {base n c size b : Nat} {e : TypeId} {a : Option Addr} {xs : List Value} (o : OwnH h base e size a n c xs) (hn : Upd b h h') (hb : blkOf a ≠ some b) : OwnH h' base e size a n c xs :=
  o.keep fun g _ _ hg e => hn.same g hg.lt fun hh => hb (by rw [e, hh])
theorem OwnH.low {h : Heap} {base base' n c size : Nat} {e : TypeId} {a : Option Addr} {xs : List Value} (o : OwnH h base e size a n c xs) (hb : base' ≤ base) : OwnH h base' e size a n c xs := by
  refine ⟨o.1, ?_⟩
  rcases o.2 with h1 | ⟨g, cap, cur, h1, h2, r⟩
  · exact .inl h1
  · exact .inr ⟨g, cap, cur, h1, Nat.le_trans hb h2, r⟩
/-- A new block is an own row. -/
theorem OwnH.of_blk {h : Heap} {base b n size : Nat} {e : TypeId} {arr : Array Value} (hb : Blk h b arr e) (hbase : base ≤ b) (hs : arr.size = n * size) (hn : n ≤ maxLen) : OwnH h base e size (some ⟨b, 0, none⟩) n n arr.toList :=
  ⟨by simp [hs], .inr ⟨b, n, arr, rfl, hbase, hb, Nat.le_refl _, hn, hs, by rw [List.take_of_length_le (by simp [hs])]⟩⟩
/-- One more number. -/
theorem pushI {P : Program} {t e : TypeId} {k : IntKind} {bytes base n c : Nat} {a : Option Addr} {xs : List Int} {x : Int} {h1 : Heap} (hB : apB P t e 1 bytes = true) (ow : OwnH h1 base e 1 a n c (xs.map (Value.int k))) (hn : n ≤ 1000000) (hby : bytes ≤ 64) (hbase : base ≤ h1.size)
    {F : Option Addr → Nat → Nat → Heap → Prop}
    (hF : ∀ a' c' h2, OwnH h2 base e 1 a' (xs ++ [x]).length c' ((xs ++ [x]).map (Value.int k)) → (∀ h0, New h0 h1 → h0.size ≤ base → New h0 h2) → h1.size ≤ h2.size → F a' (n + 1) c' h2) :
    newW (.cells #[.int k x] e) (fun p h' => apW P #[t, t] #[.slice a n c, .slice (some p) 1 1] F h') h1 := by
  have hl := own_len ow
  refine push1 hB ow rfl hn hby hbase fun a' c' h2 o2 n2 s2 => hF a' c' h2 ?_ n2 s2
  rw [List.map_append, List.length_append, List.length_singleton, ← hl]; exact o2
/-- A row of numbers behind an own one. -/
theorem ap_ints {P : Program} {t e : TypeId} {k : IntKind} {bytes : Nat} (hB : apB P t e 1 bytes = true) {h : Heap} {base n c : Nat} {a b : Option Addr} {xs ys : List Int} {m cb : Nat} (own : OwnH h base e 1 a n c (xs.map (Value.int k)))
    (r : Ar k h b ys) (hm : m = ys.length) (hcb : b = none → m = 0) (hn : n + m ≤ 1000000) (hby : bytes ≤ 64) (hbase : base ≤ h.size) {F : Option Addr → Nat → Nat → Heap → Prop}
    (hF : ∀ a' c' h', OwnH h' base e 1 a' (xs ++ ys).length c' ((xs ++ ys).map (Value.int k)) → UpdO (blkOf a) h h' → F a' (xs ++ ys).length c' h') : apW P #[t, t] #[.slice a n c, .slice b m cb] F h := by
  have hl := own_len own
  cases b with
  | none =>
    have : m = 0 := hcb rfl
    subst this
    have : ys = [] := List.eq_nil_of_length_eq_zero hm.symm
    subst this
    refine ap_none hB own ?_
    have := hF a c h (by rw [List.append_nil, ← hl]; exact own) ⟨Nat.le_refl _, fun _ _ _ => rfl⟩
    rw [List.append_nil, ← hl] at this; exact this
  | some b =>
    have hb : (n + m) * bytes ≤ 140737488355328 := Nat.le_trans (Nat.mul_le_mul hn hby) (by decide)
    have hlen : (xs ++ ys).length = n + m := by rw [List.length_append]; omega
    refine ap_own hB (by omega) own (ys.map (Value.int k)) (by simp [hm]) ?_ ?_ (by simp [maxLen]; omega) hb hbase ?_
    · intro j u hu
      rw [List.getElem?_map] at hu
      cases hy : ys[j]? with
      | none => rw [hy] at hu; cases hu
      | some y =>
        rw [hy] at hu; injection hu with hu; subst hu
        obtain ⟨b', o, e, _, hc⟩ := r j y hy
        injection e with e; subst e
        rw [add_mk]; exact hc
    · intro u hu
      obtain ⟨y, _, rfl⟩ := List.mem_map.1 hu
      rfl
    · intro a' c' h' o u
      rw [← List.map_append] at o
      have := hF a' c' h' (by rw [hlen]; exact o) u
      rw [hlen] at this; exact this
theorem Ext.new {h h' : Heap} (e : Ext h h') : New h h' := by
  obtain ⟨l, rfl⟩ := e
  exact ⟨by simp, fun k hk => by rw [Array.getElem?_append_left hk]⟩
theorem setsA_all {arr : Array Value} {vs : List Value} (hl : vs.length = arr.size) : setsA arr 0 vs = vs.toArray := by
  apply Array.ext_getElem?
  intro i
  rw [setsA_get]
  by_cases hi : i < arr.size
  · rw [if_pos ⟨Nat.zero_le _, by omega, hi⟩]; simp
  · rw [if_neg (by omega), Array.getElem?_eq_none (by omega), Array.getElem?_eq_none (by simp; omega)]
/-- A new block that is laid at once. -/
theorem new_stL {arr : Array Value} {T : TypeId} {vs : List Value} {G : Addr → Heap → Prop} {h : Heap} (hl : vs.length = arr.size) (hG : ∀ h', Blk h' h.size vs.toArray T → New h h' → h.size < h'.size → G ⟨h.size, 0, none⟩ h') :
    newW (.cells arr T) (fun a h1 => stLW a vs (fun h2 => G a h2) h1) h :=
  new_of fun h1 b1 n1 s1 => stL_blk b1 (by omega) fun h2 b2 o2 => hG h2 (by rw [setsA_all hl] at b2; exact b2) (o2.upd.new n1 (Nat.le_refl _)) (by have := o2.size; omega)
theorem new_st {z : Value} {T : TypeId} {v : Value} {G : Addr → Heap → Prop} {h : Heap} (hG : ∀ h', Blk h' h.size #[v] T → New h h' → h.size < h'.size → G ⟨h.size, 0, none⟩ h') :
    newW (.cells #[z] T) (fun a h1 => stW a v (fun h2 => G a h2) h1) h :=
  new_of fun h1 b1 n1 s1 => st_blk b1 (Nat.one_pos) fun h2 b2 o2 => hG h2 b2 (o2.upd.new n1 (Nat.le_refl _)) (by have := o2.size; omega)
/-- All blocks below 'base' are as they were; there may be new ones. -/
structure Abo (base : Nat) (h h' : Heap) : Prop where
  size : h.size ≤ h'.size
  same : ∀ k, k < base → k < h.size → h'[k]? = h[k]?
theorem Abo.refl (base : Nat) (h : Heap) : Abo base h h := ⟨Nat.le_refl _, fun _ _ _ => rfl⟩
theorem Abo.trans {base : Nat} {x y z : Heap} (h : Abo base x y) (k : Abo base y z) : Abo base x z := ⟨Nat.le_trans h.size k.size, fun i hb hi => (k.same i hb (Nat.lt_of_lt_of_le hi h.size)).trans (h.same i hb hi)⟩
theorem New.abo {base : Nat} {x y : Heap} (n : New x y) : Abo base x y := ⟨n.size, fun k _ hk => n.same k hk⟩
theorem Upd.abo {base b : Nat} {x y : Heap} (n : Upd b x y) (hb : base ≤ b) : Abo base x y := ⟨n.size, fun k h1 hk => n.same k hk (by omega)⟩
theorem Abo.low {base base' : Nat} {x y : Heap} (n : Abo base x y) (hb : base' ≤ base) : Abo base' x y := ⟨n.size, fun k h1 hk => n.same k (by omega) hk⟩
theorem Abo.new {x y : Heap} (n : Abo x.size x y) : New x y := ⟨n.size, fun k hk => n.same k hk hk⟩
theorem Abo.from {base : Nat} {w x y : Heap} (n : New w x) (a : Abo base x y) (hb : w.size ≤ base) : New w y := ⟨Nat.le_trans n.size a.size, fun k hk => (a.same k (by omega) (Nat.lt_of_lt_of_le hk n.size)).trans (n.same k hk)⟩
theorem Blk.abo {base : Nat} {h h' : Heap} {b : Nat} {arr : Array Value} {T : TypeId} (hb : Blk h b arr T) (n : Abo base h h') (hl : b < base) : Blk h' b arr T := (n.same b hl hb.lt).trans hb
theorem Ar.abo {k : IntKind} {base : Nat} {h h' : Heap} {a : Option Addr} {xs : List Int} (r : Ar k h a xs) (n : Abo base h h') (hl : ∀ g, blkOf a = some g → g < base) : Ar k h' a xs := fun i x hx => by
  obtain ⟨b, o, e, hp, hc⟩ := r i x hx
  subst e
  refine ⟨b, o, rfl, Nat.lt_of_lt_of_le hp n.size, ?_⟩
  rw [← hc]
  exact World.cell?_of_block (w := hw h) (w' := hw h') (a := ⟨b, o + i, none⟩) (n.same b (hl b rfl) hp)
theorem OwnH.cap {h : Heap} {base n c size : Nat} {e : TypeId} {a : Option Addr} {xs : List Value} (o : OwnH h base e size a n c xs) : n ≤ c := by
  rcases o.row.2 with ⟨_, h1, _⟩ | ⟨g, cur, _, _, _, h1, _⟩
  · omega
  · exact h1
/-- Data of a shape stand one behind the other from a on. -/
def SlAt (h : Heap) (e : Sh) (a : Option Addr) (l : List e.T) : Prop := ∀ (i : Nat) (x : e.T), l[i]? = some x → ∃ b o es, a = some ⟨b, o, none⟩ ∧ b < h.size ∧ es.length = e.n ∧ (∀ j, j < e.n → cellH h ⟨b, o + (i * e.n + j), none⟩ = es[j]?) ∧ Reads h e es x
theorem SlAt.new {h h' : Heap} {e : Sh} {a : Option Addr} {l : List e.T} (r : SlAt h e a l) (n : New h h') : SlAt h' e a l := fun i x hi => by
  obtain ⟨b, o, es, e1, hp, hl, hc, r⟩ := r i x hi
  exact ⟨b, o, es, e1, Nat.lt_of_lt_of_le hp n.size, hl, fun j hj => by rw [cellH_new n (a := ⟨b, o + (i * _ + j), none⟩) hp]; exact hc j hj, r.new n⟩
theorem SlAt.reads {h : Heap} {e : Sh} {v : Value} {l : List e.T} (r : ReadsV h (.slice e) v l) : ∃ a c, v = .slice a l.length c ∧ l.length ≤ c ∧ c ≤ maxLen ∧ (a = none → l.length = 0 ∧ c = 0) ∧ SlAt h e a l := by
  obtain ⟨cs, hcs, a, c, e1, hl, hc, hn, hr⟩ := r
  simp only at hcs
  subst hcs
  injection e1 with e1
  exact ⟨a, c, e1, hl, hc, fun h0 => ⟨by have := hn h0; omega, hn h0⟩, hr⟩
/-- A struct of a row, loaded at once. -/
theorem agg_at {cs : List CTy} {b o i k n : Nat} {es : List Value} {F : CT cs → Prop} {h : Heap} (s : CT cs) (hc : ∀ j, j < k → cellH h ⟨b, o + (i * k + j), none⟩ = es[j]?) (hs : es = cvals cs s) (hk : es.length = k) (hn : i < n) (hF : F s) :
    ptrW (some ⟨b, o, none⟩) (fun p => idxW (i : Int) n true (ldAggW cs (Addr.add p (Int.toNat (i : Int) * k)) F h)) := by
  refine ⟨⟨by omega, rfl⟩, s, ?_, hF⟩
  rw [← hs]
  have key : ∀ (l : List Value) (q : Nat), (∀ j, j < l.length → cellH h ⟨b, o + (i * k + (q + j)), none⟩ = l[j]?) → cellsAre h (Addr.add ⟨b, o, none⟩ (Int.toNat (i : Int) * k)) q l := by
    intro l
    induction l with
    | nil => intro q _; trivial
    | cons v l ih =>
      intro q hh
      refine ⟨?_, ih (q + 1) fun j hj => ?_⟩
      · have := hh 0 (by simp)
        rw [add_mk, add_mk, Int.toNat_natCast, Nat.add_assoc]; simpa using this
      · have := hh (j + 1) (by simp; omega)
        rw [show q + 1 + j = q + (j + 1) by omega, this]; simp
  exact key es 0 fun j hj => by rw [Nat.zero_add]; exact hc j (by omega)
/-- A row of numbers that a call made: it is the call's own, and nothing that was there is turned. -/
def Fresh (k : IntKind) (T : TypeId) (h h' : Heap) (v : Value) (xs : List Int) : Prop := ∃ a c, v = .slice a xs.length c ∧ OwnH h' h.size T 1 a xs.length c (xs.map (Value.int k)) ∧ New h h'
theorem ck_t {b : Bool} {F : Prop} (hb : b = true) (hF : F) : ckB b F := by subst hb; exact hF
theorem ptr_of {a : Addr} {F : Addr → Prop} (h : F a) : ptrW (some a) F := h
theorem tdiv_nat {i k : Nat} : Int.tdiv (i : Int) (k : Int) = ((i / k : Nat) : Int) := by rw [Int.tdiv_eq_ediv_of_nonneg (by omega)]; simp
theorem tmod_nat {i k : Nat} : Int.tmod (i : Int) (k : Int) = ((i % k : Nat) : Int) := by rw [Int.tmod_eq_emod_of_nonneg (by omega)]; simp
theorem pushA {P : Program} {t e : TypeId} {k : IntKind} {bytes base n c : Nat} {a : Option Addr} {xs : List Int} {x : Int} {h1 : Heap} (hB : apB P t e 1 bytes = true) (ow : OwnH h1 base e 1 a n c (xs.map (Value.int k))) (hn : n ≤ 1000000) (hby : bytes ≤ 64) (hbase : base ≤ h1.size)
    {F : Option Addr → Nat → Nat → Heap → Prop}
    (hF : ∀ a' c' h2, OwnH h2 base e 1 a' (n + 1) c' ((xs ++ [x]).map (Value.int k)) → Abo base h1 h2 → F a' (n + 1) c' h2) :
    newW (.cells #[.int k x] e) (fun p h' => apW P #[t, t] #[.slice a n c, .slice (some p) 1 1] F h') h1 := by
  have hl := own_len ow
  have hl2 : (xs ++ [x]).length = n + 1 := by simp [hl]
  refine pushI hB ow hn hby hbase fun a' c' h2 o2 n2 s2 => hF a' c' h2 (by rw [hl2] at o2; exact o2) ⟨s2, fun i hi hk => ?_⟩
  have hs : (h1.extract 0 base).size = base := by simp [hbase]
  have hn0 : New (h1.extract 0 base) h1 := ⟨by rw [hs]; exact hbase, fun j hj => by rw [hs] at hj; rw [Array.getElem?_extract, if_pos (by omega)]; simp⟩
  have := (n2 _ hn0 (by rw [hs]; exact Nat.le_refl _)).same i (by rw [hs]; exact hi)
  rw [this, Array.getElem?_extract, if_pos (by omega)]; simp
theorem UpdO.abo {row : Option Nat} {base : Nat} {h h' : Heap} (u : UpdO row h h') (hr : ∀ g, row = some g → base ≤ g) : Abo base h h' :=
  ⟨u.size, fun k hk hl => u.same k hl fun e => by have := hr k e.symm; omega⟩
end Go.Pl
