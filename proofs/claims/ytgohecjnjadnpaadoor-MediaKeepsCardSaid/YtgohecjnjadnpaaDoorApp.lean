/-
  Appending onto a row of ones own. Over any program.
-/
import Derived.Test.YtgohecjnjadnpaaDoorHeap
import Derived.Laws.AppendOwn
import Derived.Lib.SliceRun
namespace Go.Pl
/- 'append' ONTO A ROW OF ONE's OWN. -/
/-- All blocks that were there but the row are as they were; there may be new ones. -/
structure UpdO (row : Option Nat) (h h' : Heap) : Prop where
  size : h.size ≤ h'.size
  same : ∀ k, k < h.size → some k ≠ row → h'[k]? = h[k]?
def blkOf (a : Option Addr) : Option Nat := a.map (·.block)
/-- The slice a, n, c owns the values xs: a row of its own, from block 'base' on, or none. -/
def OwnH (h : Heap) (base : Nat) (e : TypeId) (size : Nat) (a : Option Addr) (n c : Nat) (xs : List Value) : Prop := (hw h).ownsRow base e size (.slice a n c) n xs
theorem OwnH.nil (h : Heap) (base : Nat) (e : TypeId) (size : Nat) : OwnH h base e size none 0 0 [] := World.ownsRow_nil (hw h) base e size
theorem OwnH.row {h : Heap} {base : Nat} {e : TypeId} {size n c : Nat} {a : Option Addr} {xs : List Value} (o : OwnH h base e size a n c xs) :
    xs.length = n * size ∧ ((a = none ∧ n = 0 ∧ c = 0) ∨ ∃ g cur, a = some ⟨g, 0, none⟩ ∧ base ≤ g ∧ Blk h g cur e ∧ n ≤ c ∧ cur.size = c * size ∧ cur.toList.take (n * size) = xs) := by
  refine ⟨o.1, ?_⟩
  rcases o.2 with ⟨h1, h2⟩ | ⟨g, cap, cur, h1, h2, h3, h4, _, h5, h6⟩
  · injection h1 with h1 h3 h4; exact .inl ⟨h1, h2, h4⟩
  · injection h1 with h1 _ hc; subst hc; exact .inr ⟨g, cur, h1, h2, h3, h4, h5, h6⟩
theorem OwnH.keep {h h' : Heap} {base : Nat} {e : TypeId} {size n c : Nat} {a : Option Addr} {xs : List Value} (o : OwnH h base e size a n c xs) (hk : ∀ g cur, base ≤ g → Blk h g cur e → blkOf a = some g → h'[g]? = h[g]?) : OwnH h' base e size a n c xs := by
  refine ⟨o.1, ?_⟩
  rcases o.2 with h1 | ⟨g, cap, cur, h1, h2, h3, r⟩
  · exact .inl h1
  · refine .inr ⟨g, cap, cur, h1, h2, ?_, r⟩
    injection h1 with h1 _ _
    exact (hk g cur h2 h3 (by rw [h1]; rfl)).trans h3
theorem OwnH.cell {h : Heap} {base : Nat} {e : TypeId} {size n c : Nat} {a : Option Addr} {xs : List Value} (o : OwnH h base e size a n c xs) {j : Nat} {u : Value} (hu : xs[j]? = some u) : ∃ g, a = some ⟨g, 0, none⟩ ∧ base ≤ g ∧ cellH h ⟨g, j, none⟩ = some u := by
  obtain ⟨hl, ⟨_, rfl, _⟩ | ⟨g, cur, rfl, hb, hblk, _, _, ht⟩⟩ := o.row
  · have := (List.getElem?_eq_some_iff.1 hu).1; omega
  · refine ⟨g, rfl, hb, ?_⟩
    rw [cellH_blk hblk]
    rw [← ht, List.getElem?_take] at hu
    split at hu
    · simpa using hu
    · cases hu
def apB (P : Program) (t e : TypeId) (size bytes : Nat) : Bool := match P.underlying t, P.info? e with
  | some (.slice e'), some i => Nat.beq e' e && Nat.beq i.size size && Nat.beq i.bytes bytes && (match i.zero with | some z => Nat.beq z.cells.size size | none => false)
  | _, _ => false
theorem apB_spec {P : Program} {t e : TypeId} {size bytes : Nat} (h : apB P t e size bytes = true) : P.underlying t = some (.slice e) ∧ ∃ i z, P.info? e = some i ∧ i.zero = some z ∧ i.size = size ∧ i.bytes = bytes ∧ z.cells.size = size := by
  unfold apB at h
  split at h
  · rename_i e' i h1 h2
    simp only [Bool.and_eq_true] at h
    obtain ⟨⟨⟨k1, k2⟩, k3⟩, k4⟩ := h
    obtain rfl := Nat.eq_of_beq_eq_true k1
    refine ⟨h1, i, ?_⟩
    split at k4
    · rename_i z hz
      exact ⟨z, h2, hz, Nat.eq_of_beq_eq_true k2, Nat.eq_of_beq_eq_true k3, Nat.eq_of_beq_eq_true k4⟩
    · cases k4
  · cases h
theorem hw_cell (h : Heap) (w : World) (e : w.heap = h) (a : Addr) : w.cell? a = cellH h a := by subst e; rfl
theorem own_world {h : Heap} {base : Nat} {e : TypeId} {size n c : Nat} {a : Option Addr} {xs : List Value} {w : World} (he : w.heap = h) : w.ownsRow base e size (.slice a n c) n xs ↔ OwnH h base e size a n c xs := by
  subst he; rfl
theorem rest_grown {w w' : World} {base : Nat} {e : TypeId} {size n : Nat} {v : Value} {xs : List Value} (o : w.ownsRow base e size v n xs) (g : w.grownBy w' v.ownBlock) : Rest w w' := by
  refine ⟨g.os, g.tape, g.output, g.size, fun i ob hi hp => ?_⟩
  have hlt := (Array.getElem?_eq_some_iff.1 hi).1
  rw [g.block i hlt ?_]
  · exact hi
  · intro he
    rcases o.2 with ⟨rfl, _⟩ | ⟨gb, cap, cur, rfl, _, hg, _⟩
    · cases he
    · injection he with he
      change i = gb at he
      subst he
      rw [hg] at hi; obtain rfl := Option.some.inj hi; cases hp
theorem ap_own {P : Program} {t e : TypeId} {size bytes : Nat} (hB : apB P t e size bytes = true) (hsz : 0 < size) {h : Heap} {base n c : Nat} {a : Option Addr} {xs : List Value} (own : OwnH h base e size a n c xs)
    {x : Addr} {m k : Nat} (news : List Value) (hl : news.length = m * size) (hnews : ∀ j u, news[j]? = some u → cellH h (x.add j) = some u) (h1 : ∀ u ∈ news, u.oneCell' = true)
    (h63 : n + m ≤ maxLen) (hb : (n + m) * bytes ≤ 140737488355328) (hbase : base ≤ h.size) {F : Option Addr → Nat → Nat → Heap → Prop}
    (hF : ∀ a' c' h', OwnH h' base e size a' (n + m) c' (xs ++ news) → UpdO (blkOf a) h h' → F a' (n + m) c' h') : apW P #[t, t] #[.slice a n c, .slice (some x) m k] F h := by
  intro w hw'
  obtain ⟨ht, i, z, hi, hz, hs, hby, hzs⟩ := apB_spec hB
  have ow := (own_world hw').2 own
  obtain ⟨v', w', hr, ho, hg, _⟩ := run_append_own (P := P) w base t 0 e i z size bytes ht hi hz hs hby hzs hsz _ n xs ow x m k news hl (fun j u hu => by rw [hw_cell h w hw']; exact hnews j u hu) h1 h63 hb (by rw [hw']; exact hbase)
  have hrest := rest_grown ow hg
  have hupd : UpdO (blkOf a) h w'.heap := by
    subst hw'
    refine ⟨hg.size, fun k hk hne => hg.block k hk ?_⟩
    cases a with
    | none => exact hne
    | some a => exact hne
  rcases ho.2 with ⟨rfl, h0⟩ | ⟨g, cap, cur, rfl, _⟩
  · have e0 : n + m = 0 := h0
    refine ⟨none, 0, 0, w', hr, ?_, hrest⟩
    have := hF none 0 w'.heap (by rw [e0] at ho ⊢; exact ho) hupd
    rw [e0] at this; exact this
  · exact ⟨_, _, _, w', hr, hF _ _ _ ho hupd, hrest⟩
theorem ap_none {P : Program} {t e : TypeId} {size bytes : Nat} (hB : apB P t e size bytes = true) {h : Heap} {base n c : Nat} {a : Option Addr} {xs : List Value} (own : OwnH h base e size a n c xs) {k : Nat} {F : Option Addr → Nat → Nat → Heap → Prop}
    (hF : F a n c h) : apW P #[t, t] #[.slice a n c, .slice none 0 k] F h := by
  intro w hw'
  obtain ⟨ht, i, z, hi, hz, hs, hby, hzs⟩ := apB_spec hB
  refine ⟨a, n, c, w, ?_, by rw [hw']; exact hF, Rest.refl w⟩
  rcases own.row with ⟨hl, ⟨rfl, rfl, rfl⟩ | ⟨g, cur, rfl, hb, hblk, hnc, _⟩⟩
  · simp [Builtin.append_, run_underlying ht, sizeOf, typeInfo, hi, Builtin.lenOf, Builtin.firstCells]
  · simp [Builtin.append_, run_underlying ht, sizeOf, typeInfo, hi, Builtin.lenOf, Builtin.firstCells, hnc, storeCells]
/-- A cut, by what is known at it. -/
theorem cut_q {ts : List Ty} {A : (TT ts → Heap → Prop) → Heap → Prop} {B : TT ts → (Nat → Value) → Heap → Prop} {h : Heap} (Q : TT ts → Heap → Prop) (hB : ∀ s h', Q s h' → ∀ j, B s j h')
    (hA : ∀ K : TT ts → Heap → Prop, (∀ s h', Q s h' → K s h') → A K h) : cutT ts A B h := hA _ fun s h' hq j => hB s h' hq j
/-- A new row of one-cell elements. -/
theorem mk_of {P : Program} {e : TypeId} {n : Nat} {z : Value} (hs : sizeN P e = 1) (hz : zeroC P e = #[z]) (hb : bytesN P e * n ≤ 2 ^ 48) (hn : n ≤ 9223372036854775807) {F : Option Addr → Nat → Nat → Heap → Prop} {h : Heap}
    (hF : ∀ h', Blk h' h.size (Array.replicate n z) e → New h h' → h'.size = h.size + 1 → F (some ⟨h.size, 0, none⟩) n n h') : mkW P e (n : Int) (n : Int) F h := by
  refine ⟨⟨by omega, by omega, by exact_mod_cast hb, by omega⟩, ?_⟩
  have e1 : zerosOf P e (n * sizeN P e) = Array.replicate n z := by
    rw [hs, Nat.mul_one, zerosOf, hz]
    apply Array.ext
    · simp
    · intro i h1 h2; simp [Nat.mod_one]
  simp only [Int.toNat_natCast]
  rw [e1]
  exact hF _ (Blk.push h _ _) (New.push h _) (by simp)
theorem OwnH.grow {h h' : Heap} {base n c size : Nat} {e : TypeId} {a : Option Addr} {xs : List Value} (o : OwnH h base e size a n c xs) (hn : New h h') : OwnH h' base e size a n c xs := o.keep fun _ _ _ hg _ => hn.same _ hg.lt
theorem OwnH.blk_ge {h : Heap} {base n c size : Nat} {e : TypeId} {a : Option Addr} {xs : List Value} (o : OwnH h base e size a n c xs) : ∀ g, blkOf a = some g → base ≤ g ∧ g < h.size := by
  intro g hg
  rcases o.row.2 with ⟨rfl, _⟩ | ⟨g', cur, rfl, hb, hbl, _⟩
  · cases hg
  · injection hg with hg; change g' = g at hg; subst hg; exact ⟨hb, hbl.lt⟩
theorem UpdO.grow {row : Option Nat} {h0 h1 h2 : Heap} (u : UpdO row h1 h2) (n : New h0 h1) (hr : ∀ g, row = some g → h0.size ≤ g) : New h0 h2 :=
  ⟨Nat.le_trans n.size u.size, fun k hk => (u.same k (Nat.lt_of_lt_of_le hk n.size) (fun e => by have := hr k e.symm; omega)).trans (n.same k hk)⟩
/-- One element of one cell more. -/
theorem push1 {P : Program} {t e : TypeId} {bytes base n c : Nat} {a : Option Addr} {xs : List Value} {h1 : Heap} {v : Value} (hB : apB P t e 1 bytes = true) (ow : OwnH h1 base e 1 a n c xs) (hv : v.oneCell' = true) (hn : n ≤ 1000000) (hby : bytes ≤ 64) (hbase : base ≤ h1.size)
    {F : Option Addr → Nat → Nat → Heap → Prop}
    (hF : ∀ a' c' h2, OwnH h2 base e 1 a' (n + 1) c' (xs ++ [v]) → (∀ h0, New h0 h1 → h0.size ≤ base → New h0 h2) → h1.size ≤ h2.size → F a' (n + 1) c' h2) :
    newW (.cells #[v] e) (fun p h' => apW P #[t, t] #[.slice a n c, .slice (some p) 1 1] F h') h1 := by
  refine new_of fun h2 b2 n2 s2 => ?_
  have ow2 := ow.grow n2
  have hb : (n + 1) * bytes ≤ 140737488355328 := Nat.le_trans (Nat.mul_le_mul (show n + 1 ≤ 1000001 by omega) hby) (by decide)
  refine ap_own hB (by omega) ow2 [v] (by simp) ?_ (by simpa using hv) (by simp [maxLen]; omega) hb (by omega) ?_
  · intro j u hu
    have hj : j = 0 := by have := (List.getElem?_eq_some_iff.1 hu).1; simp at this; omega
    subst hj
    rw [add_mk, cellH_blk b2]; simpa using hu
  · intro a' c' h3 o3 u3
    exact hF a' c' h3 o3 (fun h0 n0 hs => u3.grow (n0.trans n2) fun g hg => by have := (ow2.blk_ge g hg).1; omega) (by have := n2.size; have := u3.size; omega)
end Go.Pl
