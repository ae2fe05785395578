/-
  Rows that are owned, or full; blocks by their owners. Over any program.
-/
import Derived.Test.YtgohecjnjadnpaaDoorArr
namespace Go.Pl
/- ROWS THAT ARE OWNED, OR FULL. -/
/-- A row that is the slice's own, or a full one: what stands in it is read; what is appended goes into its room, or all into a new block. -/
def RowS (h : Heap) (e : TypeId) (size : Nat) (a : Option Addr) (n c : Nat) (xs : List Value) : Prop :=
  OwnH h 0 e size a n c xs ∨ (c = n ∧ n ≤ maxLen ∧ xs.length = n * size ∧ (∃ b, a = some b) ∧ ∀ (j : Nat) (u : Value), xs[j]? = some u → ∃ g o, a = some ⟨g, o, none⟩ ∧ g < h.size ∧ cellH h ⟨g, o + j, none⟩ = some u)
theorem RowS.nil (h : Heap) (e : TypeId) (size : Nat) : RowS h e size none 0 0 [] := .inl (OwnH.nil h 0 e size)
theorem RowS.nil' (h : Heap) (e : TypeId) (size : Nat) (a : Option Addr) : RowS h e size a 0 0 [] := by
  cases a with
  | none => exact RowS.nil h e size
  | some b => exact .inr ⟨rfl, Nat.zero_le _, by simp, ⟨b, rfl⟩, fun j u hu => by simp at hu⟩
theorem RowS.len {h : Heap} {e : TypeId} {size n c : Nat} {a : Option Addr} {xs : List Value} (r : RowS h e size a n c xs) : xs.length = n * size := by
  rcases r with r | ⟨_, _, r, _⟩
  · exact r.1
  · exact r
theorem RowS.cell {h : Heap} {e : TypeId} {size n c : Nat} {a : Option Addr} {xs : List Value} (r : RowS h e size a n c xs) {j : Nat} {u : Value} (hu : xs[j]? = some u) : ∃ g o, a = some ⟨g, o, none⟩ ∧ g < h.size ∧ cellH h ⟨g, o + j, none⟩ = some u := by
  rcases r with r | ⟨_, _, _, _, hc⟩
  · obtain ⟨g, e1, _, hc⟩ := r.cell hu
    exact ⟨g, 0, e1, (r.blk_ge g (by rw [e1]; rfl)).2, by rw [Nat.zero_add]; exact hc⟩
  · exact hc j u hu
theorem RowS.lt {h : Heap} {e : TypeId} {size n c : Nat} {a : Option Addr} {xs : List Value} (r : RowS h e size a n c xs) (hx : xs ≠ []) : ∀ g, blkOf a = some g → g < h.size := by
  intro g hg
  cases xs with
  | nil => exact (hx rfl).elim
  | cons x xs =>
    obtain ⟨g', o, e1, hl, _⟩ := r.cell (j := 0) (u := x) rfl
    subst e1; injection hg with hg; change g' = g at hg; subst hg; exact hl
theorem RowS.none0 {h : Heap} {e : TypeId} {size n c : Nat} {xs : List Value} (r : RowS h e size none n c xs) : n = 0 ∧ c = 0 ∧ xs = [] := by
  rcases r with r | ⟨_, _, _, ⟨b, e1⟩, _⟩
  · rcases r.row with ⟨hl, ⟨_, rfl, rfl⟩ | ⟨g, cur, e1, _⟩⟩
    · exact ⟨rfl, rfl, List.eq_nil_of_length_eq_zero (by omega)⟩
    · cases e1
  · cases e1
theorem RowS.le {h : Heap} {e : TypeId} {size n c : Nat} {a : Option Addr} {xs : List Value} (r : RowS h e size a n c xs) : n ≤ c := by
  rcases r with r | ⟨h1, _⟩
  · rcases r.row.2 with ⟨_, h1, _⟩ | ⟨g, cur, _, _, _, h1, _⟩
    · omega
    · exact h1
  · omega
theorem RowS.capMax {h : Heap} {e : TypeId} {size n c : Nat} {a : Option Addr} {xs : List Value} (r : RowS h e size a n c xs) : c ≤ maxLen := by
  rcases r with r | ⟨h1, h2, _⟩
  · rcases r.2 with ⟨e1, _⟩ | ⟨g, cap, cur, e1, _, _, _, h1, _⟩
    · injection e1 with _ _ e1; subst e1; exact Nat.zero_le _
    · injection e1 with _ _ e1; subst e1; exact h1
  · omega
theorem cellH_same {h h' : Heap} {g o : Nat} (e : h'[g]? = h[g]?) : cellH h' ⟨g, o, none⟩ = cellH h ⟨g, o, none⟩ := World.cell?_of_block (w := hw h) (w' := hw h') (a := ⟨g, o, none⟩) e
theorem RowS.keep {h h' : Heap} {e : TypeId} {size n c : Nat} {a : Option Addr} {xs : List Value} (r : RowS h e size a n c xs) (hs : h.size ≤ h'.size) (hk : ∀ g, blkOf a = some g → g < h.size → h'[g]? = h[g]?) : RowS h' e size a n c xs := by
  rcases r with r | ⟨h1, h2, h3, hb, hc⟩
  · exact .inl (r.keep fun g _ _ hb hg => hk g hg hb.lt)
  · refine .inr ⟨h1, h2, h3, hb, fun j u hu => ?_⟩
    obtain ⟨g, o, e1, hl, hc'⟩ := hc j u hu
    subst e1
    exact ⟨g, o, rfl, by omega, by rw [cellH_same (hk g rfl hl)]; exact hc'⟩
theorem RowS.new {h h' : Heap} {e : TypeId} {size n c : Nat} {a : Option Addr} {xs : List Value} (r : RowS h e size a n c xs) (hn : New h h') : RowS h' e size a n c xs := r.keep hn.size fun g _ hl => hn.same g hl
/-- A beginning of a row, with no room behind it. -/
theorem RowS.cut {h : Heap} {e : TypeId} {size n c : Nat} {a : Option Addr} {xs : List Value} (r : RowS h e size a n c xs) (m : Nat) (hm : m ≤ n) : RowS h e size a m m (xs.take (m * size)) := by
  have hl := r.len
  have hcm := r.capMax
  have hle := r.le
  have hl2 : (xs.take (m * size)).length = m * size := by rw [List.length_take, hl]; exact Nat.min_eq_left (Nat.mul_le_mul_right _ hm)
  cases a with
  | none =>
    obtain ⟨rfl, rfl, rfl⟩ := r.none0
    obtain rfl : m = 0 := by omega
    rw [List.take_nil]; exact RowS.nil h e size
  | some b => exact .inr ⟨rfl, by omega, hl2, ⟨b, rfl⟩, fun j u hu => r.cell (by rw [List.getElem?_take] at hu; split at hu; exact hu; cases hu)⟩
/-- A row that is only read. -/
theorem RowS.full {h : Heap} {e : TypeId} {size n : Nat} {b : Addr} {xs : List Value} (hl : xs.length = n * size) (hn : n ≤ maxLen) (hc : ∀ (j : Nat) (u : Value), xs[j]? = some u → ∃ g o, some b = some (⟨g, o, none⟩ : Addr) ∧ g < h.size ∧ cellH h ⟨g, o + j, none⟩ = some u) : RowS h e size (some b) n n xs := .inr ⟨rfl, hn, hl, ⟨b, rfl⟩, hc⟩
theorem RowS.blk {h : Heap} {b n size : Nat} {e : TypeId} {xs : List Value} (hb : Blk h b xs.toArray e) (hs : xs.length = n * size) (hn : n ≤ maxLen) : RowS h e size (some ⟨b, 0, none⟩) n n xs :=
  .inl (OwnH.of_blk (base := 0) hb (Nat.zero_le _) (by simpa using hs) hn)
/-- What is read of a row of numbers. -/
theorem RowS.ar {k : IntKind} {h : Heap} {e : TypeId} {n c : Nat} {a : Option Addr} {xs : List Int} (r : RowS h e 1 a n c (xs.map (Value.int k))) : Ar k h a xs := fun i x hx => by
  obtain ⟨g, o, e1, hl, hc⟩ := r.cell (j := i) (u := .int k x) (by simp [hx])
  exact ⟨g, o, e1, hl, hc⟩
theorem RowS.ints_len {k : IntKind} {h : Heap} {e : TypeId} {n c : Nat} {a : Option Addr} {xs : List Int} (r : RowS h e 1 a n c (xs.map (Value.int k))) : n = xs.length := by have := r.len; simp at this; omega
theorem Rest.drawn (w : World) : Rest w w.drew := Rest.of_heap rfl rfl rfl rfl
/-- Where a row lies behind an 'append': where it was, in its room; or in a new block; or nothing was appended. -/
def Went (h : Heap) (a : Option Addr) (h' : Heap) (a' : Option Addr) : Prop :=
  (blkOf a' = blkOf a ∧ UpdO (blkOf a) h h' ∧ h'.size = h.size) ∨ (New h h' ∧ ∃ g, a' = some ⟨g, 0, none⟩ ∧ h.size ≤ g ∧ g < h'.size) ∨ (a' = a ∧ h' = h)
theorem Went.upd {h h' : Heap} {a a' : Option Addr} (w : Went h a h' a') : UpdO (blkOf a) h h' := by
  rcases w with ⟨_, u, _⟩ | ⟨n, _⟩ | ⟨_, rfl⟩
  · exact u
  · exact ⟨n.size, fun k hk _ => n.same k hk⟩
  · exact ⟨Nat.le_refl _, fun _ _ _ => rfl⟩
theorem Went.at_ {h h' : Heap} {a a' : Option Addr} (w : Went h a h' a') : blkOf a' = blkOf a ∨ ∃ g, blkOf a' = some g ∧ h.size ≤ g ∧ g < h'.size := by
  rcases w with ⟨e, _⟩ | ⟨n, g, e, h1, h2⟩ | ⟨e, rfl⟩
  · exact .inl e
  · exact .inr ⟨g, by rw [e]; rfl, h1, h2⟩
  · exact .inl (by rw [e])
/-- What is appended to a row: where it goes. -/
theorem ap_row {P : Program} {t e : TypeId} {size bytes : Nat} (hB : apB P t e size bytes = true) {h : Heap} {n c : Nat} {a : Option Addr} {xs : List Value} (r : RowS h e size a n c xs)
    {x : Addr} {m k : Nat} (news : List Value) (hl : news.length = m * size) (hnews : ∀ (j : Nat) (u : Value), news[j]? = some u → cellH h (x.add j) = some u) (h1 : ∀ u ∈ news, u.oneCell' = true)
    (h63 : n + m ≤ maxLen) (hb : (n + m) * bytes ≤ 140737488355328) {F : Option Addr → Nat → Nat → Heap → Prop}
    (hF : ∀ a' c' h', RowS h' e size a' (n + m) c' (xs ++ news) → Went h a h' a' → (0 < m → OwnH h' 0 e size a' (n + m) c' (xs ++ news)) → F a' (n + m) c' h') : apW P #[t, t] #[.slice a n c, .slice (some x) m k] F h := by
  intro w hw'
  obtain ⟨ht, i, z, hi, hz, hs, hby, hzs⟩ := apB_spec hB
  subst hs; subst hby
  have hrl := r.len
  have hsmall : n + m ≤ 9223372036854775807 := by simp only [maxLen] at h63; omega
  have hlen : (xs ++ news).length = (n + m) * i.size := by rw [List.length_append, hrl, hl, Nat.add_mul]
  have hnw : ∀ (j : Nat) (u : Value), news[j]? = some u → w.cell? (x.add j) = some u := fun j u hu => by rw [hw_cell h w hw']; exact hnews j u hu
  have fresh : ∀ old, old < n + m → ∀ v, v = Value.slice (some ⟨w.heap.size, 0, none⟩) (n + m) (grownCap w (n + m) old e) →
      (Builtin.append_ #[t, t] 0 #[.slice a n c, .slice (some x) m k]).run P w = .ok v (w.drew.alloc (.cells (xs.toArray ++ news.toArray ++ Builtin.zeroCells z.cells (grownCap w (n + m) old e - (n + m))) e)) →
      ∃ a' n' c' w', (Builtin.append_ #[t, t] 0 #[.slice a n c, .slice (some x) m k]).run P w = .ok (.slice a' n' c') w' ∧ F a' n' c' w'.heap ∧ Rest w w' := by
    rintro old ho _ rfl hr
    refine ⟨_, _, _, _, hr, ?_, (Rest.drawn w).trans (Rest.alloc _ _)⟩
    have hge := grownCap_ge w (n + m) old e
    have hcm : grownCap w (n + m) old e ≤ maxLen := grownCap_le_maxLen w (n + m) old e h63
    have hpush : (w.drew.alloc (.cells (xs.toArray ++ news.toArray ++ Builtin.zeroCells z.cells (grownCap w (n + m) old e - (n + m))) e)).heap = h.push (.cells (xs.toArray ++ news.toArray ++ Builtin.zeroCells z.cells (grownCap w (n + m) old e - (n + m))) e) := by
      show w.heap.push _ = _
      rw [hw']
    rw [hpush, hw']
    have hN : New h (h.push (.cells (xs.toArray ++ news.toArray ++ Builtin.zeroCells z.cells (grownCap w (n + m) old e - (n + m))) e)) := New.push h _
    have hO : OwnH (h.push (.cells (xs.toArray ++ news.toArray ++ Builtin.zeroCells z.cells (grownCap w (n + m) old e - (n + m))) e)) 0 e i.size (some ⟨h.size, 0, none⟩) (n + m) (grownCap w (n + m) old e) (xs ++ news) := by
      refine ⟨hlen, .inr ⟨h.size, _, _, rfl, Nat.zero_le _, Blk.push h _ _, hge, hcm, ?_, ?_⟩⟩
      · simp only [Array.size_append, List.size_toArray, size_zeroCells, hzs, hrl, hl, ← Nat.add_mul]
        congr 1
        omega
      · simp only [Array.toList_append, List.append_assoc]
        rw [← List.append_assoc, ← hlen]
        exact List.take_left
    exact hF _ _ _ (.inl hO) (.inr (.inl ⟨hN, h.size, rfl, Nat.le_refl _, by simp⟩)) fun _ => hO
  by_cases hm : m = 0
  · subst hm
    have hn : news = [] := List.eq_nil_of_length_eq_zero (by simpa using hl)
    subst hn
    have hnc := r.le
    refine ⟨a, n, c, w, ?_, ?_, Rest.refl w⟩
    · cases a with
      | none =>
        obtain ⟨rfl, rfl, _⟩ := r.none0
        simp [Builtin.append_, run_underlying ht, sizeOf, typeInfo, hi, Builtin.lenOf, Builtin.firstCells, loadCells, loadCellsFrom]
      | some b => simp [Builtin.append_, run_underlying ht, sizeOf, typeInfo, hi, Builtin.lenOf, Builtin.firstCells, loadCells, loadCellsFrom, hnc, storeCells]
    · rw [hw']
      exact hF a c h (by rw [List.append_nil, Nat.add_zero]; exact r) (.inr (.inr ⟨rfl, rfl⟩)) fun h => by omega
  rcases r with r' | ⟨e1, h2, h3, ⟨b, e2⟩, hc⟩
  · have ow := (own_world hw').2 r'
    rcases ow.2 with ⟨e1, rfl⟩ | ⟨g, cap, cur, e1, hbg, hg, hnc, hcm, hcs, htake⟩
    · injection e1 with e1 _ e3
      subst e1; subst e3
      have hx : xs = [] := List.eq_nil_of_length_eq_zero (by simpa using ow.1)
      subst hx
      have hr := run_append_nil (P := P) w t 0 e i z ht hi hz x m k news hl hnw (by omega) (by omega) (by have hb' := hb; simp only [Nat.zero_add] at hb'; omega)
      exact fresh 0 (by omega) _ rfl (by simpa using hr)
    · injection e1 with e1 _ e3
      subst e1; subst e3
      by_cases hroom : n + m ≤ c
      · have hfit : n * i.size + news.length ≤ cur.size := by rw [hl, hcs, ← Nat.add_mul]; exact Nat.mul_le_mul_right _ hroom
        have hr := run_append_room (P := P) w t 0 e i ht hi g n c cur hg x m k news hl hnw h1 hroom hfit
        have hgr : w.grownBy (w.setRow g (cur.toList.take (n * i.size) ++ news ++ cur.toList.drop (n * i.size + news.length)).toArray) (Value.slice (some ⟨g, 0, none⟩) n c).ownBlock :=
          ⟨rfl, rfl, rfl, by simp, fun k _ hk => setRow_other w g k _ (fun e => hk (by simp [Value.ownBlock, e]))⟩
        refine ⟨_, _, _, _, hr, ?_, rest_grown ow hgr⟩
        have hO : OwnH (w.setRow g (cur.toList.take (n * i.size) ++ news ++ cur.toList.drop (n * i.size + news.length)).toArray).heap 0 e i.size (some ⟨g, 0, none⟩) (n + m) c (xs ++ news) := by
          refine ⟨hlen, .inr ⟨g, c, _, rfl, Nat.zero_le _, setRow_heap w g cur _ e _ hg, hroom, hcm, ?_, ?_⟩⟩
          · simp only [List.size_toArray, List.length_append, List.length_take, List.length_drop, Array.length_toList]
            omega
          · rw [htake, ← hlen]
            exact List.take_left
        exact hF _ _ _ (.inl hO) (.inl ⟨rfl, ⟨by rw [← hw']; exact hgr.size, fun k hk hne => by subst hw'; exact hgr.block k hk hne⟩, by rw [← hw']; simp⟩) fun _ => hO
      · have holds : ∀ (j : Nat) (u : Value), xs[j]? = some u → w.cell? ((⟨g, 0, none⟩ : Addr).add j) = some u := ow.cells (g := g) rfl
        have hr := run_append_grow (P := P) w t 0 e i z ht hi hz ⟨g, 0, none⟩ n c xs ow.1 holds x m k news hl hnw (by omega) (by omega) (growslice_fits (by omega) hb)
        exact fresh c (by omega) _ rfl hr
  · subst e1; subst e2
    have holds : ∀ (j : Nat) (u : Value), xs[j]? = some u → w.cell? (b.add j) = some u := fun j u hu => by
      obtain ⟨g, o, e3, _, hc'⟩ := hc j u hu
      injection e3 with e3; subst e3
      rw [hw_cell h w hw', add_mk]; exact hc'
    have hr := run_append_grow (P := P) w t 0 e i z ht hi hz b c c xs hrl holds x m k news hl hnw (by omega) (by omega) (growslice_fits (by omega) hb)
    exact fresh c (by omega) _ rfl hr
/-- Nothing is appended. -/
theorem ap_row0 {P : Program} {t e : TypeId} {size bytes : Nat} (hB : apB P t e size bytes = true) {h : Heap} {n c : Nat} {a : Option Addr} {xs : List Value} (r : RowS h e size a n c xs) {b : Option Addr} {k : Nat} {F : Option Addr → Nat → Nat → Heap → Prop}
    (hF : F a n c h) : apW P #[t, t] #[.slice a n c, .slice b 0 k] F h := by
  intro w hw'
  obtain ⟨ht, i, z, hi, hz, hs, hby, hzs⟩ := apB_spec hB
  have hnc := r.le
  refine ⟨a, n, c, w, ?_, by rw [hw']; exact hF, Rest.refl w⟩
  cases a with
  | none =>
    obtain ⟨rfl, rfl, _⟩ := r.none0
    cases b <;> simp [Builtin.append_, run_underlying ht, sizeOf, typeInfo, hi, Builtin.lenOf, Builtin.firstCells, loadCells, loadCellsFrom]
  | some a => cases b <;> simp [Builtin.append_, run_underlying ht, sizeOf, typeInfo, hi, Builtin.lenOf, Builtin.firstCells, loadCells, loadCellsFrom, hnc, storeCells]
theorem Ar.lt' {k : IntKind} {h : Heap} {a : Option Addr} {xs : List Int} (r : Ar k h a xs) (hx : xs ≠ []) : ∃ g o, a = some ⟨g, o, none⟩ ∧ g < h.size := by
  cases xs with
  | nil => exact (hx rfl).elim
  | cons x xs => obtain ⟨b, o, e, hl, _⟩ := r 0 x rfl; exact ⟨b, o, e, hl⟩
/- A ROW THAT GROWS. -/
/-- From heap h0 on, where it lay in block r0 (or nowhere), a row has grown: it lies there, or in a new block; all else that was there is as it was. -/
structure Grow (h0 : Heap) (r0 : Option Nat) (h : Heap) (e : TypeId) (size : Nat) (a : Option Addr) (n c : Nat) (xs : List Value) : Prop where
  row : RowS h e size a n c xs
  upd : UpdO r0 h0 h
  at_ : blkOf a = r0 ∨ ∃ g, blkOf a = some g ∧ h0.size ≤ g ∧ g < h.size
theorem Grow.start {h : Heap} {e : TypeId} {size n c : Nat} {a : Option Addr} {xs : List Value} (r : RowS h e size a n c xs) : Grow h (blkOf a) h e size a n c xs := ⟨r, ⟨Nat.le_refl _, fun _ _ _ => rfl⟩, .inl rfl⟩
theorem Grow.new {h0 h h' : Heap} {r0 : Option Nat} {e : TypeId} {size n c : Nat} {a : Option Addr} {xs : List Value} (g : Grow h0 r0 h e size a n c xs) (hn : New h h') : Grow h0 r0 h' e size a n c xs :=
  ⟨g.row.new hn, ⟨Nat.le_trans g.upd.size hn.size, fun k hk hr => (hn.same k (Nat.lt_of_lt_of_le hk g.upd.size)).trans (g.upd.same k hk hr)⟩, g.at_.imp id fun ⟨b, h1, h2, h3⟩ => ⟨b, h1, h2, Nat.lt_of_lt_of_le h3 hn.size⟩⟩
theorem Grow.went {h0 h h' : Heap} {r0 : Option Nat} {e : TypeId} {size n c n' c' : Nat} {a a' : Option Addr} {xs ys : List Value} (g : Grow h0 r0 h e size a n c xs) (r : RowS h' e size a' n' c' ys) (w : Went h a h' a') : Grow h0 r0 h' e size a' n' c' ys := by
  have u := w.upd
  refine ⟨r, ⟨Nat.le_trans g.upd.size u.size, fun k hk hr => ?_⟩, ?_⟩
  · refine (u.same k (Nat.lt_of_lt_of_le hk g.upd.size) fun e => ?_).trans (g.upd.same k hk hr)
    rcases g.at_ with h1 | ⟨b, h1, h2⟩
    · exact hr (by rw [e, h1])
    · rw [h1] at e; injection e with e; omega
  · rcases w.at_ with h1 | ⟨b, h1, h2, h3⟩
    · rw [h1]; exact g.at_.imp id fun ⟨b, h1, h2, h3⟩ => ⟨b, h1, h2, Nat.lt_of_lt_of_le h3 u.size⟩
    · exact .inr ⟨b, h1, by have := g.upd.size; omega, h3⟩
/-- One value more. -/
theorem Grow.push {P : Program} {t e : TypeId} {bytes : Nat} (hB : apB P t e 1 bytes = true) {h0 h : Heap} {r0 : Option Nat} {n c : Nat} {a : Option Addr} {xs : List Value} {v : Value} (g : Grow h0 r0 h e 1 a n c xs) (hv : v.oneCell' = true) (hn : n ≤ 1000000) (hby : bytes ≤ 64) {F : Option Addr → Nat → Nat → Heap → Prop}
    (hF : ∀ a' c' h', Grow h0 r0 h' e 1 a' (n + 1) c' (xs ++ [v]) → F a' (n + 1) c' h') : newW (.cells #[v] e) (fun p h' => apW P #[t, t] #[.slice a n c, .slice (some p) 1 1] F h') h := by
  refine new_of fun h1 b1 n1 s1 => ?_
  have g1 := g.new n1
  have hb : (n + 1) * bytes ≤ 140737488355328 := Nat.le_trans (Nat.mul_le_mul (show n + 1 ≤ 1000001 by omega) hby) (by decide)
  refine ap_row hB g1.row [v] (by simp) ?_ (by simpa using hv) (by simp [maxLen]; omega) hb fun a' c' h' r w _ => hF a' c' h' (g1.went r w)
  intro j u hu
  have hj : j = 0 := by have := (List.getElem?_eq_some_iff.1 hu).1; simp at this; omega
  subst hj
  rw [add_mk, cellH_blk b1]; simpa using hu
/-- A row of numbers more. -/
theorem Grow.ints' {P : Program} {t e : TypeId} {bytes : Nat} {k : IntKind} (hB : apB P t e 1 bytes = true) {h0 h : Heap} {r0 : Option Nat} {n c m d : Nat} {a b : Option Addr} {xs ys : List Int} (g : Grow h0 r0 h e 1 a n c (xs.map (Value.int k))) (r : Ar k h b ys) (hm : m = ys.length) (hn : n + m ≤ 1000000) (hby : bytes ≤ 64) {F : Option Addr → Nat → Nat → Heap → Prop}
    (hF : ∀ a' c' h', Grow h0 r0 h' e 1 a' (xs ++ ys).length c' ((xs ++ ys).map (Value.int k)) → (ys ≠ [] → OwnH h' 0 e 1 a' (xs ++ ys).length c' ((xs ++ ys).map (Value.int k))) → F a' (xs ++ ys).length c' h') : apW P #[t, t] #[.slice a n c, .slice b m d] F h := by
  have hl := g.row.ints_len
  subst hl; subst hm
  have hlen : (xs ++ ys).length = xs.length + ys.length := List.length_append
  have hb : (xs.length + ys.length) * bytes ≤ 140737488355328 := Nat.le_trans (Nat.mul_le_mul hn hby) (by decide)
  cases ys with
  | nil =>
    simp only [List.append_nil, List.length_nil] at hF ⊢
    intro w hw'
    obtain ⟨ht, i, z, hi, hz, hs, hby, hzs⟩ := apB_spec hB
    have hnc := g.row.le
    refine ⟨a, xs.length, c, w, ?_, by rw [hw']; exact hF a c h g (fun h => (h rfl).elim), Rest.refl w⟩
    cases a with
    | none =>
      obtain ⟨e1, rfl, _⟩ := g.row.none0
      rw [e1]
      cases b <;> simp [Builtin.append_, run_underlying ht, sizeOf, typeInfo, hi, Builtin.lenOf, Builtin.firstCells, loadCells, loadCellsFrom]
    | some a => cases b <;> simp [Builtin.append_, run_underlying ht, sizeOf, typeInfo, hi, Builtin.lenOf, Builtin.firstCells, loadCells, loadCellsFrom, hnc, storeCells]
  | cons y ys =>
    obtain ⟨gb, o, rfl, _⟩ := r.lt' (by simp)
    refine ap_row hB g.row ((y :: ys).map (Value.int k)) (by simp) ?_ ?_ (by simp only [maxLen]; omega) hb fun a' c' h' r w ow => ?_
    · intro j u hu
      rw [List.getElem?_map] at hu
      cases hy : (y :: ys)[j]? with
      | none => rw [hy] at hu; cases hu
      | some z =>
        rw [hy] at hu; injection hu with hu; subst hu
        obtain ⟨b', o', e, _, hc⟩ := r j z hy
        injection e with e; injection e with e1 e2; subst e1; subst e2
        rw [add_mk]; exact hc
    · intro u hu
      obtain ⟨z, _, rfl⟩ := List.mem_map.1 hu
      rfl
    · have ow := ow (by simp)
      rw [← hlen] at r ow ⊢
      rw [← List.map_append] at r ow
      exact hF a' c' h' (g.went r w) fun _ => ow
theorem Grow.ints {P : Program} {t e : TypeId} {bytes : Nat} {k : IntKind} (hB : apB P t e 1 bytes = true) {h0 h : Heap} {r0 : Option Nat} {n c m d : Nat} {a b : Option Addr} {xs ys : List Int} (g : Grow h0 r0 h e 1 a n c (xs.map (Value.int k))) (r : Ar k h b ys) (hm : m = ys.length) (hn : n + m ≤ 1000000) (hby : bytes ≤ 64) {F : Option Addr → Nat → Nat → Heap → Prop}
    (hF : ∀ a' c' h', Grow h0 r0 h' e 1 a' (xs ++ ys).length c' ((xs ++ ys).map (Value.int k)) → F a' (xs ++ ys).length c' h') : apW P #[t, t] #[.slice a n c, .slice b m d] F h := g.ints' hB r hm hn hby fun a' c' h' g' _ => hF a' c' h' g'
/-- What a call made: numbers, in new blocks. -/
structure Got (k : IntKind) (e : TypeId) (h h' : Heap) (a : Option Addr) (c : Nat) (xs : List Int) : Prop where
  row : RowS h' e 1 a xs.length c (xs.map (Value.int k))
  new : New h h'
  at_ : xs ≠ [] → ∀ g, blkOf a = some g → h.size ≤ g
theorem Got.ar {k : IntKind} {e : TypeId} {h h' : Heap} {a : Option Addr} {c : Nat} {xs : List Int} (g : Got k e h h' a c xs) : Ar k h' a xs := g.row.ar
theorem Got.nil (k : IntKind) (e : TypeId) {h h' : Heap} (n : New h h') : Got k e h h' none 0 [] := ⟨RowS.nil h' e 1, n, fun h => (h rfl).elim⟩
theorem Grow.got {k : IntKind} {e : TypeId} {h0 h h' : Heap} {r0 : Option Nat} {a : Option Addr} {c : Nat} {xs : List Int} (g : Grow h0 r0 h' e 1 a xs.length c (xs.map (Value.int k))) (n : New h h0) (hr : ∀ b, r0 = some b → h.size ≤ b) : Got k e h h' a c xs := by
  have hn := n.size
  refine ⟨g.row, ⟨Nat.le_trans n.size g.upd.size, fun b hb => ?_⟩, fun _ b hb => ?_⟩
  · refine (g.upd.same b (Nat.lt_of_lt_of_le hb n.size) fun e => ?_).trans (n.same b hb)
    have := hr b e.symm; omega
  · rcases g.at_ with h1 | ⟨b', h1, h2⟩
    · exact hr b (by rw [← h1]; exact hb)
    · rw [h1] at hb; injection hb with hb; omega
theorem Got.before {k : IntKind} {e : TypeId} {h0 h h' : Heap} {a : Option Addr} {c : Nat} {xs : List Int} (g : Got k e h h' a c xs) (n : New h0 h) : Got k e h0 h' a c xs := ⟨g.row, n.trans g.new, fun hx b hb => Nat.le_trans n.size (g.at_ hx b hb)⟩
theorem Got.after {k : IntKind} {e : TypeId} {h h' h'' : Heap} {a : Option Addr} {c : Nat} {xs : List Int} (g : Got k e h h' a c xs) (n : New h' h'') : Got k e h h'' a c xs := ⟨g.row.new n, g.new.trans n, g.at_⟩
/-- What is appended to an empty row without room lies in a new block. -/
theorem ap_new {P : Program} {t e : TypeId} {size bytes : Nat} (hB : apB P t e size bytes = true) {h : Heap} {x0 : Addr}
    {x : Addr} {m k : Nat} (news : List Value) (hl : news.length = m * size) (hnews : ∀ (j : Nat) (u : Value), news[j]? = some u → cellH h (x.add j) = some u)
    (hm : 0 < m) (h63 : m ≤ maxLen) (hb : m * bytes ≤ 140737488355328) {F : Option Addr → Nat → Nat → Heap → Prop}
    (hF : ∀ g c' h', RowS h' e size (some ⟨g, 0, none⟩) m c' news → New h h' → h.size ≤ g → g < h'.size → F (some ⟨g, 0, none⟩) m c' h') : apW P #[t, t] #[.slice (some x0) 0 0, .slice (some x) m k] F h := by
  intro w hw'
  obtain ⟨ht, i, z, hi, hz, hs, hby, hzs⟩ := apB_spec hB
  subst hs; subst hby
  have hnw : ∀ (j : Nat) (u : Value), news[j]? = some u → w.cell? (x.add j) = some u := fun j u hu => by rw [hw_cell h w hw']; exact hnews j u hu
  have hr := run_append_grow (P := P) w t 0 e i z ht hi hz x0 0 0 [] (by simp) (fun j u hu => by simp at hu) x m k news hl hnw (by omega) (by simp only [maxLen] at h63; omega) (growslice_fits (by omega) (by rw [Nat.zero_add]; exact hb))
  simp only [Nat.zero_add] at hr
  refine ⟨_, _, _, _, hr, ?_, (Rest.drawn w).trans (Rest.alloc _ _)⟩
  have hge := grownCap_ge w m 0 e
  have hcm : grownCap w m 0 e ≤ maxLen := grownCap_le_maxLen w m 0 e h63
  have hpush : (w.drew.alloc (.cells (([] : List Value).toArray ++ news.toArray ++ Builtin.zeroCells z.cells (grownCap w m 0 e - m)) e)).heap = h.push (.cells (([] : List Value).toArray ++ news.toArray ++ Builtin.zeroCells z.cells (grownCap w m 0 e - m)) e) := by
    show w.heap.push _ = _
    rw [hw']
  rw [hpush, hw']
  have hN : New h (h.push (.cells (([] : List Value).toArray ++ news.toArray ++ Builtin.zeroCells z.cells (grownCap w m 0 e - m)) e)) := New.push h _
  refine hF _ _ _ (.inl ⟨hl, .inr ⟨h.size, _, _, rfl, Nat.zero_le _, Blk.push h _ _, hge, hcm, ?_, ?_⟩⟩) hN (Nat.le_refl _) (by simp)
  · simp only [Array.size_append, List.size_toArray, size_zeroCells, hzs, hl, List.length_nil, Nat.zero_add, ← Nat.add_mul]
    congr 1
    omega
  · simp only [Array.toList_append, List.nil_append]
    rw [← hl]
    exact List.take_left
/- BLOCKS BY THEIR OWNERS. -/
/-- Each block belongs to an owner (0: nobody turns it), and there to a part. -/
abbrev Tags := Nat → Nat × Nat
/-- What turns: blocks whose tags are in S stay; there may be new ones, of any owner. -/
structure Fr (S : Nat × Nat → Prop) (t : Tags) (h : Heap) (t' : Tags) (h' : Heap) : Prop where
  size : h.size ≤ h'.size
  tags : ∀ b, b < h.size → t' b = t b
  same : ∀ b, b < h.size → S (t b) → h'[b]? = h[b]?
theorem Fr.refl (S : Nat × Nat → Prop) (t : Tags) (h : Heap) : Fr S t h t h := ⟨Nat.le_refl _, fun _ _ => rfl, fun _ _ _ => rfl⟩
theorem Fr.trans {S : Nat × Nat → Prop} {t t' t'' : Tags} {h h' h'' : Heap} (s : Fr S t h t' h') (r : Fr S t' h' t'' h'') : Fr S t h t'' h'' :=
  ⟨Nat.le_trans s.size r.size, fun b hb => (r.tags b (Nat.lt_of_lt_of_le hb s.size)).trans (s.tags b hb),
   fun b hb hk => (r.same b (Nat.lt_of_lt_of_le hb s.size) (by rw [s.tags b hb]; exact hk)).trans (s.same b hb hk)⟩
theorem Fr.mono {S S' : Nat × Nat → Prop} {t t' : Tags} {h h' : Heap} (s : Fr S t h t' h') (hs : ∀ p, S' p → S p) : Fr S' t h t' h' := ⟨s.size, s.tags, fun b hb hk => s.same b hb (hs _ hk)⟩
theorem Fr.new0 {S : Nat × Nat → Prop} {t : Tags} {h h' : Heap} (n : New h h') : Fr S t h t h' := ⟨n.size, fun _ _ => rfl, fun b hb _ => n.same b hb⟩
theorem Fr.upd {S : Nat × Nat → Prop} {t : Tags} {h h' : Heap} {b : Nat} (u : Upd b h h') (hb : ¬ S (t b)) : Fr S t h t h' := ⟨u.size, fun _ _ => rfl, fun c hc hk => u.same c hc fun e => hb (by rw [← e]; exact hk)⟩
theorem Fr.updO {S : Nat × Nat → Prop} {t : Tags} {h h' : Heap} {r : Option Nat} (u : UpdO r h h') (hb : ∀ b, r = some b → ¬ S (t b)) : Fr S t h t h' := ⟨u.size, fun _ _ => rfl, fun c hc hk => u.same c hc fun e => hb c e.symm hk⟩
theorem Fr.blk {S : Nat × Nat → Prop} {t t' : Tags} {h h' : Heap} (s : Fr S t h t' h') {b : Nat} {arr : Array Value} {T : TypeId} (hb : Blk h b arr T) (hs : S (t b)) : Blk h' b arr T := (s.same b hb.lt hs).trans hb
/-- Nothing that was there ahead is turned. -/
theorem Fr.new {S : Nat × Nat → Prop} {t t' : Tags} {h0 h h' : Heap} (s : Fr S t h t' h') (n : New h0 h) (h : ∀ b, b < h0.size → S (t b)) : New h0 h' := ⟨Nat.le_trans n.size s.size, fun b hb => (s.same b (Nat.lt_of_lt_of_le hb n.size) (h b hb)).trans (n.same b hb)⟩
/-- New blocks, that belong to p. -/
def lay (t : Tags) (n : Nat) (p : Nat × Nat) : Tags := fun b => if b < n then t b else p
theorem lay_lt {t : Tags} {n b : Nat} {p : Nat × Nat} (h : b < n) : lay t n p b = t b := if_pos h
theorem lay_ge {t : Tags} {n b : Nat} {p : Nat × Nat} (h : n ≤ b) : lay t n p b = p := if_neg (by omega)
theorem Fr.lay {S : Nat × Nat → Prop} {t : Tags} {h h' : Heap} (n : New h h') (p : Nat × Nat) : Fr S t h (lay t h.size p) h' := ⟨n.size, fun _ hb => lay_lt hb, fun b hb _ => n.same b hb⟩
/-- Numbers that nobody turns. -/
structure Im (k : IntKind) (t : Tags) (h : Heap) (a : Option Addr) (xs : List Int) : Prop where
  ar : Ar k h a xs
  im : xs ≠ [] → ∀ g, blkOf a = some g → (t g).1 = 0
theorem Im.nil (k : IntKind) (t : Tags) (h : Heap) (a : Option Addr) : Im k t h a [] := ⟨Ar.nil k h a, fun h => (h rfl).elim⟩
theorem Im.fr {S : Nat × Nat → Prop} {k : IntKind} {t t' : Tags} {h h' : Heap} {a : Option Addr} {xs : List Int} (r : Im k t h a xs) (s : Fr S t h t' h') (hS : ∀ p : Nat × Nat, p.1 = 0 → S p) : Im k t' h' a xs := by
  refine ⟨fun i x hx => ?_, fun hx g hg => ?_⟩
  · obtain ⟨b, o, e, hp, hc⟩ := r.ar i x hx
    have hx' : xs ≠ [] := fun e => by subst e; simp at hx
    have h0 := r.im hx' b (by rw [e]; rfl)
    exact ⟨b, o, e, Nat.lt_of_lt_of_le hp s.size, by rw [cellH_same (s.same b hp (hS _ h0))]; exact hc⟩
  · obtain ⟨b, o, e, hp⟩ := r.ar.lt' hx
    have h0 := r.im hx g hg
    subst e; injection hg with hg; change b = g at hg; subst hg
    rw [s.tags b hp]; exact h0
theorem Im.new {k : IntKind} {t : Tags} {h h' : Heap} {a : Option Addr} {xs : List Int} (r : Im k t h a xs) (n : New h h') : Im k t h' a xs := ⟨r.ar.new n, r.im⟩
/-- Numbers in new blocks are nobody's. -/
theorem Im.got {k : IntKind} {e : TypeId} {t : Tags} {h h' : Heap} {a : Option Addr} {c : Nat} {xs : List Int} (g : Got k e h h' a c xs) (p : Nat × Nat) (hp : p.1 = 0) : Im k (lay t h.size p) h' a xs := ⟨g.ar, fun hx b hb => by rw [lay_ge (g.at_ hx b hb)]; exact hp⟩
end Go.Pl
