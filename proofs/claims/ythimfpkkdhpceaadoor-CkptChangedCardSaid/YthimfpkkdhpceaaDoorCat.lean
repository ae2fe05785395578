/-
  A row behind a row; a value between two. Over any program.
-/
import Derived.Test.YthimfpkkdhpceaaDoorSep
import Derived.ArgAppend
namespace Go.Pl
/- A ROW BEHIND A ROW; A VALUE PUT BETWEEN TWO. -/
/-- What is read to be appended: m values of 'size' cells each, from b on. -/
structure Src (h : Heap) (b : Option Addr) (size m : Nat) (news : List Value) : Prop where
  len : news.length = m * size
  cell : ∀ (j : Nat) (u : Value), news[j]? = some u → ∃ g o, b = some ⟨g, o, none⟩ ∧ g < h.size ∧ cellH h ⟨g, o + j, none⟩ = some u
  one : ∀ u ∈ news, u.oneCell' = true
theorem Src.row {h : Heap} {e : TypeId} {size n c : Nat} {a : Option Addr} {xs : List Value} (r : RowS h e size a n c xs) (h1 : ∀ u ∈ xs, u.oneCell' = true) : Src h a size n xs := ⟨r.len, fun _ _ hu => r.cell hu, h1⟩
theorem Src.keep {h h' : Heap} {b : Option Addr} {size m : Nat} {news : List Value} (s : Src h b size m news) (hs : h.size ≤ h'.size) (hk : ∀ g, blkOf b = some g → g < h.size → h'[g]? = h[g]?) : Src h' b size m news := by
  refine ⟨s.len, fun j u hu => ?_, s.one⟩
  obtain ⟨g, o, e, hg, hc⟩ := s.cell j u hu
  subst e
  exact ⟨g, o, rfl, by omega, by rw [cellH_same (hk g rfl hg)]; exact hc⟩
theorem Src.new {h h' : Heap} {b : Option Addr} {size m : Nat} {news : List Value} (s : Src h b size m news) (n : New h h') : Src h' b size m news := s.keep n.size fun g _ hl => n.same g hl
theorem Src.take {h : Heap} {b : Option Addr} {size m : Nat} {news : List Value} (s : Src h b size m news) (i c : Nat) (hi : i ≤ m) : Src h (sliceBase b 0 c size) size i (news.take (i * size)) := by
  have e : sliceBase b 0 c size = b := by
    unfold sliceBase; split
    · rfl
    · cases b with
      | none => rfl
      | some x => cases x; simp [Addr.add]
  rw [e]
  refine ⟨by rw [List.length_take, s.len]; exact Nat.min_eq_left (Nat.mul_le_mul_right _ hi), fun j u hu => ?_, fun u hu => s.one u (List.mem_of_mem_take hu)⟩
  rw [List.getElem?_take] at hu
  split at hu
  · exact s.cell j u hu
  · cases hu
theorem Src.drop {h : Heap} {b : Option Addr} {size m : Nat} {news : List Value} (s : Src h b size m news) (i c : Nat) (hi : i ≤ m) (hc : m ≤ c) : Src h (sliceBase b i c size) size (m - i) (news.drop (i * size)) := by
  have hl := s.len
  refine ⟨by rw [List.length_drop, hl, Nat.sub_mul], fun j u hu => ?_, fun u hu => s.one u (List.mem_of_mem_drop hu)⟩
  rw [List.getElem?_drop] at hu
  obtain ⟨g, o, rfl, hg, hcl⟩ := s.cell _ _ hu
  have hlt := (List.getElem?_eq_some_iff.1 hu).1
  have hic : ¬ c = i := fun e => by
    subst e
    have : m * size ≤ c * size := Nat.mul_le_mul_right _ hc
    omega
  refine ⟨g, o + i * size, ?_, hg, by rw [Nat.add_assoc]; exact hcl⟩
  unfold sliceBase
  rw [if_neg hic]
  show some (Addr.add _ _) = _
  rw [add_mk]
/-- A row, or none, behind a row that grows. -/
theorem Grow.cat {P : Program} {t e : TypeId} {size bytes : Nat} (hB : apB P t e size bytes = true) {h0 h : Heap} {r0 : Option Nat} {n c m d : Nat} {a b : Option Addr} {xs news : List Value} (g : Grow h0 r0 h e size a n c xs) (s : Src h b size m news) (hp : 0 < size) (hn : n + m ≤ 1000000) (hby : bytes ≤ 64) {F : Option Addr → Nat → Nat → Heap → Prop}
    (hF : ∀ a' c' h', Grow h0 r0 h' e size a' (n + m) c' (xs ++ news) → (OwnH h 0 e size a n c xs ∨ 0 < m → OwnH h' 0 e size a' (n + m) c' (xs ++ news)) → F a' (n + m) c' h') : apW P #[t, t] #[.slice a n c, .slice b m d] F h := by
  have hb : (n + m) * bytes ≤ 140737488355328 := Nat.le_trans (Nat.mul_le_mul hn hby) (by decide)
  by_cases hm : m = 0
  · subst hm
    have hnw : news = [] := List.eq_nil_of_length_eq_zero (by have := s.len; omega)
    subst hnw
    simp only [List.append_nil, Nat.add_zero] at hF ⊢
    intro w hw'
    obtain ⟨ht, i, z, hi, hz, hs, hby, hzs⟩ := apB_spec hB
    have hnc := g.row.le
    refine ⟨a, n, c, w, ?_, by rw [hw']; exact hF a c h g (fun h => h.elim id fun h => by omega), Rest.refl w⟩
    cases a with
    | none =>
      obtain ⟨e1, rfl, _⟩ := g.row.none0
      rw [e1]
      cases b <;> simp [Builtin.append_, run_underlying ht, sizeOf, typeInfo, hi, Builtin.lenOf, Builtin.firstCells, loadCells, loadCellsFrom]
    | some a => cases b <;> simp [Builtin.append_, run_underlying ht, sizeOf, typeInfo, hi, Builtin.lenOf, Builtin.firstCells, loadCells, loadCellsFrom, hnc, storeCells]
  · have hpos : 0 < news.length := by rw [s.len]; exact Nat.mul_pos (by omega) hp
    obtain ⟨gb, o, rfl, _, _⟩ := s.cell 0 news[0] (List.getElem?_eq_getElem hpos)
    refine ap_row hB g.row news s.len (fun j u hu => ?_) s.one (by simp only [maxLen]; omega) hb fun a' c' h' r w ow => hF a' c' h' (g.went r w) fun _ => ow (by omega)
    obtain ⟨g', o', e', _, hc⟩ := s.cell j u hu
    injection e' with e'; injection e' with e1 e2
    rw [add_mk, e1, e2]; exact hc
theorem Src.lit {h : Heap} {q size : Nat} {T : TypeId} {lit : List Value} (b : Blk h q lit.toArray T) (hl : lit.length = size) (h1 : ∀ u ∈ lit, u.oneCell' = true) : Src h (some ⟨q, 0, none⟩) size 1 lit :=
  ⟨by omega, fun j u hu => ⟨q, 0, rfl, b.lt, by rw [Nat.zero_add, cellH_blk b]; simpa using hu⟩, h1⟩
/-- append(append(append([]T{}, p1...), lit), p2...), in the orders that the language leaves open; St is asked for behind each. -/
def ins3F (P : Program) (t e : TypeId) (lit : Array Value) (St : Heap → Prop) (p1 : Option Addr) (n1 c1 : Nat) (p2 : Option Addr) (n2 c2 : Nat) (K : Option Addr → Nat → Nat → Heap → Prop) (h0 : Heap) : Prop :=
  (newW (.cells #[] e) (fun a h1 =>
    (apW P #[t, t] #[.slice (some a) 0 0, .slice p1 n1 c1] (fun b n c h2 => (St h2 ∧ newW (.cells lit e) (fun a2 h3 =>
      apW P #[t, t] #[.slice b n c, .slice (some a2) 1 1] (fun b n c h4 => (St h4 ∧ apW P #[t, t] #[.slice b n c, .slice p2 n2 c2] (fun b n c h5 => (St h5 ∧ K b n c h5)) h4)) h3) h2)) h1) ∧
    (newW (.cells lit e) (fun a2 h2 =>
      apW P #[t, t] #[.slice (some a) 0 0, .slice p1 n1 c1] (fun b n c h3 => (St h3 ∧
        apW P #[t, t] #[.slice b n c, .slice (some a2) 1 1] (fun b n c h4 => (St h4 ∧ apW P #[t, t] #[.slice b n c, .slice p2 n2 c2] (fun b n c h5 => (St h5 ∧ K b n c h5)) h4)) h3)) h2) h1)) h0) ∧
  (newW (.cells lit e) (fun a2 h1 => newW (.cells #[] e) (fun a h2 =>
      apW P #[t, t] #[.slice (some a) 0 0, .slice p1 n1 c1] (fun b n c h3 => (St h3 ∧
        apW P #[t, t] #[.slice b n c, .slice (some a2) 1 1] (fun b n c h4 => (St h4 ∧ apW P #[t, t] #[.slice b n c, .slice p2 n2 c2] (fun b n c h5 => (St h5 ∧ K b n c h5)) h4)) h3)) h2) h1) h0)
theorem ins3_ok {P : Program} {t e : TypeId} {size bytes : Nat} (hB : apB P t e size bytes = true) {lit : List Value} (hlit : lit.length = size) (h1 : ∀ u ∈ lit, u.oneCell' = true) {St : Heap → Prop} {h0 : Heap} (hSt : ∀ h', New h0 h' → St h') {p1 p2 : Option Addr} {n1 c1 n2 c2 : Nat} {xs ys : List Value} (s1 : Src h0 p1 size n1 xs) (s2 : Src h0 p2 size n2 ys) (hp : 0 < size) (hn : n1 + 1 + n2 ≤ 1000000) (hby : bytes ≤ 64) {K : Option Addr → Nat → Nat → Heap → Prop}
    (hK : ∀ a' c' h', OwnH h' 0 e size a' (n1 + 1 + n2) c' (xs ++ lit ++ ys) → New h0 h' → (∀ g, blkOf a' = some g → h0.size ≤ g ∧ g < h'.size) → K a' (n1 + 1 + n2) c' h') : ins3F P t e lit.toArray St p1 n1 c1 p2 n2 c2 K h0 := by
  -- the middle and the end, behind the first row
  have fin : ∀ {q w : Nat} {hq h : Heap} {T : TypeId} {b : Option Addr} {n c : Nat}, h0.size ≤ q ∧ q < hq.size → New h0 hq → Grow hq (some q) h e size b n c xs → n = n1 → Blk h w lit.toArray T → h0.size ≤ w →
      apW P #[t, t] #[.slice b n c, .slice (some ⟨w, 0, none⟩) 1 1] (fun b n c h4 => (St h4 ∧ apW P #[t, t] #[.slice b n c, .slice p2 n2 c2] (fun b n c h5 => (St h5 ∧ K b n c h5)) h4)) h := by
    intro q w hq h T b n c hge nq g hnn bw hw
    subst hnn
    have nn : ∀ {h' : Heap} {b : Option Addr} {n c : Nat} {zs : List Value}, Grow hq (some q) h' e size b n c zs → New h0 h' := fun g => ⟨Nat.le_trans nq.size g.upd.size, fun k hk => (g.upd.same k (Nat.lt_of_lt_of_le hk nq.size) fun e => by injection e with e; omega).trans (nq.same k hk)⟩
    refine Grow.cat hB g (Src.lit bw hlit h1) hp (by omega) hby fun a4 c4 h4 g4 o4 => ⟨hSt _ (nn g4), ?_⟩
    have o4 := o4 (.inr (by decide))
    refine Grow.cat hB g4 (s2.new (nn g4)) hp hn hby fun a5 c5 h5 g5 o5 => ⟨hSt _ (nn g5), ?_⟩
    refine hK a5 c5 h5 ?_ (nn g5) fun g' hg' => ?_
    · exact o5 (.inl o4)
    · have hz := g5.upd.size
      rcases g5.at_ with e1 | ⟨g2, e1, h2⟩
      · rw [e1] at hg'; injection hg' with hg'; omega
      · rw [e1] at hg'; injection hg' with hg'; have := nq.size; omega
  have start : ∀ {h' : Heap} (q : Nat), Grow h' (some q) h' e size (some ⟨q, 0, none⟩) 0 0 [] := fun {h'} q => Grow.start (RowS.nil' h' e size (some ⟨q, 0, none⟩))
  refine ⟨new_of fun h2 b2 n2' s2' => ⟨?_, new_of fun h3 b3 n3 s3 => ?_⟩, new_of fun h2 b2 n2' s2' => new_of fun h3 b3 n3 s3 => ?_⟩
  · refine Grow.cat hB (start h0.size) (s1.new n2') hp (by omega) hby fun a4 c4 h4 g4 _ => ?_
    have n4 : New h0 h4 := ⟨Nat.le_trans n2'.size g4.upd.size, fun k hk => (g4.upd.same k (Nat.lt_of_lt_of_le hk n2'.size) fun e => by injection e with e; omega).trans (n2'.same k hk)⟩
    refine ⟨hSt _ n4, new_of fun h5 b5 n5 s5 => ?_⟩
    rw [List.nil_append] at g4
    exact fin ⟨Nat.le_refl _, by omega⟩ n2' (g4.new n5) (by omega) b5 n4.size
  · refine Grow.cat hB (start h0.size) (s1.new (n2'.trans n3)) hp (by omega) hby fun a4 c4 h4 g4 _ => ?_
    have n3' := n2'.trans n3
    have n4 : New h0 h4 := ⟨Nat.le_trans n3'.size g4.upd.size, fun k hk => (g4.upd.same k (Nat.lt_of_lt_of_le hk n3'.size) fun e => by injection e with e; omega).trans (n3'.same k hk)⟩
    rw [List.nil_append] at g4
    exact ⟨hSt _ n4, fin ⟨Nat.le_refl _, by omega⟩ n3' g4 (by omega) ((g4.upd.same h2.size b3.lt fun e => by injection e with e; omega).trans b3) n2'.size⟩
  · refine Grow.cat hB (start h2.size) (s1.new (n2'.trans n3)) hp (by omega) hby fun a4 c4 h4 g4 _ => ?_
    have n3' := n2'.trans n3
    have n4 : New h0 h4 := ⟨Nat.le_trans n3'.size g4.upd.size, fun k hk => (g4.upd.same k (Nat.lt_of_lt_of_le hk n3'.size) fun e => by injection e with e; omega).trans (n3'.same k hk)⟩
    rw [List.nil_append] at g4
    exact ⟨hSt _ n4, fin ⟨n2'.size, by omega⟩ n3' g4 (by omega) ((g4.upd.same h0.size (b2.new n3).lt fun e => by injection e with e; omega).trans (b2.new n3)) (Nat.le_refl _)⟩
/-- append(append([]T{}, p1...), p2...). -/
theorem cat2_ok {P : Program} {t e : TypeId} {size bytes : Nat} (hB : apB P t e size bytes = true) {St : Heap → Prop} {h0 : Heap} (hSt : ∀ h', New h0 h' → St h') {p1 p2 : Option Addr} {n1 c1 n2 c2 : Nat} {xs ys : List Value} (s1 : Src h0 p1 size n1 xs) (s2 : Src h0 p2 size n2 ys) (hp : 0 < size) (hn : n1 + n2 ≤ 1000000) (hby : bytes ≤ 64) {K : Option Addr → Nat → Nat → Heap → Prop}
    (hK : ∀ a' c' h', RowS h' e size a' (n1 + n2) c' (xs ++ ys) → New h0 h' → (∀ g, blkOf a' = some g → h0.size ≤ g ∧ g < h'.size) → (0 < n1 + n2 → OwnH h' 0 e size a' (n1 + n2) c' (xs ++ ys)) → K a' (n1 + n2) c' h') :
    newW (.cells #[] e) (fun a h1 => apW P #[t, t] #[.slice (some a) 0 0, .slice p1 n1 c1] (fun b n c h2 => (St h2 ∧ apW P #[t, t] #[.slice b n c, .slice p2 n2 c2] (fun b n c h3 => (St h3 ∧ K b n c h3)) h2)) h1) h0 := by
  refine new_of fun h2 b2 n2' s2' => ?_
  have nn : ∀ {h' : Heap} {b : Option Addr} {n c : Nat} {zs : List Value}, Grow h2 (some h0.size) h' e size b n c zs → New h0 h' := fun g => ⟨Nat.le_trans n2'.size g.upd.size, fun k hk => (g.upd.same k (Nat.lt_of_lt_of_le hk n2'.size) fun e => by injection e with e; omega).trans (n2'.same k hk)⟩
  refine Grow.cat hB (Grow.start (RowS.nil' h2 e size (some ⟨h0.size, 0, none⟩))) (s1.new n2') hp (by omega) hby fun a4 c4 h4 g4 o4 => ⟨hSt _ (nn g4), ?_⟩
  refine Grow.cat hB g4 (s2.new (nn g4)) hp (by omega) hby fun a5 c5 h5 g5 o5 => ⟨hSt _ (nn g5), ?_⟩
  have hz : 0 + n1 = n1 := Nat.zero_add _
  rw [hz] at g5 o5 ⊢
  refine hK a5 c5 h5 g5.row (nn g5) (fun g' hg' => ?_) fun hpos => o5 ?_
  rotate_left
  · by_cases h2 : 0 < n2
    · exact .inr h2
    · rw [hz] at o4
      exact .inl (o4 (.inr (by omega)))
  have hz := g5.upd.size
  rcases g5.at_ with e1 | ⟨g2, e1, h2⟩
  · rw [e1] at hg'; injection hg' with hg'; change h0.size = g' at hg'; omega
  · rw [e1] at hg'; injection hg' with hg'; have := n2'.size; omega
/-- A cell of an own row is set. -/
theorem own_set {h : Heap} {base n c size o g : Nat} {e : TypeId} {xs : List Value} {v : Value} {F : Heap → Prop} (ow : OwnH h base e size (some ⟨g, 0, none⟩) n c xs) (ho : o < xs.length) (hF : ∀ h', OwnH h' base e size (some ⟨g, 0, none⟩) n c (xs.set o v) → Only g h h' → F h') : stW ⟨g, o, none⟩ v F h := by
  obtain ⟨hl, h1⟩ := ow
  rcases h1 with ⟨h2, h3⟩ | ⟨g', cap, cur, h1, h2, h3, h4, h5, h6, h7⟩
  · injection h2 with h2; cases h2
  · injection h1 with e1 _ e2
    injection e1 with e1; injection e1 with e1
    subst e1; subst e2
    have hb : Blk h g cur e := h3
    have hlt : o < cur.size := by
      have := congrArg List.length h7
      rw [List.length_take] at this
      have h9 : cur.toList.length = cur.size := Array.length_toList
      omega
    refine st_blk hb hlt fun h' b' o' => hF h' ⟨by rw [List.length_set]; exact hl, .inr ⟨g, c, _, rfl, h2, b', h4, h5, by simpa using h6, ?_⟩⟩ o'
    rw [← h7, Array.toList_setIfInBounds, List.take_set]
end Go.Pl
