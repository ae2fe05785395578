/-
  Maps of numbers with their stamps: what is put, deleted, told; a walk through one. Over any program.
-/
import Derived.Test.YtgohecjnjadnpaaDoorMapB
import Derived.Maps.RangeRun
namespace Go.Pl
variable {α : Type}
def keysL (m : List (Int × α)) : List Int := m.map (·.1)
def delP : List (Int × α) → Int → List (Int × α)
  | [], _ => []
  | q :: r, k => if q.1 = k then r else q :: delP r k
theorem keys_put (k : Int) (x : α) : ∀ m : List (Int × α), keysL (putP m k x) = if k ∈ keysL m then keysL m else keysL m ++ [k]
  | [] => rfl
  | q :: r => by
    unfold putP
    by_cases h : q.1 = k
    · rw [if_pos h, if_pos (by subst h; exact .head _)]
      show k :: keysL r = q.1 :: keysL r
      rw [h]
    · rw [if_neg h]
      show q.1 :: keysL (putP r k x) = if k ∈ q.1 :: keysL r then q.1 :: keysL r else q.1 :: keysL r ++ [k]
      rw [keys_put k x r]
      by_cases hm : k ∈ keysL r
      · rw [if_pos hm, if_pos (.tail _ hm)]
      · rw [if_neg hm, if_neg (fun hh => (List.mem_cons.1 hh).elim (fun e => h e.symm) hm)]; rfl
theorem delP_eq (k : Int) : ∀ m : List (Int × α), (keysL m).Nodup → delP m k = m.filter fun q => q.1 != k
  | [], _ => rfl
  | q :: r, hn => by
    have hn' : q.1 ∉ keysL r ∧ (keysL r).Nodup := List.nodup_cons.1 hn
    unfold delP
    by_cases h : q.1 = k
    · rw [if_pos h, List.filter_cons_of_neg (by simp [h])]
      refine (List.filter_eq_self.2 fun y hy => ?_).symm
      have : y.1 ∈ keysL r := List.mem_map.2 ⟨y, hy, rfl⟩
      simp only [bne_iff_ne, ne_eq]
      intro e; exact hn'.1 (by rw [h, ← e]; exact this)
    · rw [if_neg h, List.filter_cons_of_pos (by simp [h]), delP_eq k r hn'.2]
theorem getP_none (k : Int) : ∀ m : List (Int × α), getP m k = none → k ∉ keysL m
  | [], _, h => by cases h
  | q :: r, h, hm => by
    unfold getP at h
    split at h
    · cases h
    · rename_i hq
      rcases List.mem_cons.1 hm with e | e
      · exact hq e.symm
      · exact getP_none k r h e
theorem getP_mem {k : Int} {x : α} : ∀ {m : List (Int × α)}, getP m k = some x → (k, x) ∈ m
  | [], h => by cases h
  | q :: r, h => by
    unfold getP at h
    split at h
    · rename_i hq
      injection h with h
      subst h; subst hq
      exact .head _
    · exact .tail _ (getP_mem h)
theorem getP_of {k : Int} {x : α} : ∀ {m : List (Int × α)}, (keysL m).Nodup → (k, x) ∈ m → getP m k = some x
  | [], _, h => by cases h
  | q :: r, hn, h => by
    have hn' : q.1 ∉ keysL r ∧ (keysL r).Nodup := List.nodup_cons.1 hn
    unfold getP
    rcases List.mem_cons.1 h with e | e
    · subst e; exact if_pos rfl
    · have : k ∈ keysL r := List.mem_map.2 ⟨(k, x), e, rfl⟩
      rw [if_neg (fun e2 => hn'.1 (by rw [e2]; exact this))]
      exact getP_of hn'.2 e
theorem nodup_put {m : List (Int × α)} (h : (keysL m).Nodup) (k : Int) (x : α) : (keysL (putP m k x)).Nodup := by
  rw [keys_put]
  split
  · exact h
  · rename_i hk
    rw [List.nodup_append]
    exact ⟨h, by simp, fun a ha b hb e => by obtain rfl := List.mem_singleton.1 hb; exact hk (e ▸ ha)⟩
/-- A map with its stamps. -/
def MapT (h : Heap) (b : Nat) (kk : IntKind) (f : α → Value) (m : List (Int × α)) : Prop :=
  ∃ es clock, h[b]? = some (.map es clock) ∧ pairs es.toList = m.map (fun q => (Value.int kk q.1, f q.2)) ∧ MapKept.Stamped es clock
theorem MapT.mapB {h : Heap} {b : Nat} {kk : IntKind} {f : α → Value} {m : List (Int × α)} (r : MapT h b kk f m) : MapB h b kk f m := by
  obtain ⟨es, clock, hb, hm, _⟩ := r; exact ⟨es, clock, hb, hm⟩
theorem MapT.lt {h : Heap} {b : Nat} {kk : IntKind} {f : α → Value} {m : List (Int × α)} (r : MapT h b kk f m) : b < h.size := r.mapB.lt
theorem MapT.same {h h' : Heap} {b : Nat} {kk : IntKind} {f : α → Value} {m : List (Int × α)} (r : MapT h b kk f m) (e : h'[b]? = h[b]?) : MapT h' b kk f m := by
  obtain ⟨es, clock, hb, hm⟩ := r; exact ⟨es, clock, e.trans hb, hm⟩
theorem MapT.new {h h' : Heap} {b : Nat} {kk : IntKind} {f : α → Value} {m : List (Int × α)} (r : MapT h b kk f m) (n : New h h') : MapT h' b kk f m := r.same (n.same b r.lt)
theorem MapT.only {h h' : Heap} {b c : Nat} {kk : IntKind} {f : α → Value} {m : List (Int × α)} (r : MapT h b kk f m) (n : Only c h h') (hne : b ≠ c) : MapT h' b kk f m := r.same (n.same b hne)
theorem pairs_keys {kk : IntKind} {f : α → Value} {m : List (Int × α)} {es : List MapEntry} (hm : pairs es = m.map fun q => (Value.int kk q.1, f q.2)) : es.map (·.key) = (keysL m).map (Value.int kk) := by
  have := congrArg (List.map Prod.fst) hm
  unfold pairs at this
  rw [List.map_map, List.map_map] at this
  unfold keysL
  rw [List.map_map]
  exact this
theorem MapT.nodup {h : Heap} {b : Nat} {kk : IntKind} {f : α → Value} {m : List (Int × α)} (r : MapT h b kk f m) : (keysL m).Nodup := by
  obtain ⟨es, clock, _, hm, st⟩ := r
  have h3 := st.2.2
  rw [pairs_keys hm] at h3
  unfold List.Nodup at h3 ⊢
  rw [List.pairwise_map] at h3
  exact h3.imp fun hab e => hab (by rw [e])
theorem findNow_del (kk : IntKind) (f : α → Value) (k : Int) : ∀ (m : List (Int × α)) (es : List MapEntry) (i : Nat), pairs es = m.map (fun q => (Value.int kk q.1, f q.2)) →
    (Instr.findNow (.int kk) (.int kk k) es i = some none ∧ delP m k = m) ∨
    ∃ j y, Instr.findNow (.int kk) (.int kk k) es i = some (some (i + j, f y)) ∧ j < es.length ∧
      pairs (es.eraseIdx j) = (delP m k).map fun q => (Value.int kk q.1, f q.2)
  | [], [], _, _ => .inl ⟨rfl, rfl⟩
  | [], _ :: _, _, h => by simp [pairs] at h
  | _ :: _, [], _, h => by simp [pairs] at h
  | q :: m, e :: es, i, h => by
    have h0 : (e.key, e.val) = (Value.int kk q.1, f q.2) ∧ pairs es = m.map fun q => (Value.int kk q.1, f q.2) := by simpa [pairs] using h
    obtain ⟨h1, h2⟩ := h0
    have hk : e.key = .int kk q.1 := congrArg Prod.fst h1
    have hv : e.val = f q.2 := congrArg Prod.snd h1
    have hs : Instr.sameNow (.int kk) (.int kk k) e.key = some (k == q.1) := by rw [hk]; simp [Instr.sameNow]
    by_cases hq : q.1 = k
    · refine .inr ⟨0, q.2, ?_, Nat.zero_lt_succ _, ?_⟩
      · unfold Instr.findNow
        rw [hs, show (k == q.1) = true by simp [hq], hv]; rfl
      · unfold delP
        rw [if_pos hq]; exact h2
    · have hf : Instr.findNow (.int kk) (.int kk k) (e :: es) i = Instr.findNow (.int kk) (.int kk k) es (i + 1) := by
        show (match Instr.sameNow (.int kk) (.int kk k) e.key with | some true => some (some (i, e.val)) | some false => Instr.findNow (.int kk) (.int kk k) es (i + 1) | none => none) = _
        rw [hs, show (k == q.1) = false by simpa using fun e => hq e.symm]
      rw [hf]
      have hp : delP (q :: m) k = q :: delP m k := if_neg hq
      rcases findNow_del kk f k m es (i + 1) h2 with ⟨a1, a2⟩ | ⟨j, y, a1, a2, a3⟩
      · exact .inl ⟨a1, by rw [hp, a2]⟩
      · refine .inr ⟨j + 1, y, by rw [a1, show i + 1 + j = i + (j + 1) by omega], by simp only [List.length_cons]; omega, ?_⟩
        rw [hp]
        show pairs (e :: es.eraseIdx j) = _
        have : pairs (e :: es.eraseIdx j) = (e.key, e.val) :: pairs (es.eraseIdx j) := rfl
        rw [this, a3, h1]; rfl
variable {P : Program}
theorem mkt_of {t : TypeId} {kk : IntKind} {f : α → Value} {F : Option Nat → Heap → Prop} {h : Heap} (hF : ∀ h', MapT h' h.size kk f [] → New h h' → h'.size = h.size + 1 → F (some h.size) h') : mkmW P t F h := by
  rintro w rfl
  refine ⟨some w.heap.size, w.alloc (.map #[] 0), rfl, hF _ ⟨#[], 0, (MapKept.heap_alloc w _).1, rfl, MapKept.stamped_empty 0⟩ (New.push _ _) ?_, Rest.alloc _ _⟩
  show (w.heap.push _).size = _
  simp
theorem mut_of {t kt e : TypeId} {b : Nat} {kk : IntKind} {k : Int} {f : α → Value} {m : List (Int × α)} (x : α) {F : Heap → Prop} {h : Heap} (hu : P.underlying t = some (.map kt e)) (hk : P.underlying kt = some (.int kk))
    (r : MapT h b kk f m) (hF : ∀ h', MapT h' b kk f (putP m k x) → Only b h h' → F h') : muW P t (.map (some b)) (.int kk k) (f x) F h := by
  rintro w rfl
  obtain ⟨es, clock, hb, hm, st⟩ := r
  have hlt : b < w.heap.size := (Array.getElem?_eq_some_iff.1 hb).1
  have hon : ∀ o, Only b w.heap (w.heap.setIfInBounds b o) := fun o => ⟨by simp, fun i hi => Array.getElem?_setIfInBounds_ne (Ne.symm hi)⟩
  have hat : ∀ o, (w.heap.setIfInBounds b o)[b]? = some o := fun o => by simp [hlt]
  rcases findNow_pairs kk f k m es.toList 0 hm with ⟨a1, a2, a3⟩ | ⟨j, y, a1, a2, ⟨e', a3, a4⟩, a5⟩
  · have hf := MapKept.run_findKey (w := w) hk a1
    refine ⟨{ w with heap := w.heap.setIfInBounds b (.map (es.push { key := .int kk k, val := f x, born := clock }) (clock + 1)) }, ?_, hF _ ⟨_, _, hat _, ?_, ?_⟩ (hon _), rest_map hb _⟩
    · simp [Instr.mapUpdate, run_underlying' hu, MapKept.run_getObj_map hb, run_checkInt hk, hf, MapKept.run_setObj_map _ hb, Result.andThen]
    · rw [a3, List.map_append, ← hm]; simp [pairs]
    · refine MapKept.stamped_push st fun y hy e => getP_none k m a2 ?_
      have h1 : y.key ∈ es.toList.map (·.key) := List.mem_map.2 ⟨y, hy, rfl⟩
      rw [pairs_keys hm, e] at h1
      obtain ⟨z, hz, ez⟩ := List.mem_map.1 h1
      injection ez with _ ez
      exact ez ▸ hz
  · have hf := MapKept.run_findKey (w := w) hk a1
    have hj : es[j]? = some e' := by rw [← Array.getElem?_toList]; exact a3
    have hst := stays_int (P := P) kk k w
    refine ⟨{ w with heap := w.heap.setIfInBounds b (.map (es.modify j fun e => { e with key := .int kk k, val := f x }) clock) }, ?_, hF _ ⟨_, _, hat _, ?_, ?_⟩ (hon _), rest_map hb _⟩
    · simp [Instr.mapUpdate, run_underlying' hu, MapKept.run_getObj_map hb, run_checkInt hk, hf, hj, a4, hst, MapKept.run_setObj_map _ hb, Result.andThen]
    · rw [Array.toList_modify]; exact a5 x
    · refine MapKept.stamped_modify st j _ (fun _ _ => rfl) fun y _ hy => ?_
      rw [hj] at hy
      injection hy with hy
      subst hy
      exact a4.symm
theorem del_of {t kt e : TypeId} {b : Nat} {kk : IntKind} {k : Int} {f : α → Value} {m : List (Int × α)} {F : Heap → Prop} {h : Heap} (hu : P.underlying t = some (.map kt e)) (hk : P.underlying kt = some (.int kk))
    (r : MapT h b kk f m) (hF : ∀ h', MapT h' b kk f (delP m k) → Only b h h' → F h') : dlW P #[t, kt] #[.map (some b), .int kk k] F h := by
  rintro w rfl
  obtain ⟨es, clock, hb, hm, st⟩ := r
  have hlt : b < w.heap.size := (Array.getElem?_eq_some_iff.1 hb).1
  have hon : ∀ o, Only b w.heap (w.heap.setIfInBounds b o) := fun o => ⟨by simp, fun i hi => Array.getElem?_setIfInBounds_ne (Ne.symm hi)⟩
  have hat : ∀ o, (w.heap.setIfInBounds b o)[b]? = some o := fun o => by simp [hlt]
  rcases findNow_del kk f k m es.toList 0 hm with ⟨a1, a2⟩ | ⟨j, y, a1, a2, a3⟩
  · have hf := MapKept.run_findKey (w := w) hk a1
    refine ⟨{ w with heap := w.heap.setIfInBounds b (.map es clock) }, ?_, hF _ ⟨_, _, hat _, by rw [a2]; exact hm, st⟩ (hon _), rest_map hb _⟩
    simp [Builtin.delete_, run_underlying' hu, MapKept.run_getObj_map hb, run_checkInt hk, hf, MapKept.run_setObj_map _ hb, Result.andThen]
  · have hf := MapKept.run_findKey (w := w) hk a1
    have hjs : j < es.size := by simpa using a2
    refine ⟨{ w with heap := w.heap.setIfInBounds b (.map (es.eraseIdxIfInBounds j) clock) }, ?_, hF _ ⟨_, _, hat _, ?_, MapKept.stamped_erase st j⟩ (hon _), rest_map hb _⟩
    · simp [Builtin.delete_, run_underlying' hu, MapKept.run_getObj_map hb, run_checkInt hk, hf, MapKept.run_setObj_map _ hb, Result.andThen]
    · have : (es.eraseIdxIfInBounds j).toList = es.toList.eraseIdx j := by
        unfold Array.eraseIdxIfInBounds
        rw [dif_pos hjs]
        simp
      rw [this]; exact a3
theorem lk2_of {t kt e : TypeId} {b : Nat} {kk : IntKind} {k : Int} {f : α → Value} {m : List (Int × α)} {zv : Value} {T : Ty} {F : T.T → Bool → Prop} {h : Heap} (hu : P.underlying t = some (.map kt e)) (hk : P.underlying kt = some (.int kk))
    (hz : ∀ w, (zeroValue e).run P w = .ok zv w) (r : MapB h b kk f m) (x : T.T) (hx : T.val x = match getP m k with | some y => f y | none => zv) (hF : F x (getP m k).isSome) : lk2W P t T (.map (some b)) (.int kk k) F h := by
  rintro w rfl
  refine ⟨x, (getP m k).isSome, ?_, hF⟩
  obtain ⟨es, clock, hb, hm⟩ := r
  rw [hx]
  rcases findNow_pairs kk f k m es.toList 0 hm with ⟨a1, a2, _⟩ | ⟨j, y, a1, a2, _⟩
  · have hf := MapKept.run_findKey (w := w) hk a1
    rw [a2]
    simp [Instr.lookup, run_underlying' hu, MapKept.run_getObj_map hb, run_checkInt hk, hf, hz, Result.andThen]
  · have hf := MapKept.run_findKey (w := w) hk a1
    rw [a2]
    simp [Instr.lookup, run_underlying' hu, MapKept.run_getObj_map hb, run_checkInt hk, hf, Result.andThen]
theorem ln_of {t kt e ty : TypeId} {b : Nat} {kk : IntKind} {f : α → Value} {m : List (Int × α)} {F : Int → Prop} {h : Heap} (hu : P.underlying t = some (.map kt e)) (r : MapB h b kk f m) (hF : F (m.length : Int)) : lnW P #[t] ty #[.map (some b)] F h := by
  rintro w rfl
  obtain ⟨es, clock, hb, hm⟩ := r
  have hl : es.size = m.length := by
    have := congrArg List.length hm
    unfold pairs at this
    simpa using this
  refine ⟨(m.length : Int), ?_, hF⟩
  rw [← hl]
  simp [Builtin.len_, run_underlying' hu, MapKept.run_getObj_map hb, Result.andThen, goInt]
/-- A walk through a map: what is left; behind a step, its entry besides. -/
def IterL (h : Heap) (r b : Nat) (kk : IntKind) (f : α → Value) (left : List (Int × α)) : Prop :=
  ∃ es clock since seen c0, h[r]? = some (.mapIter (some b) since seen c0) ∧ h[b]? = some (.map es clock) ∧ MapKept.Stamped es clock ∧ (∀ x ∈ es.toList, x.born < since) ∧ since ≤ c0 ∧ since ≤ clock ∧ pairs (leftOf es seen).toList = left.map (fun q => (Value.int kk q.1, f q.2))
def IterE (h : Heap) (r b : Nat) (kk : IntKind) (f : α → Value) (left : List (Int × α)) (q : Int × α) : Prop :=
  ∃ (es : Array MapEntry) (clock since : Nat) (seen : Array Nat) (e : MapEntry), h[r]? = some (.mapIter (some b) since (seen.push e.born) clock) ∧ h[b]? = some (.map es clock) ∧ MapKept.Stamped es clock ∧ (∀ x ∈ es.toList, x.born < since) ∧ since ≤ clock ∧ e ∈ es.toList ∧ (e.key, e.val) = (Value.int kk q.1, f q.2) ∧ pairs (leftOf es (seen.push e.born)).toList = left.map (fun q => (Value.int kk q.1, f q.2))
theorem IterE.next {h : Heap} {r b : Nat} {kk : IntKind} {f : α → Value} {left : List (Int × α)} {q : Int × α} (i : IterE h r b kk f left q) : IterL h r b kk f left := by
  obtain ⟨es, clock, since, seen, e, h1, h2, h3, h4, h5, _, _, h8⟩ := i
  exact ⟨es, clock, since, _, clock, h1, h2, h3, h4, h5, h5, h8⟩
theorem IterL.lt {h : Heap} {r b : Nat} {kk : IntKind} {f : α → Value} {left : List (Int × α)} (i : IterL h r b kk f left) : r < h.size ∧ b < h.size := by
  obtain ⟨es, clock, since, seen, c0, h1, h2, _⟩ := i
  exact ⟨(Array.getElem?_eq_some_iff.1 h1).1, (Array.getElem?_eq_some_iff.1 h2).1⟩
theorem IterL.new {h h' : Heap} {r b : Nat} {kk : IntKind} {f : α → Value} {left : List (Int × α)} (i : IterL h r b kk f left) (n : New h h') : IterL h' r b kk f left := by
  obtain ⟨es, clock, since, seen, c0, h1, h2, h3⟩ := i
  exact ⟨es, clock, since, seen, c0, (n.same r (Array.getElem?_eq_some_iff.1 h1).1).trans h1, (n.same b (Array.getElem?_eq_some_iff.1 h2).1).trans h2, h3⟩
/-- How much is left. -/
def leftN (h : Heap) (r b : Nat) : Nat := match h[r]?, h[b]? with
  | some (.mapIter _ _ seen _), some (.map es _) => (leftOf es seen).size
  | _, _ => 0
theorem IterL.left {h : Heap} {r b : Nat} {kk : IntKind} {f : α → Value} {left : List (Int × α)} (i : IterL h r b kk f left) : leftN h r b = left.length := by
  obtain ⟨es, clock, since, seen, c0, h1, h2, _, _, _, _, h8⟩ := i
  have := congrArg List.length h8
  unfold pairs at this
  unfold leftN
  rw [h1, h2]
  simpa using this
theorem rg_of {t kt e : TypeId} {b : Nat} {kk : IntKind} {f : α → Value} {m : List (Int × α)} {F : Addr → Heap → Prop} {h : Heap} (hu : P.underlying t = some (.map kt e)) (r : MapT h b kk f m)
    (hF : ∀ h', IterL h' h.size b kk f m → New h h' → h'.size = h.size + 1 → F ⟨h.size, 0, none⟩ h') : rgW P t (.map (some b)) F h := by
  rintro w rfl
  obtain ⟨es, clock, hb, hm, st⟩ := r
  have hlt : b < w.heap.size := (Array.getElem?_eq_some_iff.1 hb).1
  refine ⟨⟨w.heap.size, 0, none⟩, w.alloc (.mapIter (some b) clock #[] clock), run_range_map w t kt e b es clock hu hb, hF _ ⟨es, clock, clock, #[], clock, (MapKept.heap_alloc w _).1, ((MapKept.heap_alloc w _).2 b hlt).trans hb, st, st.1, Nat.le_refl _, Nat.le_refl _, ?_⟩ (New.push _ _) ?_, Rest.alloc _ _⟩
  · have : leftOf es #[] = es := by
      unfold leftOf
      rw [Array.filter_eq_self]
      intro x _
      simp
    rw [this]; exact hm
  · show (w.heap.push _).size = _
    simp
theorem filter_one {seen : Array Nat} {e : MapEntry} : ∀ {L : List MapEntry}, (L.map (·.born)).Nodup → e ∈ L → ∃ s t, L = s ++ e :: t ∧ L.filter (fun x => !(x.born == e.born)) = s ++ t
  | [], _, h => by cases h
  | x :: L, hn, h => by
    have hn' : x.born ∉ L.map (·.born) ∧ (L.map (·.born)).Nodup := List.nodup_cons.1 hn
    rcases List.mem_cons.1 h with rfl | h
    · refine ⟨[], L, rfl, ?_⟩
      rw [List.filter_cons_of_neg (by simp)]
      refine List.filter_eq_self.2 fun y hy => ?_
      have : y.born ∈ L.map (·.born) := List.mem_map.2 ⟨y, hy, rfl⟩
      have hne : y.born ≠ e.born := fun e2 => hn'.1 (by rw [← e2]; exact this)
      simpa using hne
    · obtain ⟨s, t, e1, e2⟩ := filter_one (seen := seen) hn'.2 h
      have hne : x.born ≠ e.born := fun e3 => hn'.1 (List.mem_map.2 ⟨e, h, e3.symm⟩)
      refine ⟨x :: s, t, by rw [e1]; rfl, ?_⟩
      rw [List.filter_cons_of_pos (by simpa using hne), e2]; rfl
theorem nx_of {t : TypeId} {r b : Nat} {kk : IntKind} {f : α → Value} {left : List (Int × α)} {Ff : Heap → Prop} {Ft : Value → Value → Heap → Prop} {h : Heap} (it : IterL h r b kk f left) (hne : b ≠ r) (h0 : left = [] → Ff h)
    (h1 : ∀ l1 q l2 h', left = l1 ++ q :: l2 → IterE h' r b kk f (l1 ++ l2) q → Only r h h' → Ft (.int kk q.1) (f q.2) h') : nxW P t (.pointer (some ⟨r, 0, none⟩)) Ff Ft h := by
  rintro w rfl
  obtain ⟨es, clock, since, seen, c0, hr, hb, st, hold, hsc, hs2, hm⟩ := it
  rcases run_next_at (P := P) w t r b since c0 seen es clock hr hb hold hsc with ⟨hz, hrun⟩ | ⟨e, he, w1, hw1, hrun⟩
  · refine ⟨w, .inl ⟨hrun, h0 ?_⟩, Rest.refl w⟩
    have : leftOf es seen = #[] := Array.eq_empty_of_size_eq_zero hz
    rw [this] at hm
    cases left with
    | nil => rfl
    | cons q l => simp [pairs] at hm
  · have hrlt : r < w.heap.size := (Array.getElem?_eq_some_iff.1 hr).1
    have hheap : w1.heap = w.heap := by rcases hw1 with rfl | rfl <;> rfl
    have hsub : (leftOf es seen).toList.Sublist es.toList := by
      unfold leftOf
      rw [Array.toList_filter]
      exact List.filter_sublist
    have hnd : ((leftOf es seen).toList.map (·.born)).Nodup := List.Nodup.sublist (hsub.map _) st.2.1
    obtain ⟨s, u, e1, e2⟩ := filter_one (seen := seen) hnd he
    have hL : (leftOf es (seen.push e.born)).toList = s ++ u := by
      rw [← e2]
      unfold leftOf
      rw [Array.toList_filter, Array.toList_filter, List.filter_filter]
      refine List.filter_congr fun x _ => ?_
      simp [Bool.not_or, Bool.and_comm, Bool.beq_eq_decide_eq]
    rw [e1] at hm
    have hm' : pairs s ++ (e.key, e.val) :: pairs u = left.map fun q => (Value.int kk q.1, f q.2) := by rw [← hm]; simp [pairs]
    obtain ⟨l1, l2', e3, e4, e5⟩ := List.map_eq_append_iff.1 hm'.symm
    obtain ⟨q, l2, e6, e7, e8⟩ := List.map_eq_cons_iff.1 e5
    subst e6
    have hk : e.key = .int kk q.1 := (congrArg Prod.fst e7).symm
    have hv : e.val = f q.2 := (congrArg Prod.snd e7).symm
    have hh : (ChangeMaps.setBlock w1 r (.mapIter (some b) since (seen.push e.born) clock)).heap = w.heap.setIfInBounds r (.mapIter (some b) since (seen.push e.born) clock) := by
      show w1.heap.setIfInBounds _ _ = _
      rw [hheap]
    refine ⟨_, .inr ⟨.int kk q.1, f q.2, by rw [← hk, ← hv]; exact hrun, ?_⟩, ?_⟩
    · rw [hh]
      refine h1 l1 q l2 _ e3 ⟨es, clock, since, seen, e, by simp [hrlt], (Array.getElem?_setIfInBounds_ne (Ne.symm hne)).trans hb, st, hold, hs2, hsub.subset he, e7.symm, ?_⟩ ⟨by simp, fun i hi => Array.getElem?_setIfInBounds_ne (Ne.symm hi)⟩
      rw [hL, List.map_append, e4, e8]
      simp [pairs]
    · have hw : Rest w w1 := by
        rcases hw1 with rfl | rfl
        · exact Rest.refl _
        · exact ⟨rfl, rfl, rfl, Nat.le_refl _, fun _ _ h _ => h⟩
      refine ⟨hw.os, hw.tape, hw.output, by rw [hh]; simp, fun i x hi hp => ?_⟩
      rw [hh]
      by_cases e9 : i = r
      · subst e9
        rw [hr] at hi
        injection hi with hi
        subst hi
        cases hp
      · rw [Array.getElem?_setIfInBounds_ne (fun e2 => e9 e2.symm)]; exact hi
theorem en_of {r b : Nat} {kk : IntKind} {f : α → Value} {left : List (Int × α)} {q : Int × α} {F : Value → Value → Prop} {h : Heap} (it : IterE h r b kk f left q) (hF : F (.int kk q.1) (f q.2)) : enW P (.pointer (some ⟨r, 0, none⟩)) F h := by
  rintro w rfl
  obtain ⟨es, clock, since, seen, e, hr, hb, st, _, _, he, hq, _⟩ := it
  refine ⟨.int kk q.1, f q.2, ?_, hF⟩
  have hk : e.key = .int kk q.1 := congrArg Prod.fst hq
  have hv : e.val = f q.2 := congrArg Prod.snd hq
  rw [← hk, ← hv]
  exact run_entry_at w r b since seen es clock e hr hb he st.2.1
end Go.Pl
