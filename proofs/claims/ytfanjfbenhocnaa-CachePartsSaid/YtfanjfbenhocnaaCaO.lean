/-
  CacheParts of layer 10.
-/
import Derived.Test.YtfanjfbenhocnaaCaN
namespace Go.Proofs.Ytfanjfbenhocnaa.Ca
open Go.Pl Go.Pl.Lru Go.Pl.Ix Go.Proofs.Ytfanjfbenhocnaa.W Go.Proofs.Ytfanjfbenhocnaa.Lru Go.Proofs.Ytfanjfbenhocnaa.IxS
abbrev TR : TypeId := 78
theorem apR : apB Try.prog 76 TR 3 16 = true := by kernel_rfl
theorem ent_eqR (x y : Int × Int × Bool) : ∀ w, (Op.equal TR (.agg #[.int .i64 x.1, .int .u32 x.2.1, .bool x.2.2]) (.agg #[.int .i64 y.1, .int .u32 y.2.1, .bool y.2.2])).run Try.prog w = .ok (decide (x = y)) w := by
  intro w
  obtain ⟨a, b, c⟩ := x
  obtain ⟨a', b', c'⟩ := y
  have hS : Try.prog.underlying TR = some (.struct (Try.prog.fieldsOf TR)) := by kernel_rfl
  have hp : Try.prog.stoodInHeld TR = false := by kernel_rfl
  have u3 := Try.underlying3
  have a3 := Try.isAgg3
  have z3 := Try.sizeOf3
  have u4 := Try.underlying23
  have a4 := Try.isAgg23
  have z4 := Try.sizeOf23
  have u5 := Try.underlying4
  have a5 := Try.isAgg4
  have z5 := Try.sizeOf4
  show ((Op.equalIn (9999 + 1) TR _ _).run _ _) = _
  rw [run_equalIn_agg w 9999 TR _ _ hS hp]
  simp only [Program.fieldsOf, Try.underlying78]
  go_simp
  by_cases h1 : a = a' <;> by_cases h2 : b = b' <;> by_cases h3 : c = c' <;> simp [h1, h2, h3]
theorem ER.row {h : Heap} {n c : Nat} {e : TypeId} {a : Option Addr} {L : List En} (r : RowS h e 3 a n c (encs L)) : ER h a L := fun i z hz => by
  have hc : ∀ j, j < 3 → ∃ g o, a = some ⟨g, o, none⟩ ∧ g < h.size ∧ cellH h ⟨g, o + (i * 3 + j), none⟩ = (entV z.1 z.2)[j]? := fun j hj => by
    have hu : (entV z.1 z.2)[j]? = some ((entV z.1 z.2)[j]'(by exact hj)) := List.getElem?_eq_getElem _
    obtain ⟨g, o, e1, h1, h2⟩ := r.cell ((encs_get L i z hz j hj).trans hu)
    exact ⟨g, o, e1, h1, by rw [h2, hu]⟩
  obtain ⟨g, o, e1, h1, _⟩ := hc 0 (by decide)
  refine ⟨g, o, e1, h1, fun j hj => ?_⟩
  obtain ⟨g', o', e2, _, h3⟩ := hc j hj
  rw [e1] at e2; injection e2 with e2; injection e2 with e2 e3
  rw [e2, e3]; exact h3
/-- An entry more in a row that grows. -/
theorem grow_ent {h0 h : Heap} {r0 : Option Nat} {lc n : Nat} {e : Int × Bool} {a : Option Addr} {l : List En} (g : Grow h0 r0 h TR 3 a l.length lc (encs l)) (hl : l.length ≤ 1000) {F : Option Addr → Nat → Nat → Heap → Prop}
    (hF : ∀ a' c' h', Grow h0 r0 h' TR 3 a' (l ++ [(n, e)]).length c' (encs (l ++ [(n, e)])) → F a' (l ++ [(n, e)]).length c' h') :
    newW (.cells #[.int .i64 n, .int .u32 e.1, .bool e.2] TR) (fun q h' => apW Try.prog #[76, 76] #[.slice a l.length lc, .slice (some q) 1 1] F h') h := by
  refine new_of fun h1 b1 n1 s1 => ?_
  have g1 := g.new n1
  refine ap_row apR g1.row (entV n e) rfl (fun j u hu => ?_) (fun u hu => ?_) (by simp only [maxLen]; omega) (by omega) fun a' c' h2 r2 w2 _ => ?_
  · rw [add_mk, cellH_blk b1, Nat.zero_add]
    have hj : j < 3 := (List.getElem?_eq_some_iff.1 hu).1
    have hj' : j = 0 ∨ j = 1 ∨ j = 2 := by omega
    rcases hj' with rfl | rfl | rfl <;> exact hu
  · unfold entV at hu
    simp only [List.mem_cons, List.not_mem_nil, or_false] at hu
    rcases hu with rfl | rfl | rfl <;> rfl
  · have el : (l ++ [(n, e)]).length = l.length + 1 := by simp
    rw [← el] at r2 ⊢
    rw [← encs_app l (n, e)] at r2
    exact hF a' c' h2 (g1.went r2 w2)
theorem encs_cat (l m : List En) : encs (l ++ m) = encs l ++ encs m := by simp [encs]
theorem encs_cell {m : List En} {u : Value} (hu : u ∈ encs m) : u.oneCell' = true := by
  unfold encs at hu
  rw [List.mem_flatten] at hu
  obtain ⟨l, hl, hm⟩ := hu
  obtain ⟨z, _, rfl⟩ := List.mem_map.1 hl
  unfold entV at hm
  simp only [List.mem_cons, List.not_mem_nil, or_false] at hm
  rcases hm with rfl | rfl | rfl <;> rfl
/-- A row of entries behind a row that grows. -/
theorem grow_ents {h0 h : Heap} {r0 : Option Nat} {lc mc : Nat} {a b : Option Addr} {l m : List En} (g : Grow h0 r0 h TR 3 a l.length lc (encs l)) (r : RowS h TR 3 b m.length mc (encs m)) (hm : m ≠ []) (hl : l.length + m.length ≤ 1000) {F : Option Addr → Nat → Nat → Heap → Prop}
    (hF : ∀ a' c' h', Grow h0 r0 h' TR 3 a' (l ++ m).length c' (encs (l ++ m)) → F a' (l ++ m).length c' h') :
    apW Try.prog #[76, 76] #[.slice a l.length lc, .slice b m.length mc] F h := by
  have hlen := encs_len m
  have h0' : 0 < m.length := by cases m with
    | nil => exact (hm rfl).elim
    | cons z m => simp
  obtain ⟨gb, o, rfl, _, _⟩ := r.cell (j := 0) (u := (encs m)[0]'(by omega)) (List.getElem?_eq_getElem _)
  refine ap_row apR g.row (encs m) hlen (fun j u hu => ?_) (fun u hu => encs_cell hu) (by simp only [maxLen]; omega) (by omega) fun a' c' h2 r2 w2 _ => ?_
  · obtain ⟨g', o', e, _, hc⟩ := r.cell hu
    injection e with e; injection e with e1 e2
    rw [add_mk, e1, e2]; exact hc
  · rw [← List.length_append] at r2 ⊢
    rw [← encs_cat] at r2
    exact hF a' c' h2 (g.went r2 w2)
theorem entries_ok (h : Heap) (a : Option Addr) (c : Nat) (L : List En) (hl : L.length ≤ 64) (er : ER h a L) :
    CallsH Try.prog 36 [.slice a L.length c] h fun v h' => ∃ a' c', v = .slice a' L.length c' ∧ RowS h' TR 3 a' L.length c' (encs L) ∧ New h h' := by
  refine fun_ok hm' Try.func36 (by kernel_rfl) (F36_eq _ _ _ _ h) ?_
  unfold F36
  rw [zE]
  refine new_of fun h1 b1 n1 s1 => ?_
  have hr0 : ∀ b : Nat, blkOf (some (⟨h.size, 0, none⟩ : Addr)) = some b → h.size ≤ b := fun b e => by injection e with e; change h.size = b at e; omega
  refine ⟨fun (s : (Option Addr × Nat × Nat) × Int) h' => ∃ i : Nat, s.2 = i ∧ i ≤ L.length ∧ s.1.2.1 = (L.take i).length ∧ Grow h1 (blkOf (some (⟨h.size, 0, none⟩ : Addr))) h' TR 3 s.1.1 (L.take i).length s.1.2.2 (encs (L.take i)), fun (s : (Option Addr × Nat × Nat) × Int) _ => ((L.length : Int) - s.2).toNat, ⟨0, rfl, Nat.zero_le _, rfl, Grow.start (RowS.nil' h1 TR 3 (some ⟨h.size, 0, none⟩))⟩, ?_⟩
  rintro ⟨⟨oa, on, oc⟩, s⟩ j h2 ⟨i, hs, hi, hon, g2⟩
  have hs : s = (i : Int) := hs
  have hon : on = (L.take i).length := hon
  have g2 : Grow h1 (blkOf (some (⟨h.size, 0, none⟩ : Addr))) h2 TR 3 oa (L.take i).length oc (encs (L.take i)) := g2
  subst hs; subst hon
  have n2 : New h h2 := g2.upd.grow n1 hr0
  refine br_of (fun hlt => ?_) (fun hlt => ?_)
  · have hlt : (i : Int) < (L.length : Int) := of_decide_eq_true hlt
    have hiL : i < L.length := by omega
    have ez : IntKind.wrap .i64 ((i : Int) + 1) = ((i + 1 : Nat) : Int) := (by first | (rw [wr64 (by omega) (by omega)]; omega) | (simp only [IntKind.wrap_i64]; omega))
    have htl : (L.take i).length = i := by rw [List.length_take]; omega
    refine (er.new n2).ld hiL hiL (new_stL rfl fun h3 b3 n3 s3 => ?_)
    refine ldAgg_blk (cs := [.int .i64, .int .u32, .bool]) (((L[i].1 : Int), L[i].2.1, L[i].2.2) : Int × Int × Bool) b3 ⟨rfl, rfl, rfl, trivial⟩ ?_
    refine grow_ent (n := L[i].1) (e := L[i].2) (g2.new n3) (by omega) fun a' c' h4 g4 => ?_
    have et : L.take i ++ [(L[i].1, L[i].2)] = L.take (i + 1) := List.take_append_getElem hiL
    rw [et] at g4
    simp only [ez]
    exact ⟨⟨i + 1, rfl, hiL, by rw [et], g4⟩, (by first | omega | (dsimp only; omega) | (simp only []; omega))⟩
  · have : i = L.length := by
      have hlt : ¬ (i : Int) < (L.length : Int) := of_decide_eq_false hlt
      omega
    subst this
    rw [List.take_length] at g2 ⊢
    exact ⟨oa, oc, rfl, g2.row, n2⟩
theorem rsame_ok (h : Heap) (a b : Option Addr) (ca cb n m : Nat) (L M : List En) (hn : n = L.length) (hm : m = M.length) (hl : L.length ≤ 1000) (ra : ER h a L) (rb : ER h b M) :
    CallsH Try.prog 37 [.slice a n ca, .slice b m cb] h fun v h' => v = .bool (decide (L = M)) ∧ h' = h := by
  refine fun_ok hm' Try.func37 (by kernel_rfl) (F37_eq _ _ _ _ _ _ _ h) ?_
  unfold F37
  subst hn; subst hm
  refine br_of (fun hne => ?_) (fun heq => ?_)
  · have : L ≠ M := fun e => by subst e; simp at hne
    exact ⟨by simp [this], rfl⟩
  have hlen : L.length = M.length := by simp at heq; omega
  refine ⟨fun (s : Int) h' => h' = h ∧ ∃ i : Nat, s = i ∧ i ≤ L.length ∧ L.take i = M.take i, fun (s : Int) _ => (L.length - s).toNat, ⟨rfl, 0, rfl, by omega, rfl⟩, ?_⟩
  rintro s j h' ⟨hh, i, rfl, hi, hpre⟩
  subst h'
  refine br_of (fun hlt => ?_) (fun hlt => ?_)
  · have hlt : i < L.length := by simp at hlt; omega
    refine ra.ld hlt hlt (rb.ld (by omega) (by omega) ⟨_, ent_eqR ((L[i].1 : Int), L[i].2.1, L[i].2.2) ((M[i].1 : Int), M[i].2.1, M[i].2.2), ?_⟩)
    have hiff : (((L[i].1 : Int), L[i].2.1, L[i].2.2) = ((M[i].1 : Int), M[i].2.1, M[i].2.2)) ↔ L[i] = M[i] := by
      generalize L[i] = x
      generalize M[i] = y
      obtain ⟨x1, x2, x3⟩ := x
      obtain ⟨y1, y2, y3⟩ := y
      simp only [Prod.mk.injEq]
      exact ⟨fun ⟨h1, h2⟩ => ⟨by omega, h2⟩, fun ⟨h1, h2⟩ => ⟨by omega, h2⟩⟩
    refine br_of (fun hd => ?_) (fun hd => ?_)
    · have : L ≠ M := fun e => by subst e; simp at hd
      exact ⟨by simp [this], rfl⟩
    · have hd : L[i] = M[i] := hiff.1 (by simpa using hd)
      refine ⟨⟨rfl, i + 1, (by first | (rw [wr64 (by omega) (by omega)]; omega) | (simp only [IntKind.wrap_i64]; omega)), hlt, ?_⟩, (by dsimp only; first | (rw [wr64 (by omega) (by omega)]; omega) | (rw [wr64 (by omega) (by omega), wr64 (by omega) (by omega)]; omega) | (simp only [IntKind.wrap_i64]; omega))⟩
      rw [← List.take_append_getElem hlt, ← List.take_append_getElem (show i < M.length by omega), hpre, hd]
  · have hlt : ¬ (i : Int) < (L.length : Int) := of_decide_eq_false hlt
    have : i = L.length := by omega
    subst this
    rw [List.take_length, List.take_of_length_le (by omega)] at hpre
    exact ⟨by simp [hpre], rfl⟩
theorem ar_keep {k : IntKind} {h h' : Heap} {a : Option Addr} {xs : List Int} (r : Ar k h a xs) (hs : h.size ≤ h'.size) (hk : ∀ b, blkOf a = some b → b < h.size → h'[b]? = h[b]?) : Ar k h' a xs := fun i x hx => by
  obtain ⟨b, o, e, hp, hc⟩ := r i x hx
  subst e
  exact ⟨b, o, rfl, Nat.lt_of_lt_of_le hp hs, by rw [cellH_same (hk b rfl hp)]; exact hc⟩
/- PLAIN. -/
def dirtBs (c : Cm) (t : Nat) : List Nat := (blocks c).filter fun n => dirtyB c n && decide (n / 4 = t)
theorem dirtyC_bs (c : Cm) (t : Nat) : dirtyC c (t : Int) = (dirtBs c t).map (ev c) := by
  unfold dirtyC allC dirtBs
  rw [List.filter_map]
  congr 1
  refine List.filter_congr fun n _ => ?_
  show (dirtyB c n && decide (((n / 4 : Nat) : Int) = (t : Int))) = (dirtyB c n && decide (n / 4 = t))
  congr 1
  rw [decide_eq_decide]; omega
theorem want_got (c : Cm) : (allC c).filter (fun z => z.2.2) = (tablesC c).flatMap fun (t : Nat) => dirtyC c (t : Int) := by
  have e1 : (allC c).filter (fun z => z.2.2) = ((blocks c).filter (dirtyB c)).map (ev c) := by
    unfold allC
    rw [List.filter_map]; rfl
  have e2 : ((tablesC c).flatMap fun (t : Nat) => dirtyC c (t : Int)) = ((tablesC c).flatMap (dirtBs c)).map (ev c) := by
    rw [List.map_flatMap]
    congr 1
    funext t
    exact dirtyC_bs c t
  rw [e1, e2]
  congr 1
  have hT : ∀ t, t ∈ tablesC c ↔ ∃ n ∈ blocks c, dirtyB c n = true ∧ n / 4 = t := fun t => by
    rw [← tables_fold]
    have := (foldT c (blocks c) [] (blocks_up c) List.Pairwise.nil fun t ht => by simp at ht).2 t
    rw [this]; simp
  have hm : ∀ t n, n ∈ dirtBs c t ↔ n ∈ blocks c ∧ dirtyB c n = true ∧ n / 4 = t := fun t n => by
    unfold dirtBs
    rw [List.mem_filter, Bool.and_eq_true, decide_eq_true_iff]
  refine up_ext (List.Pairwise.sublist List.filter_sublist (blocks_up c)) ?_ fun n => ?_
  · rw [List.pairwise_flatMap]
    refine ⟨fun t _ => List.Pairwise.sublist List.filter_sublist (blocks_up c), ?_⟩
    refine List.Pairwise.imp (fun {a b} hab x hx y hy => ?_) (List.Pairwise.sublist List.filter_sublist List.pairwise_lt_range)
    have h1 := ((hm a x).1 hx).2.2
    have h2 := ((hm b y).1 hy).2.2
    omega
  · rw [List.mem_filter, List.mem_flatMap]
    constructor
    · rintro ⟨h1, h2⟩
      exact ⟨n / 4, (hT _).2 ⟨n, h1, h2, rfl⟩, (hm _ _).2 ⟨h1, h2, rfl⟩⟩
    · rintro ⟨t, _, h⟩
      have := (hm t n).1 h
      exact ⟨this.1, this.2.1⟩
theorem dirty_ne {c : Cm} {t : Nat} (h : t ∈ tablesC c) : dirtyC c (t : Int) ≠ [] := by
  unfold tablesC at h
  rw [List.mem_filter] at h
  intro e
  rw [e] at h
  simp at h
theorem blocks_clean (c : Cm) (tb : Int) : blocks (cleanC c tb) = blocks c := by
  unfold blocks cleanC
  refine List.filter_congr fun n _ => ?_
  show ((c.E n).map _).isSome = _
  cases c.E n <;> rfl
theorem dirtyB_clean (c : Cm) (tb : Int) (n : Nat) : dirtyB (cleanC c tb) n = (dirtyB c n && !decide (((n / 4 : Nat) : Int) = tb)) := by
  unfold dirtyB ev
  show (((c.E n).map fun e => (e.1, e.2 && !decide (((n / 4 : Nat) : Int) = tb))).getD (0, false)).2 = _
  cases c.E n <;> rfl
theorem clean_none (c : Cm) (tb : Int) : dirtyC (cleanC c tb) tb = [] := by
  cases h : dirtyC (cleanC c tb) tb with
  | nil => rfl
  | cons z l =>
    obtain ⟨n, _, _, hd, ht⟩ := mem_dirty.1 (show z ∈ dirtyC (cleanC c tb) tb by rw [h]; simp)
    rw [dirtyB_clean, ht] at hd
    simp at hd
def dcount (L : List En) : Nat := (L.filter fun z => z.2.2).length
theorem count_split (l : List Nat) (p q : Nat → Bool) : (l.filter p).length = (l.filter fun n => p n && q n).length + (l.filter fun n => p n && !q n).length := by
  induction l with
  | nil => rfl
  | cons a l ih =>
    simp only [List.filter_cons]
    cases hp : p a <;> cases hq : q a <;> simp [ih] <;> omega
theorem count_clean (c : Cm) (tb : Int) : dcount (allC c) = (dirtyC c tb).length + dcount (allC (cleanC c tb)) := by
  have e1 : ∀ c : Cm, dcount (allC c) = ((blocks c).filter (dirtyB c)).length := fun c => by
    unfold dcount allC
    rw [List.filter_map, List.length_map]; rfl
  have e2 : (dirtyC c tb).length = ((blocks c).filter fun n => dirtyB c n && decide (((n / 4 : Nat) : Int) = tb)).length := by
    unfold dirtyC allC
    rw [List.filter_map, List.length_map]; rfl
  have e3 : ((blocks c).filter (dirtyB (cleanC c tb))) = (blocks c).filter fun n => dirtyB c n && !decide (((n / 4 : Nat) : Int) = tb) := List.filter_congr fun n _ => dirtyB_clean c tb n
  rw [e1, e1, e2, blocks_clean, e3]
  exact count_split _ _ _
theorem all_le {S : Nat} {c : Cm} (i : Inv S c) : (allC c).length ≤ 64 := by rw [all_len, blocks_len i]; have := i.len; have := i.le; omega
theorem dirty_le {S : Nat} {c : Cm} (i : Inv S c) (t : Int) : (dirtyC c t).length ≤ 64 := Nat.le_trans (List.length_filter_le _ _) (all_le i)
theorem Run.upd' {k p S b : Nat} {t t1 : Tags} {h h1 h2 : Heap} {c : Cm} (r : Run k t h p S c t1 h1) (u : UpdO (some b) h1 h2) (hb : h.size ≤ b) (ht : (t1 b).1 ≠ k) : Run k t h p S c t1 h2 :=
  r.loc ⟨u.size, fun x hx hne => u.same x hx fun e => hne (Option.some.inj e)⟩ hb ht
set_option maxHeartbeats 2000000 in
theorem parts_law (h : Heap) (v0 v1 v2 : Value) (room : Int) (l : List Az) (tb : Int) (r0 : ReadsV h (.int .i64) v0 room) (r1 : ReadsV h (.slice AS) v1 l) (r2 : ReadsV h (.int .i64) v2 tb) :
    CallsH Try.prog 9 [v0, v1, v2] h fun v h' => v = .bool true ∧ New h h' := by
  obtain rfl := int_in r0
  obtain rfl := int_in r2
  obtain ⟨la, lc, rfl, ra⟩ := acts_in r1
  refine fun_ok hm' Try.func9 (by kernel_rfl) (F9_eq room la l.length lc tb _ h) ?_
  unfold F9
  rw [zE]
  refine call_of (awake_ok h) ?_
  rintro v h1 ⟨rfl, n1⟩
  refine ⟨true, rfl, br_f rfl ?_⟩
  by_cases hr : 1 ≤ room ∧ room ≤ 64
  rotate_left
  · refine call_of (new_no room h1 (by omega)) ?_
    rintro v h' ⟨rfl, hh⟩; subst h'
    exact ⟨(none, .iface 82 (.int .i64 1)), rfl, cut_of (br_t rfl ⟨rfl, n1⟩)⟩
  obtain ⟨S, rfl⟩ := Int.eq_ofNat_of_zero_le (show 0 ≤ room by omega)
  refine call_of (new_ok S 1 (fun _ => (0, 0)) h1 (by decide) (by omega) (by omega)) ?_
  rintro v h2 ⟨p, t2, rfl, hp, a2, f2⟩
  have R2 : Run 1 (fun _ => (0, 0)) h p S bare t2 h2 := ⟨a2, (Fr.new0 n1).trans (f2.mono fun _ _ => trivial)⟩
  refine ⟨(some ⟨p, 0, none⟩, .nilIface), rfl, cut_q (ts := []) (fun _ h' => h' = h2 ∧ l.length ≤ 200) ?_ ?_⟩
  rotate_left
  · intro K hK
    refine br_f rfl (br_of (fun _ => ⟨rfl, R2.fresh (by decide)⟩) fun h200 => hK () _ ⟨rfl, ?_⟩)
    have h200 : ¬ (l.length : Int) > 200 := of_decide_eq_false h200
    omega
  rintro _ h' ⟨hh, h200⟩ _; subst h'
  refine ⟨fun (s : Int) h' => ∃ (i : Nat) (c : Cm) (t' : Tags), s = i ∧ i ≤ l.length ∧ Run 1 (fun _ => (0, 0)) h p S c t' h', fun (s : Int) _ => ((l.length : Int) - s).toNat, ⟨0, bare, t2, rfl, Nat.zero_le _, R2⟩, ?_⟩
  clear R2 a2 f2
  rintro s j h3 ⟨i, c, t3, rfl, hi, R3⟩
  refine br_of (fun hlt => ?_) (fun _ => ?_)
  · have hlt : (i : Int) < (l.length : Int) := of_decide_eq_true hlt
    have hiL : i < l.length := by omega
    have ez : IntKind.wrap .i64 ((i : Int) + 1) = ((i + 1 : Nat) : Int) := (by first | (rw [wr64 (by omega) (by omega)]; omega) | (simp only [IntKind.wrap_i64]; omega))
    refine act_ld ra (R3.fresh (by decide)) hiL hiL fun h4 b4 n4 s4 => ?_
    refine ldAgg_blk (cs := [.int .i64, .int .i64, .int .u32, .bool]) ((l[i].1, l[i].2.1, l[i].2.2.1, l[i].2.2.2) : Int × Int × Int × Bool) b4 ⟨rfl, rfl, rfl, rfl, trivial⟩ (call_of (do_ok l[i] (R3.new n4).rep) ?_)
    rintro v h5 ⟨rfl, ac5⟩
    obtain ⟨t5, R5⟩ := (R3.new n4).next ac5
    simp only [ez]
    exact ⟨_, rfl, ⟨i + 1, _, t5, rfl, hiL, R5⟩, (by first | omega | (dsimp only; omega) | (simp only []; omega))⟩
  clear h200 ra
  have hsz : h.size ≤ h3.size := (R3.fresh (by decide)).size
  refine new_of fun h4 b4 n4 s4 => ?_
  have R4 := R3.lay0 n4
  have T4 : (lay t3 h3.size (0, 0) h3.size).1 ≠ 1 := lay_0 (by decide) (Nat.le_refl _)
  generalize lay t3 h3.size (0, 0) = t4 at *
  have inv := R4.rep.inv
  refine call_of (all_ok R4.rep) ?_
  rintro v h5 ⟨⟨aa, ac, rfl, oa⟩, n5⟩
  have R5 := R4.new n5
  refine ⟨(aa, (allC c).length, ac), rfl, ?_⟩
  have hal := all_le inv
  have hga : ∀ g, blkOf aa = some g → h4.size ≤ g := fun g hg => by
    rcases oa.row.2 with ⟨rfl, _⟩ | ⟨g', cur, rfl, hg', _⟩
    · cases hg
    · injection hg with hg; change g' = g at hg; omega
  have era := ER.own oa
  obtain ⟨W, hW⟩ : ∃ W : Nat → List En, W = fun m => ((allC c).take m).filter fun z => z.2.2 := ⟨_, rfl⟩
  refine ⟨fun (s : (Option Addr × Nat × Nat) × Int) h' => ∃ m : Nat, s.2 = m ∧ m ≤ (allC c).length ∧ s.1.2.1 = (W m).length ∧ Grow h5 (blkOf (some (⟨h3.size, 0, none⟩ : Addr))) h' TR 3 s.1.1 (W m).length s.1.2.2 (encs (W m)), fun (s : (Option Addr × Nat × Nat) × Int) _ => (((allC c).length : Int) - s.2).toNat, ⟨0, rfl, Nat.zero_le _, by rw [hW]; rfl, by rw [hW]; exact Grow.start (RowS.nil' h5 TR 3 (some ⟨h3.size, 0, none⟩))⟩, ?_⟩
  rintro ⟨⟨wa, wn, wc⟩, s⟩ j2 h6 ⟨m, hs, hm, hwn, g6⟩
  have hs : s = (m : Int) := hs
  have hwn : wn = (W m).length := hwn
  have g6 : Grow h5 (blkOf (some (⟨h3.size, 0, none⟩ : Addr))) h6 TR 3 wa (W m).length wc (encs (W m)) := g6
  subst hs; subst hwn
  have hWl : (W m).length ≤ 64 := by rw [hW]; exact Nat.le_trans (List.length_filter_le _ _) (by rw [List.length_take]; omega)
  have R6 := R5.upd' g6.upd hsz T4
  have er6 : ER h6 aa (allC c) := era.same g6.upd.size fun g hg hl => g6.upd.same g hl fun e => by
    have := hga g hg
    have e : g = h3.size := Option.some.inj e
    omega
  refine br_of (fun hlt => ?_) (fun hlt => ?_)
  · have hlt : (m : Int) < ((allC c).length : Int) := of_decide_eq_true hlt
    have hmL : m < (allC c).length := by omega
    have em : IntKind.wrap .i64 ((m : Int) + 1) = ((m + 1 : Nat) : Int) := (by first | (rw [wr64 (by omega) (by omega)]; omega) | (simp only [IntKind.wrap_i64]; omega))
    have hWs : W (m + 1) = W m ++ if (allC c)[m].2.2 = true then [(allC c)[m]] else [] := by
      rw [hW]
      simp only []
      rw [← List.take_append_getElem hmL, List.filter_append]
      congr 1
      by_cases hd : (allC c)[m].2.2 = true
      · rw [if_pos hd, List.filter_cons_of_pos (p := fun (z : En) => z.2.2) hd, List.filter_nil]
      · rw [if_neg hd, List.filter_cons_of_neg (p := fun (z : En) => z.2.2) hd, List.filter_nil]
    refine er6.ld hmL hmL ?_
    refine new_stL rfl fun h7 b7 n7 s7 => ld_of (c := .bool) (allC c)[m].2.2 (by rw [add_mk, cellH_blk b7]; rfl) (br_of (fun hd => ?_) fun hd => ?_)
    · rw [if_pos hd] at hWs
      refine ldAgg_blk (cs := [.int .i64, .int .u32, .bool]) ((((allC c)[m].1 : Int), (allC c)[m].2.1, (allC c)[m].2.2) : Int × Int × Bool) b7 ⟨rfl, rfl, rfl, trivial⟩ ?_
      refine grow_ent (n := (allC c)[m].1) (e := (allC c)[m].2) (g6.new n7) (by omega) fun a' c' h8 g8 => ?_
      have et : W m ++ [((allC c)[m].1, (allC c)[m].2)] = W (m + 1) := hWs.symm
      rw [et] at g8
      simp only [em]
      exact ⟨⟨m + 1, rfl, hmL, by rw [et], g8⟩, (by first | omega | (dsimp only; omega) | (simp only []; omega))⟩
    · rw [if_neg (by rw [hd]; simp), List.append_nil] at hWs
      simp only [em]
      exact ⟨⟨m + 1, rfl, hmL, by rw [hWs], by rw [hWs]; exact g6.new n7⟩, (by first | omega | (dsimp only; omega) | (simp only []; omega))⟩
  have : m = (allC c).length := by
    have hlt : ¬ (m : Int) < ((allC c).length : Int) := of_decide_eq_false hlt
    omega
  subst this
  have hWe : W (allC c).length = (allC c).filter fun z => z.2.2 := by rw [hW]; simp
  have rw6 := g6.row
  have hwg : encs (W (allC c).length) ≠ [] → ∀ g, blkOf wa = some g → g < h6.size := fun hx g hg => rw6.lt hx g hg
  rw [hWe] at rw6 hWl hwg ⊢
  clear hWe
  obtain ⟨WW, hWW⟩ : ∃ W, W = (allC c).filter fun z => z.2.2 := ⟨_, rfl⟩
  rw [← hWW] at rw6 hWl hwg ⊢
  -- what is got
  refine new_of fun h7 b7 n7 s7 => ?_
  have R7 := R6.lay0 n7
  have hs36 : h.size ≤ h6.size := (R6.fresh (by decide)).size
  have T7 : (lay t4 h6.size (0, 0) h6.size).1 ≠ 1 := lay_0 (by decide) (Nat.le_refl _)
  generalize lay t4 h6.size (0, 0) = t7 at *
  refine call_of (tables_ok R7.rep) ?_
  rintro v h8 ⟨⟨ta, tc, rfl, ot⟩, n8⟩
  have R8 := R7.new n8
  refine ⟨(ta, (tablesC c).length, tc), rfl, ?_⟩
  have rw8 := (rw6.new n7).new n8
  have hgt : ∀ g, blkOf ta = some g → h7.size ≤ g := fun g hg => by
    rcases ot.row.2 with ⟨rfl, _⟩ | ⟨g', cur, rfl, hg', _⟩
    · cases hg
    · injection hg with hg; change g' = g at hg; omega
  have art : Ar .i64 h8 ta (nI (tablesC c)) := Ar.own (n := (tablesC c).length) (by have := ot; rw [nV_eq] at this; exact this)
  have hnl : (nI (tablesC c)).length = (tablesC c).length := List.length_map ..
  have ht16 := dirty_len16 c
  obtain ⟨G, hG⟩ : ∃ G : Nat → List En, G = fun m => ((tablesC c).take m).flatMap fun (t : Nat) => dirtyC c (t : Int) := ⟨_, rfl⟩
  have hGl : ∀ m, m ≤ (tablesC c).length → (G m).length ≤ 64 := fun m hm => by
    have e : G (tablesC c).length = WW := by rw [hG, hWW, want_got]; simp
    have : (G m).length ≤ (G (tablesC c).length).length := by
      rw [hG]
      simp only []
      rw [List.take_length, ← List.take_append_drop m (tablesC c), List.flatMap_append, List.length_append, List.take_append_drop]
      omega
    rw [e] at this; omega
  refine ⟨fun (s : (Option Addr × Nat × Nat) × Int) h' => ∃ m : Nat, s.2 = m ∧ m ≤ (tablesC c).length ∧ s.1.2.1 = (G m).length ∧ Grow h8 (blkOf (some (⟨h6.size, 0, none⟩ : Addr))) h' TR 3 s.1.1 (G m).length s.1.2.2 (encs (G m)), fun (s : (Option Addr × Nat × Nat) × Int) _ => (((tablesC c).length : Int) - s.2).toNat, ⟨0, rfl, Nat.zero_le _, by rw [hG]; rfl, by rw [hG]; exact Grow.start (RowS.nil' h8 TR 3 (some ⟨h6.size, 0, none⟩))⟩, ?_⟩
  rintro ⟨⟨ga, gn, gc⟩, s⟩ j3 h9 ⟨m, hs, hm, hgn, g9⟩
  have hs : s = (m : Int) := hs
  have hgn : gn = (G m).length := hgn
  have g9 : Grow h8 (blkOf (some (⟨h6.size, 0, none⟩ : Addr))) h9 TR 3 ga (G m).length gc (encs (G m)) := g9
  subst hs; subst hgn
  have R9 := R8.upd' g9.upd hs36 T7
  have hGm := hGl m hm
  refine br_of (fun hlt => ?_) (fun hlt => ?_)
  · have hlt : (m : Int) < ((tablesC c).length : Int) := of_decide_eq_true hlt
    have hmL : m < (tablesC c).length := by omega
    have em : IntKind.wrap .i64 ((m : Int) + 1) = ((m + 1 : Nat) : Int) := (by first | (rw [wr64 (by omega) (by omega)]; omega) | (simp only [IntKind.wrap_i64]; omega))
    have ar9 : Ar .i64 h9 ta (nI (tablesC c)) := ar_keep art g9.upd.size fun g hg hl => g9.upd.same g hl fun e => by
      have := hgt g hg
      have e : g = h6.size := Option.some.inj e
      omega
    refine ix_ld ar9 (show m < (nI (tablesC c)).length by omega) (show m < (tablesC c).length by omega) ?_
    have eg : (nI (tablesC c))[m]'(by omega) = (((tablesC c)[m] : Nat) : Int) := by simp [nI]
    rw [eg]
    have hin : (tablesC c)[m] ∈ tablesC c := List.getElem_mem hmL
    refine call_of (dirty_ok ((tablesC c)[m] : Int) R9.rep) ?_
    rintro v h10 ⟨⟨da, dc, rfl, od⟩, n10⟩
    refine ⟨(da, (dirtyC c ((tablesC c)[m] : Int)).length, dc), rfl, call_of (entries_ok h10 da dc _ (dirty_le inv _) (ER.own od)) ?_⟩
    rintro v h11 ⟨ea, ec, rfl, re, n11⟩
    have hne := dirty_ne hin
    refine ⟨(ea, (dirtyC c ((tablesC c)[m] : Int)).length, ec), rfl, br_f ?_ ?_⟩
    · rw [beq_eq_false_iff_ne]
      intro e
      have e : ((dirtyC c ((tablesC c)[m] : Int)).length : Int) = 0 := e
      exact hne (List.eq_nil_of_length_eq_zero (by omega))
    have hGs : G m ++ dirtyC c ((tablesC c)[m] : Int) = G (m + 1) := by
      rw [hG]
      simp only []
      rw [← List.take_append_getElem hmL, List.flatMap_append]; simp
    have hdl := dirty_le inv ((tablesC c)[m] : Int)
    refine grow_ents ((g9.new n10).new n11) re hne (by omega) fun a' c' h12 g12 => ?_
    rw [hGs] at g12
    simp only [em]
    exact ⟨⟨m + 1, rfl, hmL, by rw [hGs], g12⟩, (by first | omega | (dsimp only; omega) | (simp only []; omega))⟩
  have : m = (tablesC c).length := by
    have hlt : ¬ (m : Int) < ((tablesC c).length : Int) := of_decide_eq_false hlt
    omega
  subst this
  have hGe : G (tablesC c).length = WW := by rw [hG, hWW, want_got]; simp
  rw [hGe] at g9 ⊢
  have er9 : ER h9 wa WW := by
    by_cases hx : encs WW = []
    · have h0 : WW.length = 0 := by have := encs_len WW; rw [hx] at this; simp at this; omega
      rw [List.eq_nil_of_length_eq_zero h0]
      exact fun i z hz => by simp at hz
    · refine ER.row (rw8.keep g9.upd.size fun g hg hl => g9.upd.same g hl fun e => ?_)
      have := hwg hx g hg
      have e : g = h6.size := Option.some.inj e
      omega
  clear rw8
  have rg9 := g9.row
  clear g9
  refine call_of (dirty_ok tb R9.rep) ?_
  rintro v h10 ⟨⟨da, dc, rfl, _⟩, n10⟩
  have R10 := R9.new n10
  refine ⟨(da, (dirtyC c tb).length, dc), rfl, cut_q (ts := []) (fun _ h' => ∃ t', Run 1 (fun _ => (0, 0)) h p S (cleanC c tb) t' h') ?_ ?_⟩
  rotate_left
  · intro K hK
    refine call_of (rsame_ok h10 wa ga wc gc _ _ WW WW rfl rfl (by omega) (er9.new n10) ((ER.row rg9).new n10)) ?_
    rintro v h' ⟨rfl, hh⟩; subst h'
    refine ⟨_, rfl, br_f (by simp) (call_of (clean_ok tb R10.rep) ?_)⟩
    rintro v h11 ⟨rfl, ac11⟩
    obtain ⟨t11, R11⟩ := R10.next ac11
    refine ⟨_, rfl, br_f (by simp) (call_of (dirty_ok tb R11.rep) ?_)⟩
    rintro v h12 ⟨⟨xa, xc, rfl, _⟩, n12⟩
    rw [clean_none]
    exact ⟨(xa, 0, xc), rfl, br_f rfl (hK () _ ⟨t11, R11.new n12⟩)⟩
  rintro _ h11 ⟨t11, R11⟩ _
  refine call_of (all_ok R11.rep) ?_
  rintro v h12 ⟨⟨xa, xc, rfl, ox⟩, n12⟩
  have R12 := R11.new n12
  have erx := ER.own ox
  have hxl := all_le R11.rep.inv
  have hcc := count_clean c tb
  have hcw : dcount (allC c) = WW.length := by rw [hWW]; rfl
  have hdl := dirty_le inv tb
  refine ⟨(xa, (allC (cleanC c tb)).length, xc), rfl, ?_⟩
  generalize allC (cleanC c tb) = L at *
  refine ⟨fun (s : Int × Int) h' => ∃ m : Nat, s = ((dcount (L.take m) : Int), (m : Int)) ∧ m ≤ L.length ∧ New h12 h', fun (s : Int × Int) _ => ((L.length : Int) - s.2).toNat, ⟨0, rfl, Nat.zero_le _, New.refl _⟩, ?_⟩
  rintro s j4 h13 ⟨m, hs, hm, n13⟩
  have hs : s = (((dcount (L.take m) : Int), (m : Int)) : Int × Int) := hs
  subst hs
  have hdm : dcount (L.take m) ≤ 64 := by unfold dcount; refine Nat.le_trans (List.length_filter_le _ _) ?_; rw [List.length_take]; omega
  refine br_of (fun hlt2 => ?_) (fun hlt2 => ?_)
  · have hlt2 : (m : Int) < (L.length : Int) := of_decide_eq_true hlt2
    have hmL : m < L.length := by omega
    have em : IntKind.wrap .i64 ((m : Int) + 1) = ((m + 1 : Nat) : Int) := (by first | (rw [wr64 (by omega) (by omega)]; omega) | (simp only [IntKind.wrap_i64]; omega))
    have ed : dcount (L.take (m + 1)) = dcount (L.take m) + if L[m].2.2 = true then 1 else 0 := by
      unfold dcount
      rw [← List.take_append_getElem hmL, List.filter_append, List.length_append]
      congr 1
      by_cases hd : L[m].2.2 = true
      · rw [if_pos hd, List.filter_cons_of_pos (p := fun (z : En) => z.2.2) hd, List.filter_nil]; rfl
      · rw [if_neg hd, List.filter_cons_of_neg (p := fun (z : En) => z.2.2) hd, List.filter_nil]; rfl
    refine (erx.new n13).ld hmL hmL ?_
    refine new_stL rfl fun h14 b14 n14 s14 => ld_of (c := .bool) L[m].2.2 (by rw [add_mk, cellH_blk b14]; rfl) (br_of (fun hd => ?_) fun hd => ?_)
    · rw [if_pos hd] at ed
      have e1 : IntKind.wrap .i64 ((dcount (L.take m) : Int) + 1) = ((dcount (L.take (m + 1)) : Nat) : Int) := by rw [wr64 (by omega) (by omega), ed]; rfl
      simp only [em, e1]
      exact ⟨⟨m + 1, rfl, hmL, n13.trans n14⟩, (by first | omega | (dsimp only; omega) | (simp only []; omega))⟩
    · have ed : dcount (L.take (m + 1)) = dcount (L.take m) := by rw [ed, if_neg (by rw [hd]; simp)]; rfl
      simp only [em]
      exact ⟨⟨m + 1, by rw [ed], hmL, n13.trans n14⟩, (by first | omega | (dsimp only; omega) | (simp only []; omega))⟩
  · have : m = L.length := by
      have hlt2 : ¬ (m : Int) < (L.length : Int) := of_decide_eq_false hlt2
      omega
    subst this
    rw [List.take_length] at hdm ⊢
    refine ⟨?_, (R12.new n13).fresh (by decide)⟩
    have : IntKind.wrap .i64 ((WW.length : Int) - ((dirtyC c tb).length : Int)) = (dcount L : Int) := by rw [wr64 (by omega) (by omega)]; omega
    simp only [this]
    simp
end Go.Proofs.Ytfanjfbenhocnaa.Ca
