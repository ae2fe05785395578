/-
  Rows of entries that grow; what the law makes of entries, and how it compares them.
-/
import Derived.Test.YtfanjfbenhocnaaGreatDoorCaA
namespace Go.Proofs.YtfanjfbenhocnaaGreatDoor.Ca
open Go.Pl Go.Pl.Lru Go.Pl.Ix Go.Proofs.YtfanjfbenhocnaaGreatDoor.W Go.Proofs.YtfanjfbenhocnaaGreatDoor.Lru Go.Proofs.YtfanjfbenhocnaaGreatDoor.IxS
abbrev TR : TypeId := 63
theorem apR : apB Tryz.prog 48 TR 3 16 = true := by kernel_rfl
theorem ent_eqR (x y : Int × Int × Bool) : ∀ w, (Op.equal TR (.agg #[.int .i64 x.1, .int .u32 x.2.1, .bool x.2.2]) (.agg #[.int .i64 y.1, .int .u32 y.2.1, .bool y.2.2])).run Tryz.prog w = .ok (decide (x = y)) w := by
  intro w
  obtain ⟨a, b, c⟩ := x
  obtain ⟨a', b', c'⟩ := y
  have hS : Tryz.prog.underlying TR = some (.struct (Tryz.prog.fieldsOf TR)) := by kernel_rfl
  have hp : Tryz.prog.stoodInHeld TR = false := by kernel_rfl
  have u3 := Tryz.underlying3
  have a3 := Tryz.isAgg3
  have z3 := Tryz.sizeOf3
  have u4 := Tryz.underlying34
  have a4 := Tryz.isAgg34
  have z4 := Tryz.sizeOf34
  have u5 := Tryz.underlying4
  have a5 := Tryz.isAgg4
  have z5 := Tryz.sizeOf4
  show ((Op.equalIn (9999 + 1) TR _ _).run _ _) = _
  rw [run_equalIn_agg w 9999 TR _ _ hS hp]
  simp only [Program.fieldsOf, Tryz.underlying63]
  go_simp
  by_cases h1 : a = a' <;> by_cases h2 : b = b' <;> by_cases h3 : c = c' <;> simp [h1, h2, h3]
theorem ER.row {h : Heap} {n c : Nat} {e : TypeId} {a : Option Addr} {L : List En} (r : RowS h e 3 a n c (encs L)) : ER h a L := fun i z hz => by
  have hc : ∀ j, j < 3 → ∃ g o, a = some ⟨g, o, none⟩ ∧ g < h.size ∧ cellH h ⟨g, o + (i * 3 + j), none⟩ = (entV z.1 z.2)[j]? := fun j hj => by
    have hu : (entV z.1 z.2)[j]? = some ((entV z.1 z.2)[j]'(by exact hj)) := List.getElem?_eq_getElem _
    obtain ⟨g, o, e1, h1, h2⟩ := r.cell ((encs_get L i z hz j hj).trans hu)
    exact ⟨g, o, e1, h1, by rw [h2, hu]⟩
  obtain ⟨g, o, e1, h1, _⟩ := hc 0 (by decide)
  refine ⟨g, o, e1, h1, fun j hj => ?_⟩
  obtain ⟨g', o', e2, _, h3⟩ := hc j hj
  rw [e1] at e2; injection e2 with e2; injection e2 with e2 e3
  rw [e2, e3]; exact h3
/-- An entry more in a row that grows. -/
theorem grow_ent {h0 h : Heap} {r0 : Option Nat} {lc n : Nat} {e : Int × Bool} {a : Option Addr} {l : List En} (g : Grow h0 r0 h TR 3 a l.length lc (encs l)) (hl : l.length ≤ 1000) {F : Option Addr → Nat → Nat → Heap → Prop}
    (hF : ∀ a' c' h', Grow h0 r0 h' TR 3 a' (l ++ [(n, e)]).length c' (encs (l ++ [(n, e)])) → F a' (l ++ [(n, e)]).length c' h') :
    newW (.cells #[.int .i64 n, .int .u32 e.1, .bool e.2] TR) (fun q h' => apW Tryz.prog #[48, 48] #[.slice a l.length lc, .slice (some q) 1 1] F h') h := by
  refine new_of fun h1 b1 n1 s1 => ?_
  have g1 := g.new n1
  refine ap_row apR g1.row (entV n e) rfl (fun j u hu => ?_) (fun u hu => ?_) (by simp only [maxLen]; omega) (by omega) fun a' c' h2 r2 w2 _ => ?_
  · rw [add_mk, cellH_blk b1, Nat.zero_add]
    have hj : j < 3 := (List.getElem?_eq_some_iff.1 hu).1
    have hj' : j = 0 ∨ j = 1 ∨ j = 2 := by omega
    rcases hj' with rfl | rfl | rfl <;> exact hu
  · unfold entV at hu
    simp only [List.mem_cons, List.not_mem_nil, or_false] at hu
    rcases hu with rfl | rfl | rfl <;> rfl
  · have el : (l ++ [(n, e)]).length = l.length + 1 := by simp
    rw [← el] at r2 ⊢
    rw [← encs_app l (n, e)] at r2
    exact hF a' c' h2 (g1.went r2 w2)
theorem encs_cat (l m : List En) : encs (l ++ m) = encs l ++ encs m := by simp [encs]
theorem encs_cell {m : List En} {u : Value} (hu : u ∈ encs m) : u.oneCell' = true := by
  unfold encs at hu
  rw [List.mem_flatten] at hu
  obtain ⟨l, hl, hm⟩ := hu
  obtain ⟨z, _, rfl⟩ := List.mem_map.1 hl
  unfold entV at hm
  simp only [List.mem_cons, List.not_mem_nil, or_false] at hm
  rcases hm with rfl | rfl | rfl <;> rfl
/-- A row of entries behind a row that grows. -/
theorem grow_ents {h0 h : Heap} {r0 : Option Nat} {lc mc : Nat} {a b : Option Addr} {l m : List En} (g : Grow h0 r0 h TR 3 a l.length lc (encs l)) (r : RowS h TR 3 b m.length mc (encs m)) (hm : m ≠ []) (hl : l.length + m.length ≤ 1000) {F : Option Addr → Nat → Nat → Heap → Prop}
    (hF : ∀ a' c' h', Grow h0 r0 h' TR 3 a' (l ++ m).length c' (encs (l ++ m)) → F a' (l ++ m).length c' h') :
    apW Tryz.prog #[48, 48] #[.slice a l.length lc, .slice b m.length mc] F h := by
  have hlen := encs_len m
  have h0' : 0 < m.length := by cases m with
    | nil => exact (hm rfl).elim
    | cons z m => simp
  obtain ⟨gb, o, rfl, _, _⟩ := r.cell (j := 0) (u := (encs m)[0]'(by omega)) (List.getElem?_eq_getElem _)
  refine ap_row apR g.row (encs m) hlen (fun j u hu => ?_) (fun u hu => encs_cell hu) (by simp only [maxLen]; omega) (by omega) fun a' c' h2 r2 w2 _ => ?_
  · obtain ⟨g', o', e, _, hc⟩ := r.cell hu
    injection e with e; injection e with e1 e2
    rw [add_mk, e1, e2]; exact hc
  · rw [← List.length_append] at r2 ⊢
    rw [← encs_cat] at r2
    exact hF a' c' h2 (g.went r2 w2)
theorem entries_ok (h : Heap) (a : Option Addr) (c : Nat) (L : List En) (hl : L.length ≤ 64) (er : ER h a L) :
    CallsH Tryz.prog 12 [.slice a L.length c] h fun v h' => ∃ a' c', v = .slice a' L.length c' ∧ RowS h' TR 3 a' L.length c' (encs L) ∧ New h h' := by
  refine fun_ok hm' Tryz.func12 (by kernel_rfl) (F12_eq _ _ _ _ h) ?_
  unfold F12
  rw [zE]
  refine new_of fun h1 b1 n1 s1 => ?_
  have hr0 : ∀ b : Nat, blkOf (some (⟨h.size, 0, none⟩ : Addr)) = some b → h.size ≤ b := fun b e => by injection e with e; change h.size = b at e; omega
  refine ⟨fun (s : (Option Addr × Nat × Nat) × Int) h' => ∃ i : Nat, s.2 = i ∧ i ≤ L.length ∧ s.1.2.1 = (L.take i).length ∧ Grow h1 (blkOf (some (⟨h.size, 0, none⟩ : Addr))) h' TR 3 s.1.1 (L.take i).length s.1.2.2 (encs (L.take i)), fun (s : (Option Addr × Nat × Nat) × Int) _ => ((L.length : Int) - s.2).toNat, ⟨0, rfl, Nat.zero_le _, rfl, Grow.start (RowS.nil' h1 TR 3 (some ⟨h.size, 0, none⟩))⟩, ?_⟩
  rintro ⟨⟨oa, on, oc⟩, s⟩ j h2 ⟨i, hs, hi, hon, g2⟩
  have hs : s = (i : Int) := hs
  have hon : on = (L.take i).length := hon
  have g2 : Grow h1 (blkOf (some (⟨h.size, 0, none⟩ : Addr))) h2 TR 3 oa (L.take i).length oc (encs (L.take i)) := g2
  subst hs; subst hon
  have n2 : New h h2 := g2.upd.grow n1 hr0
  refine br_of (fun hlt => ?_) (fun hlt => ?_)
  · have hlt : (i : Int) < (L.length : Int) := of_decide_eq_true hlt
    have hiL : i < L.length := by omega
    have ez : IntKind.wrap .i64 ((i : Int) + 1) = ((i + 1 : Nat) : Int) := (by first | (rw [wr64 (by omega) (by omega)]; omega) | (simp only [IntKind.wrap_i64]; omega))
    have htl : (L.take i).length = i := by rw [List.length_take]; omega
    refine (er.new n2).ld hiL hiL (new_stL rfl fun h3 b3 n3 s3 => ?_)
    refine ldAgg_blk (cs := [.int .i64, .int .u32, .bool]) (((L[i].1 : Int), L[i].2.1, L[i].2.2) : Int × Int × Bool) b3 ⟨rfl, rfl, rfl, trivial⟩ ?_
    refine grow_ent (n := L[i].1) (e := L[i].2) (g2.new n3) (by omega) fun a' c' h4 g4 => ?_
    have et : L.take i ++ [(L[i].1, L[i].2)] = L.take (i + 1) := List.take_append_getElem hiL
    rw [et] at g4
    simp only [ez]
    exact ⟨⟨i + 1, rfl, hiL, by rw [et], g4⟩, (by first | omega | (dsimp only; omega) | (simp only []; omega))⟩
  · have : i = L.length := by
      have hlt : ¬ (i : Int) < (L.length : Int) := of_decide_eq_false hlt
      omega
    subst this
    rw [List.take_length] at g2 ⊢
    exact ⟨oa, oc, rfl, g2.row, n2⟩
theorem rsame_ok (h : Heap) (a b : Option Addr) (ca cb n m : Nat) (L M : List En) (hn : n = L.length) (hm : m = M.length) (hl : L.length ≤ 1000) (ra : ER h a L) (rb : ER h b M) :
    CallsH Tryz.prog 11 [.slice a n ca, .slice b m cb] h fun v h' => v = .bool (decide (L = M)) ∧ h' = h := by
  refine fun_ok hm' Tryz.func11 (by kernel_rfl) (F11_eq _ _ _ _ _ _ _ h) ?_
  unfold F11
  subst hn; subst hm
  refine br_of (fun hne => ?_) (fun heq => ?_)
  · have : L ≠ M := fun e => by subst e; simp at hne
    exact ⟨by simp [this], rfl⟩
  have hlen : L.length = M.length := by simp at heq; omega
  refine ⟨fun (s : Int) h' => h' = h ∧ ∃ i : Nat, s = i ∧ i ≤ L.length ∧ L.take i = M.take i, fun (s : Int) _ => (L.length - s).toNat, ⟨rfl, 0, rfl, by omega, rfl⟩, ?_⟩
  rintro s j h' ⟨hh, i, rfl, hi, hpre⟩
  subst h'
  refine br_of (fun hlt => ?_) (fun hlt => ?_)
  · have hlt : i < L.length := by simp at hlt; omega
    refine ra.ld hlt hlt (rb.ld (by omega) (by omega) ⟨_, ent_eqR ((L[i].1 : Int), L[i].2.1, L[i].2.2) ((M[i].1 : Int), M[i].2.1, M[i].2.2), ?_⟩)
    have hiff : (((L[i].1 : Int), L[i].2.1, L[i].2.2) = ((M[i].1 : Int), M[i].2.1, M[i].2.2)) ↔ L[i] = M[i] := by
      generalize L[i] = x
      generalize M[i] = y
      obtain ⟨x1, x2, x3⟩ := x
      obtain ⟨y1, y2, y3⟩ := y
      simp only [Prod.mk.injEq]
      exact ⟨fun ⟨h1, h2⟩ => ⟨by omega, h2⟩, fun ⟨h1, h2⟩ => ⟨by omega, h2⟩⟩
    refine br_of (fun hd => ?_) (fun hd => ?_)
    · have : L ≠ M := fun e => by subst e; simp at hd
      exact ⟨by simp [this], rfl⟩
    · have hd : L[i] = M[i] := hiff.1 (by simpa using hd)
      refine ⟨⟨rfl, i + 1, (by first | (rw [wr64 (by omega) (by omega)]; omega) | (simp only [IntKind.wrap_i64]; omega)), hlt, ?_⟩, (by dsimp only; first | (rw [wr64 (by omega) (by omega)]; omega) | (rw [wr64 (by omega) (by omega), wr64 (by omega) (by omega)]; omega) | (simp only [IntKind.wrap_i64]; omega))⟩
      rw [← List.take_append_getElem hlt, ← List.take_append_getElem (show i < M.length by omega), hpre, hd]
  · have hlt : ¬ (i : Int) < (L.length : Int) := of_decide_eq_false hlt
    have : i = L.length := by omega
    subst this
    rw [List.take_length, List.take_of_length_le (by omega)] at hpre
    exact ⟨by simp [hpre], rfl⟩
end Go.Proofs.YtfanjfbenhocnaaGreatDoor.Ca
