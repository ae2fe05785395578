/-
  ZnsSure of layer 7: rows of acts, rows of what was written, and the plain laws.
-/
import Derived.Test.YtgohecjnjadnpaaDoorL7
namespace Go.Proofs.YtgohecjnjadnpaaDoor.L7S
open Go.Pl Go.Proofs.YtgohecjnjadnpaaDoor.W Go.Proofs.YtgohecjnjadnpaaDoor.Byts Go.Proofs.YtgohecjnjadnpaaDoor.As Go.Proofs.YtgohecjnjadnpaaDoor.Zns Go.Proofs.YtgohecjnjadnpaaDoor.L7A
/- ROWS OF ACTS. -/
theorem ap45 : apB Tryd.prog 45 56 6 96 = true := by kernel_rfl
theorem ap63 : apB Tryd.prog 63 66 3 40 = true := by kernel_rfl
def es6 (vs : List Value) (i : Nat) : List Value := (vs.drop (i * 6)).take 6
theorem es6_get (vs : List Value) (i j : Nat) (hj : j < 6) : (es6 vs i)[j]? = vs[i * 6 + j]? := by
  unfold es6; rw [List.getElem?_take, if_pos hj, List.getElem?_drop]
/-- The cells of acts that came in. -/
theorem acts_cells {h : Heap} {a : Option Addr} {l : List ActT} (r : SlAt h ActS a l) (hl : l ≠ []) : ∃ b o vs, a = some ⟨b, o, none⟩ ∧ vs.length = l.length * 6 ∧ (∀ (j : Nat) (u : Value), vs[j]? = some u → cellH h ⟨b, o + j, none⟩ = some u) ∧
    (∀ u ∈ vs, u.oneCell' = true) ∧ ∀ (i : Nat) (x : ActT), l[i]? = some x → Reads h ActS (es6 vs i) x := by
  obtain ⟨x0, hx0⟩ : ∃ x, l[0]? = some x := by
    cases l with
    | nil => exact (hl rfl).elim
    | cons x l => exact ⟨x, rfl⟩
  obtain ⟨b, o, _, rfl, _, _, _, _⟩ := r 0 x0 hx0
  have key : ∀ (i : Nat) (x : ActT), l[i]? = some x → ∃ es : List Value, es.length = 6 ∧ (∀ j, j < 6 → cellH h ⟨b, o + (i * 6 + j), none⟩ = es[j]?) ∧ Reads h ActS es x := fun i x hx => by
    obtain ⟨b', o', es, e, _, he, hc, re⟩ := r i x hx
    injection e with e; injection e with e1 e2; subst e1; subst e2
    exact ⟨es, he, hc, re⟩
  have hlen : ((List.range (l.length * 6)).map fun j => (cellH h ⟨b, o + j, none⟩).getD (.bool false)).length = l.length * 6 := by simp
  have hget : ∀ (i : Nat) (x : ActT) (es : List Value), l[i]? = some x → es.length = 6 → (∀ j, j < 6 → cellH h ⟨b, o + (i * 6 + j), none⟩ = es[j]?) → ∀ j, j < 6 → ((List.range (l.length * 6)).map fun j => (cellH h ⟨b, o + j, none⟩).getD (.bool false))[i * 6 + j]? = es[j]? := fun i x es hx he hc j hj => by
    have hi := (List.getElem?_eq_some_iff.1 hx).1
    rw [List.getElem?_map, List.getElem?_range (by omega), Option.map_some, hc j hj, List.getElem?_eq_getElem (by omega)]; rfl
  refine ⟨b, o, (List.range (l.length * 6)).map fun j => (cellH h ⟨b, o + j, none⟩).getD (.bool false), rfl, hlen, fun j u hu => ?_, fun u hu => ?_, fun i x hx => ?_⟩
  · have hj : j < l.length * 6 := by have := (List.getElem?_eq_some_iff.1 hu).1; omega
    obtain ⟨es, he, hc, _⟩ := key (j / 6) _ (List.getElem?_eq_getElem (show j / 6 < l.length by omega))
    have h1 := hget (j / 6) _ es (List.getElem?_eq_getElem (show j / 6 < l.length by omega)) he hc (j % 6) (by omega)
    have e6 : j / 6 * 6 + j % 6 = j := by omega
    rw [e6, hu] at h1
    have h2 := hc (j % 6) (by omega)
    rw [e6] at h2
    rw [h2, ← h1]
  · obtain ⟨j, hj, rfl⟩ := List.getElem_of_mem hu
    have hj' : j < l.length * 6 := by omega
    obtain ⟨es, he, hc, re⟩ := key (j / 6) _ (List.getElem?_eq_getElem (show j / 6 < l.length by omega))
    have h1 := hget (j / 6) _ es (List.getElem?_eq_getElem (show j / 6 < l.length by omega)) he hc (j % 6) (by omega)
    have e6 : j / 6 * 6 + j % 6 = j := by omega
    rw [e6, List.getElem?_eq_getElem hj] at h1
    obtain ⟨ba, bc, ka, kc, ta, tc, rfl, _⟩ := act_in re
    have hj6 : j % 6 < 6 := by omega
    generalize j % 6 = q at h1 hj6
    match q, hj6 with
    | 0, _ => obtain h1 := Option.some.inj h1; rw [h1]; rfl
    | 1, _ => obtain h1 := Option.some.inj h1; rw [h1]; rfl
    | 2, _ => obtain h1 := Option.some.inj h1; rw [h1]; rfl
    | 3, _ => obtain h1 := Option.some.inj h1; rw [h1]; rfl
    | 4, _ => obtain h1 := Option.some.inj h1; rw [h1]; rfl
    | 5, _ => obtain h1 := Option.some.inj h1; rw [h1]; rfl
  · obtain ⟨es, he, hc, re⟩ := key i x hx
    have hi := (List.getElem?_eq_some_iff.1 hx).1
    have : es6 ((List.range (l.length * 6)).map fun j => (cellH h ⟨b, o + j, none⟩).getD (.bool false)) i = es := by
      apply List.ext_getElem?
      intro j
      by_cases hj : j < 6
      · rw [es6_get _ _ _ hj]; exact hget i x es hx he hc j hj
      · rw [List.getElem?_eq_none (by unfold es6; simp; omega), List.getElem?_eq_none (by omega)]
    rw [this]; exact re
/-- Acts in a row: the row is there at one heap, what it names was there before. -/
def Mix (h0 h : Heap) (a : Option Addr) (l : List ActT) : Prop := ∀ (i : Nat) (x : ActT), l[i]? = some x → ∃ b o es, a = some ⟨b, o, none⟩ ∧ b < h.size ∧ es.length = 6 ∧ (∀ j, j < 6 → cellH h ⟨b, o + (i * 6 + j), none⟩ = es[j]?) ∧ Reads h0 ActS es x
theorem row_acts {h h0 : Heap} {a : Option Addr} {n c : Nat} {vs : List Value} {l : List ActT} (r : RowS h 56 6 a n c vs) (hl : vs.length = l.length * 6) (hr : ∀ (i : Nat) (x : ActT), l[i]? = some x → Reads h0 ActS (es6 vs i) x) : Mix h0 h a l := fun i x hx => by
  have hi : i < l.length := (List.getElem?_eq_some_iff.1 hx).1
  have cell : ∀ j, j < 6 → ∃ g o, a = some ⟨g, o, none⟩ ∧ g < h.size ∧ cellH h ⟨g, o + (i * 6 + j), none⟩ = vs[i * 6 + j]? := fun j hj => by
    rw [List.getElem?_eq_getElem (show i * 6 + j < vs.length by omega)]
    exact r.cell (List.getElem?_eq_getElem (show i * 6 + j < vs.length by omega))
  obtain ⟨g, o, rfl, hg, _⟩ := cell 0 (by omega)
  refine ⟨g, o, es6 vs i, rfl, hg, by unfold es6; simp; omega, fun j hj => ?_, hr i x hx⟩
  obtain ⟨g', o', e, _, hc⟩ := cell j hj
  injection e with e; injection e with e1 e2; subst e1; subst e2
  rw [es6_get _ _ _ hj]; exact hc
/-- It is loaded. -/
theorem mix_ld {h0 h5 h : Heap} {a : Option Addr} {l : List ActT} (r : Mix h0 h5 a l) (hs : ∀ g, blkOf a = some g → g < h5.size → h[g]? = h5[g]?) {i : Nat} (hi : i < l.length) : ∃ ba bc ka kc ta tc, (l[i].2.2.2.1.length ≤ 1000 → ActIn h0 (actOf l[i]) ba ka ta) ∧
    ∀ {m : Nat} {F : ActC → Prop}, i < m → F (actC (actOf l[i]) ba ka ta bc kc tc) → ptrW a (fun p => idxW (i : Int) m true (ldAggW [.int .i64, .int .i64, .int .i64, .slice, .slice, .slice] (Addr.add p (Int.toNat (i : Int) * 6)) F h)) := by
  obtain ⟨b, o, es, rfl, hb, hel, hc, re⟩ := r i _ (List.getElem?_eq_getElem hi)
  obtain ⟨ba, bc, ka, kc, ta, tc, rfl, hin⟩ := act_in re
  refine ⟨ba, bc, ka, kc, ta, tc, hin, fun hm hF => ?_⟩
  exact agg_at (k := 6) (actC (actOf l[i]) ba ka ta bc kc tc) (es := (actA (actOf l[i]) ba ka ta bc kc tc).toList) (fun j hj => by rw [cellH_same (hs b rfl hb)]; exact hc j hj) (actC_vals ..).symm rfl hm hF
theorem es6_left {vs ws : List Value} {i : Nat} (h : i * 6 + 6 ≤ vs.length) : es6 (vs ++ ws) i = es6 vs i := by
  apply List.ext_getElem?
  intro j
  by_cases hj : j < 6
  · rw [es6_get _ _ _ hj, es6_get _ _ _ hj, List.getElem?_append_left (by omega)]
  · rw [List.getElem?_eq_none (by unfold es6; simp; omega), List.getElem?_eq_none (by unfold es6; simp; omega)]
theorem es6_last {vs ws : List Value} {i : Nat} (h : vs.length = i * 6) (hw : ws.length = 6) : es6 (vs ++ ws) i = ws := by
  unfold es6; rw [← h, List.drop_left, ← hw, List.take_length]
/-- Acts, and one act behind them, in a row of its own. -/
theorem acts_all {h0 h : Heap} {a : Option Addr} {c : Nat} {l : List ActT} (r : SlAt h0 ActS a l) (n0 : New h0 h) (hl : l.length ≤ 100) (x : ActT) (ka ta : Option Addr) (kc tc : Nat) (rx : Reads h0 ActS (actA (actOf x) none ka ta 0 kc tc).toList x)
    {F : Option Addr → Nat → Nat → Heap → Prop} (hF : ∀ a2 c2 h2, New h h2 → (∀ g, blkOf a2 = some g → h.size ≤ g ∧ g < h2.size) → Mix h0 h2 a2 (l ++ [x]) → F a2 (l.length + 1) c2 h2) :
    newW (.cells #[] 56) (fun a11 h12 => apW Tryd.prog #[45, 45] #[.slice (some a11) 0 0, .slice a l.length c] (fun b13 n14 c15 h16 =>
      newW (.cells (actA (actOf x) none ka ta 0 kc tc) 56) (fun a17 h18 => apW Tryd.prog #[45, 45] #[.slice b13 n14 c15, .slice (some a17) 1 1] F h18) h16) h12) h := by
  refine new_of fun h1 b1 n1 s1 => ?_
  have last : ∀ (b2 : Option Addr) (c2 : Nat) (vs : List Value) (h2 : Heap), RowS h2 56 6 b2 l.length c2 vs → New h h2 → (∀ g, blkOf b2 = some g → h.size ≤ g) → (∀ (i : Nat) (y : ActT), l[i]? = some y → Reads h0 ActS (es6 vs i) y) →
      newW (.cells (actA (actOf x) none ka ta 0 kc tc) 56) (fun a17 h18 => apW Tryd.prog #[45, 45] #[.slice b2 l.length c2, .slice (some a17) 1 1] F h18) h2 := by
    intro b2 c2 vs h2 r2 n2 hb2 hr2
    refine new_of fun h3 b3 n3 s3 => ?_
    refine ap_row ap45 (r2.new n3) (m := 1) (actA (actOf x) none ka ta 0 kc tc).toList rfl (fun j u hu => ?_) (fun u hu => ?_) (by simp only [maxLen]; omega) (by omega) fun a4 c4 h4 r4 w4 _ => ?_
    · rw [add_mk, cellH_blk b3, Nat.zero_add, ← Array.getElem?_toList]; exact hu
    · simp [actA] at hu
      rcases hu with rfl | rfl | rfl | rfl | rfl | rfl <;> rfl
    have n04 : New h h4 := by
      have n23 := n2.trans n3
      have u := w4.upd
      exact ⟨Nat.le_trans n23.size u.size, fun g hg => (u.same g (Nat.lt_of_lt_of_le hg n23.size) fun e => by have := hb2 g e.symm; omega).trans (n23.same g hg)⟩
    have hvl := r2.len
    have hb4 : ∀ g, blkOf a4 = some g → h.size ≤ g ∧ g < h4.size := fun g hg => by
      obtain ⟨g', o, e, hlt, _⟩ := r4.cell (j := vs.length) (u := .int .i64 (actOf x).op) (by rw [List.getElem?_append_right (Nat.le_refl _), Nat.sub_self]; rfl)
      subst e; injection hg with hg; change g' = g at hg; subst hg
      refine ⟨?_, hlt⟩
      rcases w4.at_ with e | ⟨b, e, e2, _⟩
      · exact hb2 g' e.symm
      · injection e with e; change g' = b at e; have := (n2.trans n3).size; omega
    refine hF a4 c4 h4 n04 hb4 (row_acts (vs := vs ++ (actA (actOf x) none ka ta 0 kc tc).toList) r4 (by simp only [List.length_append, List.length_singleton, hvl]; rw [Nat.add_mul]; rfl) fun i y hy => ?_)
    by_cases hi : i < l.length
    · rw [List.getElem?_append_left hi] at hy
      rw [es6_left (by omega)]; exact hr2 i y hy
    · have hi2 : i < l.length + 1 := by have := (List.getElem?_eq_some_iff.1 hy).1; simpa using this
      have hie : i = l.length := by omega
      subst hie
      rw [List.getElem?_append_right (Nat.le_refl _), Nat.sub_self] at hy
      obtain rfl := Option.some.inj hy
      rw [es6_last hvl rfl]; exact rx
  by_cases hn : l = []
  · subst hn
    refine ap_row0 ap45 (RowS.nil' h1 _ 6 (some ⟨h.size, 0, none⟩)) (last _ _ [] h1 (RowS.nil' h1 _ 6 _) n1 (fun g hg => by injection hg with hg; change h.size = g at hg; omega) fun i y hy => by simp at hy)
  · obtain ⟨b, o, vs, rfl, hvl, hcell, h1c, hr⟩ := acts_cells r hn
    have hpos : 0 < l.length := by cases l with
      | nil => exact (hn rfl).elim
      | cons y l => simp
    have hb : b < h0.size := by
      obtain ⟨y, hy⟩ : ∃ y, l[0]? = some y := ⟨l[0], List.getElem?_eq_getElem hpos⟩
      obtain ⟨b', o', _, e, hp, _⟩ := r 0 y hy
      injection e with e; injection e with e1 e2; subst e1; exact hp
    refine ap_new ap45 vs hvl (fun j u hu => ?_) hpos (by simp only [maxLen]; omega) (by omega) fun g c2 h2 r2 n2 h3 h4 => last _ c2 vs h2 r2 (n1.trans n2) (fun g' hg => by injection hg with hg; change g = g' at hg; omega) hr
    rw [add_mk, cellH_same ((n0.trans n1).same b hb)]; exact hcell j u hu
/- ROWS OF WHAT WAS WRITTEN. -/
abbrev Wr := Int × Int × List Int
def wrA (w : Wr) (a : Option Addr) (c : Nat) : List Value := [.int .i64 w.1, .int .i64 w.2.1, .slice a w.2.2.length c]
structure WRow (q : Nat × Nat) (t : Tags) (h : Heap) (a : Option Addr) (c : Nat) (ws : List Wr) : Prop where
  row : ∃ vs, RowS h 66 3 a ws.length c vs ∧ ∀ (i : Nat) (w : Wr), ws[i]? = some w → ∃ a' c', (∀ j, j < 3 → vs[i * 3 + j]? = (wrA w a' c')[j]?) ∧ Im .u8 t h a' w.2.2
  tag : ∀ g, blkOf a = some g → g < h.size ∧ t g = q
theorem WRow.fr {S : Nat × Nat → Prop} {q : Nat × Nat} {t t' : Tags} {h h' : Heap} {a : Option Addr} {c : Nat} {ws : List Wr} (r : WRow q t h a c ws) (s : Fr S t h t' h') (hS : ∀ p : Nat × Nat, p.1 = 0 → S p) (hq : S q) : WRow q t' h' a c ws := by
  obtain ⟨⟨vs, hr, hv⟩, ht⟩ := r
  refine ⟨⟨vs, hr.keep s.size fun g hg hl => s.same g hl (by rw [(ht g hg).2]; exact hq), fun i p hp => ?_⟩, fun g hg => ?_⟩
  · obtain ⟨a', c', e, im⟩ := hv i p hp
    exact ⟨a', c', e, im.fr s hS⟩
  · obtain ⟨h1, h2⟩ := ht g hg
    exact ⟨Nat.lt_of_lt_of_le h1 s.size, by rw [s.tags g h1]; exact h2⟩
theorem WRow.nil (q : Nat × Nat) (t : Tags) (h : Heap) : WRow q t h none 0 [] := ⟨⟨[], RowS.nil h _ 3, fun i p hp => by simp at hp⟩, fun g hg => by cases hg⟩
theorem WRow.start {q : Nat × Nat} {t : Tags} {h : Heap} {g : Nat} (hg : g < h.size) (ht : t g = q) : WRow q t h (some ⟨g, 0, none⟩) 0 [] := ⟨⟨[], RowS.nil' h _ 3 _, fun i p hp => by simp at hp⟩, fun g' hg' => by injection hg' with hg'; change g = g' at hg'; subst hg'; exact ⟨hg, ht⟩⟩
theorem WRow.ld {q : Nat × Nat} {t : Tags} {h : Heap} {a : Option Addr} {c : Nat} {ws : List Wr} (r : WRow q t h a c ws) {i : Nat} (hi : i < ws.length) : ∃ a' c', Im .u8 t h a' ws[i].2.2 ∧
    ∀ {n : Nat} {F : Int × Int × (Option Addr × Nat × Nat) → Prop}, i < n → F (ws[i].1, ws[i].2.1, (a', ws[i].2.2.length, c')) → ptrW a (fun p => idxW (i : Int) n true (ldAggW [.int .i64, .int .i64, .slice] (Addr.add p (Int.toNat (i : Int) * 3)) F h)) := by
  obtain ⟨⟨vs, hr, hv⟩, ht⟩ := r
  obtain ⟨a', c', e, im⟩ := hv i _ (List.getElem?_eq_getElem hi)
  refine ⟨a', c', im, fun hn hF => ?_⟩
  obtain ⟨g, o, rfl, _, _⟩ := hr.cell (e 0 (by omega))
  refine agg_at (k := 3) (ws[i].1, ws[i].2.1, (a', ws[i].2.2.length, c')) (es := wrA ws[i] a' c') (fun j hj => ?_) rfl rfl hn hF
  have hj3 : j < (wrA ws[i] a' c').length := hj
  have ej := e j hj
  rw [List.getElem?_eq_getElem hj3] at ej ⊢
  obtain ⟨g', o', e', _, hc⟩ := hr.cell ej
  injection e' with e'; injection e' with e1 e2; subst e1; subst e2
  exact hc
theorem WRow.push {q : Nat × Nat} {t : Tags} {h : Heap} {a a' : Option Addr} {c c' : Nat} {ws : List Wr} {z p : Int} {b : List Int} (r : WRow q t h a c ws) (hk : q.1 ≠ 0) (im : Im .u8 t h a' b) (hl : ws.length ≤ 1000) {F : Option Addr → Nat → Nat → Heap → Prop}
    (hF : ∀ a2 c2 h2 t2, Fr (fun r => r ≠ q) t h t2 h2 → WRow q t2 h2 a2 c2 (ws ++ [(z, p, b)]) → F a2 (ws.length + 1) c2 h2) :
    newW (.cells #[.int .i64 z, .int .i64 p, .slice a' b.length c'] 66) (fun x h' => apW Tryd.prog #[63, 63] #[.slice a ws.length c, .slice (some x) 1 1] F h') h := by
  have hS : ∀ r : Nat × Nat, r.1 = 0 → r ≠ q := fun r hr e => by subst e; exact hk hr
  obtain ⟨⟨vs, hr, hv⟩, ht⟩ := r
  have hvl := hr.len
  refine new_of fun h1 b1 n1 s1 => ?_
  refine ap_row ap63 (hr.new n1) (m := 1) (wrA (z, p, b) a' c') rfl ?_ (by simp [wrA, Value.oneCell']) (by simp [maxLen]; omega) (by omega) fun a2 c2 h2 r2 w _ => ?_
  · intro j u hu
    rw [add_mk, cellH_blk b1, Nat.zero_add, ← Array.getElem?_toList]; exact hu
  have u := w.upd
  have hfr : Fr (fun r => r ≠ q) t h (lay t h.size q) h2 := by
    refine ⟨Nat.le_trans n1.size u.size, fun b hb => lay_lt hb, fun b hb hk => ?_⟩
    rw [u.same b (Nat.lt_of_lt_of_le hb n1.size) fun e => hk (ht b e.symm).2, n1.same b hb]
  refine hF a2 c2 h2 (lay t h.size q) hfr ⟨⟨_, by rw [List.length_append]; exact r2, fun i w hw => ?_⟩, fun g hg => ?_⟩
  · by_cases hi : i < ws.length
    · rw [List.getElem?_append_left hi] at hw
      obtain ⟨b, d, e, im⟩ := hv i w hw
      exact ⟨b, d, fun j hj => by rw [List.getElem?_append_left (by omega)]; exact e j hj, im.fr hfr hS⟩
    · have hi2 : i < ws.length + 1 := by have := (List.getElem?_eq_some_iff.1 hw).1; simpa using this
      have hie : i = ws.length := by omega
      subst hie
      rw [List.getElem?_append_right (Nat.le_refl _), Nat.sub_self] at hw
      obtain rfl := Option.some.inj hw
      exact ⟨a', c', fun j hj => by rw [List.getElem?_append_right (by omega), show ws.length * 3 + j - vs.length = j by omega], im.fr hfr hS⟩
  · rcases w with ⟨e, _, e2⟩ | ⟨n, g', e, e2, e3⟩ | ⟨rfl, rfl⟩
    · rw [e] at hg
      obtain ⟨h3, h4⟩ := ht g hg
      exact ⟨by have := hfr.size; omega, by rw [lay_lt h3]; exact h4⟩
    · rw [e] at hg; injection hg with hg; change g' = g at hg; subst hg
      exact ⟨e3, lay_ge (by omega)⟩
    · obtain ⟨h3, h4⟩ := ht g hg
      exact ⟨by have := hfr.size; omega, by rw [lay_lt h3]; exact h4⟩
end Go.Proofs.YtgohecjnjadnpaaDoor.L7S
