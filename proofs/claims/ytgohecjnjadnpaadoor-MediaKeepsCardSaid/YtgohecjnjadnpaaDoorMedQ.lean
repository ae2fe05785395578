/-
  Rows of pages: what the laws make of them, and how they compare them.
-/
import Derived.Test.YtgohecjnjadnpaaDoorMedA
namespace Go.Proofs.YtgohecjnjadnpaaDoor.MedA
open Go.Pl Go.Proofs.YtgohecjnjadnpaaDoor.W Go.Proofs.YtgohecjnjadnpaaDoor.Byts Go.Proofs.YtgohecjnjadnpaaDoor.As Go.Proofs.YtgohecjnjadnpaaDoor.Err Go.Proofs.YtgohecjnjadnpaaDoor.Head Go.Proofs.YtgohecjnjadnpaaDoor.HdP Go.Proofs.YtgohecjnjadnpaaDoor.Zns Go.Proofs.YtgohecjnjadnpaaDoor.ZnsP Go.Proofs.YtgohecjnjadnpaaDoor.Geo Go.Proofs.YtgohecjnjadnpaaDoor.Med
abbrev pgAgg (y : Pg) : Value := .agg #[.int .u32 y.1, .int .u8 y.2.1, .int .u32 y.2.2.1, .int .u32 y.2.2.2.1, .int .u32 y.2.2.2.2]
theorem eqf1 {P : Program} {d : Nat} {xs ys : Array Value} {f : Field} {fs : List Field} {w : World} {a b : Value} {r : Bool} (hn : (f.name ≠ "_")) (ha : (part f.type xs f.offset).run P w = .ok a w) (hb : (part f.type ys f.offset).run P w = .ok b w) (he : (Op.equalIn d f.type a b).run P w = .ok r w) :
    (Op.eqFields d xs ys (f :: fs)).run P w = if r = true then (Op.eqFields d xs ys fs).run P w else .ok false w := by
  simp only [Op.eqFields, if_pos hn, Sem.run_bind, ha, hb, he, Result.andThen_ok]
  cases r <;> simp [go_sem]
theorem hd_eqIn (T : TypeId) (hT : Tryd.prog.underlying T = Tryd.prog.underlying 24) (hS : Tryd.prog.underlying T = some (.struct (Tryd.prog.fieldsOf T))) (hp : Tryd.prog.stoodInHeld T = false) (d : Nat) (x y : Hd) (w : World) : (Op.equalIn (d + 2) T (hdV x) (hdV y)).run Tryd.prog w = .ok (decide (x = y)) w := by
  obtain ⟨x0, x1, x2, x3⟩ := x
  obtain ⟨y0, y1, y2, y3⟩ := y
  have u3 := Tryd.underlying5
  have a3 := Tryd.isAgg5
  have z3 := Tryd.sizeOf5
  have u4 := Tryd.underlying22
  have a4 := Tryd.isAgg22
  have z4 := Tryd.sizeOf22
  show ((Op.equalIn (d + 1 + 1) T (.agg _) (.agg _)).run _ _) = _
  rw [run_equalIn_agg w (d + 1) T _ _ hS hp]
  simp only [Program.fieldsOf, hT, Tryd.underlying24]
  go_simp
  by_cases h1 : x0 = y0 <;> by_cases h2 : x1 = y1 <;> by_cases h3 : x2 = y2 <;> by_cases h4 : x3 = y3 <;> simp [h1, h2, h3, h4]
theorem pg_eqP (x y : Pg) : ∀ w, (Op.equal 109 (pgAgg x) (pgAgg y)).run Tryd.prog w = .ok (decide (x = y)) w := by
  intro w
  have hS : Tryd.prog.underlying 109 = some (.struct (Tryd.prog.fieldsOf 109)) := by kernel_rfl
  have hp : Tryd.prog.stoodInHeld 109 = false := by kernel_rfl
  have hf : (Tryd.prog.fieldsOf 109).toList = [(Tryd.prog.fieldsOf 109)[0]!, (Tryd.prog.fieldsOf 109)[1]!] := by kernel_rfl
  have m1 : ((Tryd.prog.fieldsOf 109)[0]!.name == "_") = false := by kernel_rfl
  have m2 : ((Tryd.prog.fieldsOf 109)[1]!.name == "_") = false := by kernel_rfl
  have p1 : ∀ z : Pg, (part (Tryd.prog.fieldsOf 109)[0]!.type #[.int .u32 z.1, .int .u8 z.2.1, .int .u32 z.2.2.1, .int .u32 z.2.2.2.1, .int .u32 z.2.2.2.2] (Tryd.prog.fieldsOf 109)[0]!.offset).run Tryd.prog w = .ok (.int .u32 z.1) w := fun z => by kernel_rfl
  have p2 : ∀ z : Pg, (part (Tryd.prog.fieldsOf 109)[1]!.type #[.int .u32 z.1, .int .u8 z.2.1, .int .u32 z.2.2.1, .int .u32 z.2.2.2.1, .int .u32 z.2.2.2.2] (Tryd.prog.fieldsOf 109)[1]!.offset).run Tryd.prog w = .ok (hdV z.2) w := fun z => by kernel_rfl
  have t1 : (Tryd.prog.fieldsOf 109)[0]!.type = 22 := by kernel_rfl
  have t2 : (Tryd.prog.fieldsOf 109)[1]!.type = 24 := by kernel_rfl
  have e1 : (Op.equalIn 9999 (Tryd.prog.fieldsOf 109)[0]!.type (.int .u32 x.1) (.int .u32 y.1)).run Tryd.prog w = .ok (x.1 == y.1) w := by
    rw [t1]; exact run_equalIn_int w 9998 _ .u32 .u32 _ _ Tryd.underlying22
  have e2 : (Op.equalIn 9999 (Tryd.prog.fieldsOf 109)[1]!.type (hdV x.2) (hdV y.2)).run Tryd.prog w = .ok (decide (x.2 = y.2)) w := by
    rw [t2]; exact hd_eqIn 24 (by kernel_rfl) (by kernel_rfl) (by kernel_rfl) 9997 x.2 y.2 w
  show ((Op.equalIn (9999 + 1) 109 (.agg _) (.agg _)).run _ _) = _
  rw [run_equalIn_agg w 9999 109 _ _ hS hp, hf, eqf1 (by simpa using m1) (p1 x) (p1 y) e1, eqf1 (by simpa using m2) (p2 x) (p2 y) e2]
  obtain ⟨a, u⟩ := x
  obtain ⟨b, v⟩ := y
  by_cases h1 : a = b <;> by_cases h2 : u = v <;> simp [h1, h2, Op.eqFields]
theorem pg_eqR (x y : Pg) : ∀ w, (Op.equal 102 (pgAgg x) (pgAgg y)).run Tryd.prog w = .ok (decide (x = y)) w := by
  intro w
  have hS : Tryd.prog.underlying 102 = some (.struct (Tryd.prog.fieldsOf 102)) := by kernel_rfl
  have hp : Tryd.prog.stoodInHeld 102 = false := by kernel_rfl
  have hf : (Tryd.prog.fieldsOf 102).toList = [(Tryd.prog.fieldsOf 102)[0]!, (Tryd.prog.fieldsOf 102)[1]!] := by kernel_rfl
  have m1 : ((Tryd.prog.fieldsOf 102)[0]!.name == "_") = false := by kernel_rfl
  have m2 : ((Tryd.prog.fieldsOf 102)[1]!.name == "_") = false := by kernel_rfl
  have p1 : ∀ z : Pg, (part (Tryd.prog.fieldsOf 102)[0]!.type #[.int .u32 z.1, .int .u8 z.2.1, .int .u32 z.2.2.1, .int .u32 z.2.2.2.1, .int .u32 z.2.2.2.2] (Tryd.prog.fieldsOf 102)[0]!.offset).run Tryd.prog w = .ok (.int .u32 z.1) w := fun z => by kernel_rfl
  have p2 : ∀ z : Pg, (part (Tryd.prog.fieldsOf 102)[1]!.type #[.int .u32 z.1, .int .u8 z.2.1, .int .u32 z.2.2.1, .int .u32 z.2.2.2.1, .int .u32 z.2.2.2.2] (Tryd.prog.fieldsOf 102)[1]!.offset).run Tryd.prog w = .ok (hdV z.2) w := fun z => by kernel_rfl
  have t1 : (Tryd.prog.fieldsOf 102)[0]!.type = 22 := by kernel_rfl
  have t2 : (Tryd.prog.fieldsOf 102)[1]!.type = 34 := by kernel_rfl
  have e1 : (Op.equalIn 9999 (Tryd.prog.fieldsOf 102)[0]!.type (.int .u32 x.1) (.int .u32 y.1)).run Tryd.prog w = .ok (x.1 == y.1) w := by
    rw [t1]; exact run_equalIn_int w 9998 _ .u32 .u32 _ _ Tryd.underlying22
  have e2 : (Op.equalIn 9999 (Tryd.prog.fieldsOf 102)[1]!.type (hdV x.2) (hdV y.2)).run Tryd.prog w = .ok (decide (x.2 = y.2)) w := by
    rw [t2]; exact hd_eqIn 34 (by kernel_rfl) (by kernel_rfl) (by kernel_rfl) 9997 x.2 y.2 w
  show ((Op.equalIn (9999 + 1) 102 (.agg _) (.agg _)).run _ _) = _
  rw [run_equalIn_agg w 9999 102 _ _ hS hp, hf, eqf1 (by simpa using m1) (p1 x) (p1 y) e1, eqf1 (by simpa using m2) (p2 x) (p2 y) e2]
  obtain ⟨a, u⟩ := x
  obtain ⟨b, v⟩ := y
  by_cases h1 : a = b <;> by_cases h2 : u = v <;> simp [h1, h2, Op.eqFields]
/- ROWS OF PAGES. -/
abbrev TR : TypeId := 102
theorem zeroPg : (zeroC Tryd.prog TPg).size = 5 := by kernel_rfl
theorem zeroPR : (zeroC Tryd.prog TR).size = 5 := by kernel_rfl
theorem apR : apB Tryd.prog 99 TR 5 20 = true := by kernel_rfl
def PR (h : Heap) (a : Option Addr) (L : List Pg) : Prop := ∀ (i : Nat) (y : Pg), L[i]? = some y → ∃ b o, a = some ⟨b, o, none⟩ ∧ b < h.size ∧ ∀ j, j < 5 → cellH h ⟨b, o + (i * 5 + j), none⟩ = (pgV y)[j]?
theorem PR.own {h : Heap} {base n c : Nat} {e : TypeId} {a : Option Addr} {L : List Pg} (o : OwnH h base e 5 a n c (pgs L)) : PR h a L := fun i z hz => by
  have hi : i < L.length := (List.getElem?_eq_some_iff.1 hz).1
  obtain ⟨hl, ⟨rfl, rfl, rfl⟩ | ⟨g, cur, rfl, _, hb, _, hs, ht⟩⟩ := o.row
  · rw [pgs_len] at hl; omega
  · refine ⟨g, 0, rfl, hb.lt, fun j hj => ?_⟩
    rw [Nat.zero_add, cellH_blk hb, ← pgs_get L i z hz j hj, ← ht, List.getElem?_take, if_pos (by rw [pgs_len] at hl; omega), Array.getElem?_toList]
theorem PR.row {h : Heap} {n c : Nat} {e : TypeId} {a : Option Addr} {L : List Pg} (r : RowS h e 5 a n c (pgs L)) : PR h a L := fun i z hz => by
  have hc : ∀ j, j < 5 → ∃ g o, a = some ⟨g, o, none⟩ ∧ g < h.size ∧ cellH h ⟨g, o + (i * 5 + j), none⟩ = (pgV z)[j]? := fun j hj => by
    have hu : (pgV z)[j]? = some ((pgV z)[j]'(by exact hj)) := List.getElem?_eq_getElem _
    obtain ⟨g, o, e1, h1, h2⟩ := r.cell ((pgs_get L i z hz j hj).trans hu)
    exact ⟨g, o, e1, h1, by rw [h2, hu]⟩
  obtain ⟨g, o, e1, h1, _⟩ := hc 0 (by decide)
  refine ⟨g, o, e1, h1, fun j hj => ?_⟩
  obtain ⟨g', o', e2, _, h3⟩ := hc j hj
  rw [e1] at e2; injection e2 with e2; injection e2 with e2 e3
  rw [e2, e3]; exact h3
theorem PR.same {h h' : Heap} {a : Option Addr} {L : List Pg} (r : PR h a L) (hs : h.size ≤ h'.size) (hk : ∀ g, blkOf a = some g → g < h.size → h'[g]? = h[g]?) : PR h' a L := fun i z hz => by
  obtain ⟨b, o, rfl, hb, hc⟩ := r i z hz
  exact ⟨b, o, rfl, by omega, fun j hj => by rw [cellH_same (hk b rfl hb)]; exact hc j hj⟩
theorem PR.new {h h' : Heap} {a : Option Addr} {L : List Pg} (r : PR h a L) (n : New h h') : PR h' a L := r.same n.size fun g _ hg => n.same g hg
abbrev PgC := Int × Int × Int × Int × Int
/-- A page of a row, loaded. -/
theorem PR.ld {h : Heap} {a : Option Addr} {L : List Pg} (r : PR h a L) {i n : Nat} (hi : i < L.length) (hn : i < n) {F : PgC → Prop} (hF : F (L[i].1, L[i].2.1, L[i].2.2.1, L[i].2.2.2.1, L[i].2.2.2.2)) :
    ptrW a (fun p => idxW (i : Int) n true (ldAggW [.int .u32, .int .u8, .int .u32, .int .u32, .int .u32] (Addr.add p (Int.toNat (i : Int) * 5)) F h)) := by
  obtain ⟨b, o, rfl, hb, hc⟩ := r i _ (List.getElem?_eq_getElem hi)
  exact agg_at (k := 5) ((L[i].1, L[i].2.1, L[i].2.2.1, L[i].2.2.2.1, L[i].2.2.2.2) : PgC) (es := pgV L[i]) hc rfl rfl hn hF
/-- The address alone. -/
theorem PR.addr {h : Heap} {a : Option Addr} {L : List Pg} (r : PR h a L) {i n : Nat} (hi : i < L.length) (hn : i < n) {F : Int → Prop} (hF : F L[i].1) :
    ptrW a (fun p => idxW (i : Int) n true (ldW (.int .u32) (Addr.add (Addr.add p (Int.toNat (i : Int) * 5)) 0) F h)) := by
  obtain ⟨b, o, rfl, hb, hc⟩ := r i _ (List.getElem?_eq_getElem hi)
  refine ⟨⟨⟨by omega, by omega⟩, rfl⟩, ld_of (c := .int .u32) L[i].1 ?_ hF⟩
  have := hc 0 (by decide)
  rw [add_mk, add_mk, Int.toNat_natCast]
  exact this
/-- A page more in a row that grows. -/
theorem grow_pg {h0 h : Heap} {r0 : Option Nat} {lc : Nat} {a : Option Addr} {l : List Pg} (y : Pg) (g : Grow h0 r0 h TR 5 a l.length lc (pgs l)) (hl : l.length ≤ 1000) {F : Option Addr → Nat → Nat → Heap → Prop}
    (hF : ∀ a' c' h', Grow h0 r0 h' TR 5 a' (l ++ [y]).length c' (pgs (l ++ [y])) → F a' (l ++ [y]).length c' h') :
    newW (.cells #[.int .u32 y.1, .int .u8 y.2.1, .int .u32 y.2.2.1, .int .u32 y.2.2.2.1, .int .u32 y.2.2.2.2] TR) (fun q h' => apW Tryd.prog #[99, 99] #[.slice a l.length lc, .slice (some q) 1 1] F h') h := by
  refine new_of fun h1 b1 n1 s1 => ?_
  have g1 := g.new n1
  refine ap_row apR g1.row (pgV y) rfl (fun j u hu => ?_) (fun u hu => pgs_cell (l := [y]) (by simpa [pgs] using hu)) (by simp only [maxLen]; omega) (by omega) fun a' c' h2 r2 w2 _ => ?_
  · rw [add_mk, cellH_blk b1, Nat.zero_add]
    have hj : j < 5 := (List.getElem?_eq_some_iff.1 hu).1
    have hj' : j = 0 ∨ j = 1 ∨ j = 2 ∨ j = 3 ∨ j = 4 := by omega
    rcases hj' with rfl | rfl | rfl | rfl | rfl <;> exact hu
  · have el : (l ++ [y]).length = l.length + 1 := by simp
    rw [← el] at r2 ⊢
    rw [← pgs_app l y] at r2
    exact hF a' c' h2 (g1.went r2 w2)
theorem pages_ok (h : Heap) (a : Option Addr) (c : Nat) (L : List Pg) (hl : L.length ≤ 500) (er : PR h a L) :
    CallsH Tryd.prog 48 [.slice a L.length c] h fun v h' => ∃ a' c', v = .slice a' L.length c' ∧ RowS h' TR 5 a' L.length c' (pgs L) ∧ New h h' := by
  refine fun_ok Geo.hm' Tryd.func48 (by kernel_rfl) (F48_eq _ _ _ _ h) ?_
  unfold F48
  refine new_of fun h1 b1 n1 s1 => ?_
  have hr0 : ∀ b : Nat, blkOf (some (⟨h.size, 0, none⟩ : Addr)) = some b → h.size ≤ b := fun b e => by injection e with e; change h.size = b at e; omega
  refine ⟨fun (s : (Option Addr × Nat × Nat) × Int) h' => ∃ i : Nat, s.2 = i ∧ i ≤ L.length ∧ s.1.2.1 = (L.take i).length ∧ Grow h1 (blkOf (some (⟨h.size, 0, none⟩ : Addr))) h' TR 5 s.1.1 (L.take i).length s.1.2.2 (pgs (L.take i)), fun (s : (Option Addr × Nat × Nat) × Int) _ => ((L.length : Int) - s.2).toNat, ⟨0, rfl, Nat.zero_le _, rfl, Grow.start (RowS.nil' h1 TR 5 (some ⟨h.size, 0, none⟩))⟩, ?_⟩
  rintro ⟨⟨oa, on, oc⟩, s⟩ j h2 ⟨i, hs, hi, hon, g2⟩
  have hs : s = (i : Int) := hs
  have hon : on = (L.take i).length := hon
  have g2 : Grow h1 (blkOf (some (⟨h.size, 0, none⟩ : Addr))) h2 TR 5 oa (L.take i).length oc (pgs (L.take i)) := g2
  subst hs; subst hon
  have n2 : New h h2 := g2.upd.grow n1 hr0
  refine br_of (fun hlt => ?_) (fun hlt => ?_)
  · have hlt : (i : Int) < (L.length : Int) := of_decide_eq_true hlt
    have hiL : i < L.length := by omega
    have ez : IntKind.wrap .i64 ((i : Int) + 1) = ((i + 1 : Nat) : Int) := (by first | (rw [wr64 (by omega) (by omega)]; omega) | (simp only [IntKind.wrap_i64]; omega))
    have htl : (L.take i).length = i := by rw [List.length_take]; omega
    refine (er.new n2).ld hiL hiL (new_stL (by rw [zeroPg]; rfl) fun h3 b3 n3 s3 => ?_)
    refine ld_of (c := .int .u32) L[i].1 (by rw [add_mk, cellH_blk b3]; rfl) (ldAgg_add (o := 0) L[i].2 b3 ⟨rfl, rfl, rfl, rfl, trivial⟩ ?_)
    refine grow_pg L[i] (g2.new n3) (by omega) fun a' c' h4 g4 => ?_
    have et : L.take i ++ [L[i]] = L.take (i + 1) := List.take_append_getElem hiL
    rw [et] at g4
    simp only [ez]
    exact ⟨⟨i + 1, rfl, hiL, by rw [et], g4⟩, (by first | omega | (dsimp only; omega) | (simp only []; omega))⟩
  · have : i = L.length := by
      have hlt : ¬ (i : Int) < (L.length : Int) := of_decide_eq_false hlt
      omega
    subst this
    rw [List.take_length] at g2 ⊢
    exact ⟨oa, oc, rfl, g2.row, n2⟩
theorem rsame_ok (h : Heap) (a b : Option Addr) (ca cb n m : Nat) (L M : List Pg) (hn : n = L.length) (hm : m = M.length) (hl : L.length ≤ 1000) (ra : PR h a L) (rb : PR h b M) :
    CallsH Tryd.prog 49 [.slice a n ca, .slice b m cb] h fun v h' => v = .bool (decide (L = M)) ∧ h' = h := by
  refine fun_ok Geo.hm' Tryd.func49 (by kernel_rfl) (F49_eq _ _ _ _ _ _ _ h) ?_
  unfold F49
  subst hn; subst hm
  refine br_of (fun hne => ?_) (fun heq => ?_)
  · have : L ≠ M := fun e => by subst e; simp at hne
    exact ⟨by simp [this], rfl⟩
  have hlen : L.length = M.length := by simp at heq; omega
  refine ⟨fun (s : Int) h' => h' = h ∧ ∃ i : Nat, s = i ∧ i ≤ L.length ∧ L.take i = M.take i, fun (s : Int) _ => (L.length - s).toNat, ⟨rfl, 0, rfl, by omega, rfl⟩, ?_⟩
  rintro s j h' ⟨hh, i, rfl, hi, hpre⟩
  subst h'
  refine br_of (fun hlt => ?_) (fun hlt => ?_)
  · have hlt : i < L.length := by simp at hlt; omega
    refine ra.ld hlt hlt (rb.ld (by omega) (by omega) ⟨_, pg_eqR L[i] M[i], ?_⟩)
    refine br_of (fun hd => ?_) (fun hd => ?_)
    · have : L ≠ M := fun e => by subst e; simp at hd
      exact ⟨by simp [this], rfl⟩
    · have hd : L[i] = M[i] := by simpa using hd
      refine ⟨⟨rfl, i + 1, (by first | (rw [wr64 (by omega) (by omega)]; omega) | (simp only [IntKind.wrap_i64]; omega)), hlt, ?_⟩, (by dsimp only; first | (rw [wr64 (by omega) (by omega)]; omega) | (rw [wr64 (by omega) (by omega), wr64 (by omega) (by omega)]; omega) | (simp only [IntKind.wrap_i64]; omega))⟩
      rw [← List.take_append_getElem hlt, ← List.take_append_getElem (show i < M.length by omega), hpre, hd]
  · have hlt : ¬ (i : Int) < (L.length : Int) := of_decide_eq_false hlt
    have : i = L.length := by omega
    subst this
    rw [List.take_length, List.take_of_length_le (by omega)] at hpre
    exact ⟨by simp [hpre], rfl⟩
end Go.Proofs.YtgohecjnjadnpaaDoor.MedA
