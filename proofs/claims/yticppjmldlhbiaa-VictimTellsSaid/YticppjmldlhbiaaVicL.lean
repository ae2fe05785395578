/-
  The laws of victim: what they share.
-/
import Derived.Test.YticppjmldlhbiaaWL12
import Derived.Test.YticppjmldlhbiaaWR12
import Derived.Test.YticppjmldlhbiaaVicT
import Derived.Test.YticppjmldlhbiaaSame
namespace Go.Proofs.Yticppjmldlhbiaa.VicL
open Go.Pl Go.Proofs.Yticppjmldlhbiaa.W Go.Proofs.Yticppjmldlhbiaa.Vic Go.Proofs.Yticppjmldlhbiaa.VicW Go.Proofs.Yticppjmldlhbiaa.VicS Go.Proofs.Yticppjmldlhbiaa.VicT
open Go.Proofs.Yticppjmldlhbiaa.So (hm' encL TE)
abbrev ZS : Sh := .pair (.int .i64) (.pair (.int .i64) (.int .u32))
theorem ar_p {k : IntKind} {h : Heap} {a : Option Addr} {xs : List Int} (r : Ar k h a xs) : ∀ i x, xs[i]? = some x → ∃ p, a = some p ∧ cellH h (p.add i) = some (.int k x) := fun i x hx => by
  obtain ⟨b, o, e, _, hc⟩ := r i x hx
  exact ⟨_, e, by rw [add_mk]; exact hc⟩
theorem zr_of {h : Heap} {a : Option Addr} {l : List Z} (r : SlAt h ZS a l) : Zr h a l ∧ ∀ z ∈ l, 0 ≤ z.2.2 ∧ z.2.2 < 4294967296 := by
  have key : ∀ (i : Nat) (z : Z), l[i]? = some z → (∃ b o, a = some (⟨b, o, none⟩ : Addr) ∧ b < h.size ∧ ∀ j, j < 3 → cellH h ⟨b, o + (i * 3 + j), none⟩ = (encL z)[j]?) ∧ 0 ≤ z.2.2 ∧ z.2.2 < 4294967296 := fun i z hi => by
    obtain ⟨b, o, es, rfl, hb, hel, hc, c1, d1, rfl, ⟨rfl, _⟩, c2, d2, rfl, ⟨rfl, _⟩, ⟨rfl, w⟩⟩ := r i z hi
    have w : (Lit.int .u32 z.2.2).wf = true := w
    simp [Lit.wf, IntKind.min, IntKind.max, IntKind.bits, IntKind.signed] at w
    exact ⟨⟨b, o, rfl, hb, fun j hj => hc j hj⟩, by omega, by omega⟩
  exact ⟨fun i z hi => (key i z hi).1, fun z hz => by
    obtain ⟨i, hi⟩ := List.mem_iff_getElem?.1 hz
    exact (key i z hi).2⟩
theorem Zr.row {h : Heap} {e : TypeId} {n c : Nat} {a : Option Addr} {zs : List Z} (r : RowS h e 3 a n c (zv zs)) : Zr h a zs := fun i z hi => by
  have hj0 := zv_get hi (show 0 < 3 by omega)
  obtain ⟨g, o, e1, hg, _⟩ := r.cell (j := i * 3 + 0) (u := .int .i64 z.1) (by rw [hj0]; rfl)
  refine ⟨g, o, e1, hg, fun j hj => ?_⟩
  have hv := zv_get hi hj
  have hjl : j < (encL z).length := hj
  rw [List.getElem?_eq_getElem hjl] at hv ⊢
  obtain ⟨g', o', e', _, hc⟩ := r.cell hv
  rw [e1] at e'; injection e' with e'; injection e' with e2 e3; subst e2; subst e3
  exact hc
/-- Zones behind a row of zones. -/
theorem Grow.zs {t e : TypeId} {bytes : Nat} (hB : apB Try.prog t e 3 bytes = true) {h0 h : Heap} {r0 : Option Nat} {n c m d : Nat} {a b : Option Addr} {xs ys : List Z} (g : Grow h0 r0 h e 3 a n c (zv xs)) (r : Zr h b ys) (hm : m = ys.length) (hn : xs.length + ys.length ≤ 1000) (hby : bytes ≤ 64) {F : Option Addr → Nat → Nat → Heap → Prop}
    (hF : ∀ a' c' h', Grow h0 r0 h' e 3 a' (xs ++ ys).length c' (zv (xs ++ ys)) → (ys ≠ [] → OwnH h' 0 e 3 a' (xs ++ ys).length c' (zv (xs ++ ys))) → F a' (xs ++ ys).length c' h') : apW Try.prog #[t, t] #[.slice a n c, .slice b m d] F h := by
  have hl : n = xs.length := by have := g.row.len; rw [zv_len] at this; omega
  subst hl; subst hm
  have hlen : (xs ++ ys).length = xs.length + ys.length := List.length_append
  have hb : (xs.length + ys.length) * bytes ≤ 140737488355328 := Nat.le_trans (Nat.mul_le_mul hn hby) (by decide)
  cases ys with
  | nil =>
    simp only [List.append_nil, List.length_nil] at hF ⊢
    exact ap_row0 hB g.row (hF a c h g (fun h => (h rfl).elim))
  | cons y ys =>
    obtain ⟨gb, o, rfl, hgb, _⟩ := r 0 y rfl
    refine ap_row hB g.row (zv (y :: ys)) (zv_len _) ?_ ?_ (by simp only [maxLen]; omega) hb fun a' c' h' r' w ow => ?_
    · intro j u hu
      have hj : j < (y :: ys).length * 3 := by rw [← zv_len]; exact (List.getElem?_eq_some_iff.1 hu).1
      obtain ⟨zz, hz⟩ : ∃ zz, (y :: ys)[j / 3]? = some zz := ⟨_, List.getElem?_eq_getElem (by omega)⟩
      obtain ⟨b', o', e1, _, hc⟩ := r _ _ hz
      have e2 := Option.some.inj e1
      have e3 : gb = b' := congrArg Addr.block e2
      have e4 : o = o' := congrArg Addr.off e2
      subst e3; subst e4
      clear e1 e2
      have h1 := hc (j % 3) (by omega)
      have h2 := zv_get hz (show j % 3 < 3 by omega)
      have e3 : j / 3 * 3 + j % 3 = j := by omega
      rw [e3] at h1 h2
      rw [add_mk, h1, ← h2]; exact hu
    · intro u hu
      obtain ⟨z, _, hz⟩ := List.mem_flatMap.1 hu
      simp [encL] at hz
      rcases hz with rfl | rfl | rfl <;> rfl
    · have ow := ow (by simp)
      rw [← zv_app, ← hlen] at r' ow
      rw [← hlen]
      exact hF a' c' h' (g.went r' w) fun _ => ow
theorem Grow.z1 {t e : TypeId} {bytes : Nat} (hB : apB Try.prog t e 3 bytes = true) {h0 h : Heap} {r0 : Option Nat} {n c : Nat} {a : Option Addr} {xs : List Z} {z : Z} (g : Grow h0 r0 h e 3 a n c (zv xs)) (hn : xs.length ≤ 900) (hby : bytes ≤ 64) {F : Option Addr → Nat → Nat → Heap → Prop}
    (hF : ∀ a' c' h', Grow h0 r0 h' e 3 a' (n + 1) c' (zv (xs ++ [z])) → F a' (n + 1) c' h') : newW (.cells #[.int .i64 z.1, .int .i64 z.2.1, .int .u32 z.2.2] e) (fun p h' => apW Try.prog #[t, t] #[.slice a n c, .slice (some p) 1 1] F h') h := by
  refine new_of fun h1 b1 n1 s1 => ?_
  have hl : n = xs.length := by have := g.row.len; rw [zv_len] at this; omega
  have hr : Zr h1 (some ⟨h.size, 0, none⟩) [z] := fun i y hi => by
    have h0 : i = 0 := by have := (List.getElem?_eq_some_iff.1 hi).1; simp at this; omega
    subst h0
    have : z = y := by simpa using hi
    subst this
    exact ⟨_, _, rfl, b1.lt, fun j hj => by rw [cellH_blk b1, Nat.zero_mul, Nat.zero_add, Nat.zero_add]; simp [encL]⟩
  have e1 : (xs ++ [z]).length = n + 1 := by simp [hl]
  have := Grow.zs hB (g.new n1) hr (m := 1) (d := 1) rfl (by simp; omega) hby (F := F) fun a' c' h' g' _ => by rw [e1] at g' ⊢; exact hF a' c' h' g'
  exact this
abbrev TR : TypeId := 101
theorem ap3R : apB Try.prog 63 TR 3 24 = true := by kernel_rfl
theorem zones_ok (h : Heap) (a : Option Addr) (c n : Nat) (zs : List Z) (hn : n = zs.length) (hl : zs.length ≤ 60) (r : Zr h a zs) :
    CallsH Try.prog 35 [.slice a n c] h fun v h' => ∃ a' c', v = .slice a' zs.length c' ∧ Zr h' a' zs ∧ New h h' ∧ zs.length ≤ c' := by
  subst hn
  refine fun_ok hm' Try.func35 (by kernel_rfl) (F35_eq _ _ _ _ h) ?_
  unfold F35
  refine new_of fun h1 b1 n1 s1 => ?_
  have hr0 : ∀ b : Nat, blkOf (some (⟨h.size, 0, none⟩ : Addr)) = some b → h.size ≤ b := fun b e => by injection e with e; change h.size = b at e; omega
  have gn : ∀ {h' : Heap} {a' : Option Addr} {n' c' : Nat} {xs : List Z}, Grow h1 (blkOf (some (⟨h.size, 0, none⟩ : Addr))) h' TR 3 a' n' c' (zv xs) → New h h' := fun g => g.upd.grow n1 hr0
  refine ⟨fun (s : (Option Addr × Nat × Nat) × Int) h' => ∃ i : Nat, s.2 = i ∧ i ≤ zs.length ∧ Grow h1 (blkOf (some (⟨h.size, 0, none⟩ : Addr))) h' TR 3 s.1.1 s.1.2.1 s.1.2.2 (zv (zs.take i)), fun (s : (Option Addr × Nat × Nat) × Int) _ => ((zs.length : Int) - s.2).toNat, ⟨0, rfl, Nat.zero_le _, Grow.start (RowS.nil' h1 TR 3 (some ⟨h.size, 0, none⟩))⟩, ?_⟩
  rintro ⟨⟨oa, on, oc⟩, s⟩ j h2 ⟨i, hs, hi, g2⟩
  simp only [] at hs g2
  subst hs
  refine br_of (fun hlt => ?_) (fun hlt => ?_)
  · have hlt : (i : Int) < (zs.length : Int) := of_decide_eq_true hlt
    have hiL : i < zs.length := by omega
    refine (r.new (gn g2)).ld hiL hiL (new_stL (by rw [zeroZ]; rfl) fun h3 b3 n3 s3 => ldAgg_blk (zs[i].1, zs[i].2.1, zs[i].2.2) b3 ⟨rfl, rfl, rfl, trivial⟩ ?_)
    refine Grow.z1 ap3R (z := zs[i]) (g2.new n3) (by rw [List.length_take]; omega) (by omega) fun a4 c4 h4 g4 => ?_
    rw [List.take_append_getElem hiL] at g4
    rw [wr64 (by omega) (by omega)]
    exact ⟨⟨i + 1, rfl, hiL, g4⟩, (by first | omega | (dsimp only; omega) | (simp only []; omega))⟩
  · have hlt : ¬ (i : Int) < (zs.length : Int) := of_decide_eq_false hlt
    have : i = zs.length := by omega
    subst this
    rw [List.take_length] at g2
    have hon : on = zs.length := by have := g2.row.len; rw [zv_len] at this; omega
    subst hon
    exact ⟨oa, oc, rfl, Zr.row g2.row, gn g2, g2.row.le⟩
theorem rright_ok (h : Heap) (p : Int) (a : Option Addr) (c n : Nat) (zs : List Z) (hn : n = zs.length) (hl : zs.length ≤ 60) (r : Zr h a zs) :
    CallsH Try.prog 34 [.int .i64 p, .slice a n c] h fun v h' => v = .bool (rightB p zs) ∧ h' = h := by
  subst hn
  refine fun_ok hm' Try.func34 (by kernel_rfl) (F34_eq _ _ _ _ _ h) ?_
  unfold F34
  obtain ⟨G, hG⟩ : ∃ G, G = goodsB p [] zs := ⟨_, rfl⟩
  have no : false = G → Value.bool false = .bool (rightB p zs) ∧ h = h := fun e => ⟨by unfold rightB; rw [← hG, ← e]; rfl, rfl⟩
  refine ⟨fun (s : Int) h' => h' = h ∧ ∃ i : Nat, s = i ∧ i ≤ zs.length ∧ goodsB p (zs.take i) (zs.drop i) = G, fun (s : Int) _ => ((zs.length : Int) - s).toNat, ⟨rfl, 0, rfl, Nat.zero_le _, hG.symm⟩, ?_⟩
  rintro s j h' ⟨hh, i, rfl, hi, hg⟩; subst h'
  refine br_of (fun hlt => ?_) (fun hlt => ?_)
  · have hlt : (i : Int) < (zs.length : Int) := of_decide_eq_true hlt
    have hiL : i < zs.length := by omega
    rw [List.drop_eq_getElem_cons hiL] at hg
    unfold goodsB at hg
    refine cut_q (ts := []) (fun _ h' => h' = h ∧ (if (zs.take i).any (fun y => y.1 == zs[i].1) then false else goodsB p (zs.take i ++ [zs[i]]) (zs.drop (i + 1))) = G) ?_ ?_
    rotate_left
    · intro K hK
      refine r.ld1 (c := .int .i64) (k := 0) (x := zs[i].1) hiL hiL rfl (br_of (fun h1 => no ?_) fun h1 => r.ld1 (c := .int .i64) (k := 1) (x := zs[i].2.1) hiL hiL rfl (br_of (fun h2 => no ?_) fun h2 => r.ld1 (c := .int .i64) (k := 1) (x := zs[i].2.1) hiL hiL rfl (br_of (fun h3 => no ?_) fun h3 => hK () _ ⟨rfl, ?_⟩)))
      · rw [if_pos (of_decide_eq_true h1)] at hg; exact hg
      · rw [if_neg (of_decide_eq_false h1), if_pos (of_decide_eq_true h2)] at hg; exact hg
      · rw [if_neg (of_decide_eq_false h1), if_neg (of_decide_eq_false h2), if_pos (of_decide_eq_true h3)] at hg; exact hg
      · rw [if_neg (of_decide_eq_false h1), if_neg (of_decide_eq_false h2), if_neg (of_decide_eq_false h3)] at hg; exact hg
    rintro _ h' ⟨hh, hg2⟩ _; subst h'
    refine ⟨fun (s : Int) h' => h' = h ∧ ∃ k : Nat, s = k ∧ k ≤ i ∧ ∀ y ∈ zs.take k, y.1 ≠ zs[i].1, fun (s : Int) _ => ((i : Int) - s).toNat, ⟨rfl, 0, rfl, Nat.zero_le _, by simp⟩, ?_⟩
    rintro s j2 h' ⟨hh, k, rfl, hk, hno⟩; subst h'
    refine br_of (fun hlt2 => ?_) (fun hlt2 => ?_)
    · have hlt2 : (k : Int) < (i : Int) := of_decide_eq_true hlt2
      have hkL : k < zs.length := by omega
      refine r.ld1 (c := .int .i64) (k := 0) (x := zs[k].1) hkL hkL rfl (r.ld1 (c := .int .i64) (k := 0) (x := zs[i].1) hiL hiL rfl (br_of (fun he => no ?_) fun he => ⟨⟨rfl, k + 1, (by first | (rw [wr64 (by omega) (by omega)]; omega) | (simp only [IntKind.wrap_i64]; omega)), by omega, fun y hy => ?_⟩, (by dsimp only; first | (rw [wr64 (by omega) (by omega)]; omega) | (rw [wr64 (by omega) (by omega), wr64 (by omega) (by omega)]; omega) | (simp only [IntKind.wrap_i64]; omega))⟩))
      · have hm : zs[k] ∈ zs.take i := by rw [List.mem_take_iff_getElem]; exact ⟨k, by omega, rfl⟩
        rw [if_pos (List.any_eq_true.2 ⟨zs[k], hm, he⟩)] at hg2
        exact hg2
      · rw [← List.take_append_getElem hkL] at hy
        rcases List.mem_append.1 hy with hy | hy
        · exact hno y hy
        · obtain rfl := List.mem_singleton.1 hy; simpa using he
    · have hlt2 : ¬ (k : Int) < (i : Int) := of_decide_eq_false hlt2
      have : k = i := by omega
      subst this
      rw [if_neg (by rw [List.any_eq_true]; rintro ⟨y, hy, e⟩; exact hno y hy (by simpa using e)), List.take_append_getElem hiL] at hg2
      exact ⟨⟨rfl, k + 1, (by first | (rw [wr64 (by omega) (by omega)]; omega) | (simp only [IntKind.wrap_i64]; omega)), hiL, hg2⟩, (by dsimp only; first | (rw [wr64 (by omega) (by omega)]; omega) | (rw [wr64 (by omega) (by omega), wr64 (by omega) (by omega)]; omega) | (simp only [IntKind.wrap_i64]; omega))⟩
  · have hlt : ¬ (i : Int) < (zs.length : Int) := of_decide_eq_false hlt
    have : i = zs.length := by omega
    subst this
    rw [List.drop_length] at hg
    have hg : true = G := by rw [← hg]; simp [goodsB]
    refine ⟨?_, rfl⟩
    unfold rightB
    rw [← hG, ← hg, Bool.true_and]
    show Value.bool _ = Value.bool _
    congr 1
    rw [decide_eq_decide]; omega
/-- Are zones none that the document speaks of? -/
def outB (p : Int) (zs : List Z) : Bool := if p < 1 then true else if p > 16 then true else if zs.length > 60 then true else !rightB p zs
theorem out_ok (h : Heap) (p : Int) (a : Option Addr) (c : Nat) (zs : List Z) (r : Zr h a zs) : CallsH Try.prog 36 [.int .i64 p, .slice a zs.length c] h fun v h' => v = .bool (outB p zs) ∧ New h h' := by
  refine fun_ok hm' Try.func36 (by kernel_rfl) (F36_eq _ _ _ _ _ h) ?_
  unfold F36
  refine br_of (fun h1 => ⟨?_, New.refl h⟩) fun h1 => br_of (fun h2 => ⟨?_, New.refl h⟩) fun h2 => br_of (fun h3 => ⟨?_, New.refl h⟩) fun h3 => ?_
  · rw [outB, if_pos (of_decide_eq_true h1)]
  · rw [outB, if_neg (of_decide_eq_false h1), if_pos (of_decide_eq_true h2)]
  · have h3 : (zs.length : Int) > 60 := of_decide_eq_true h3
    rw [outB, if_neg (of_decide_eq_false h1), if_neg (of_decide_eq_false h2), if_pos (by omega)]
  have h3 : ¬ (zs.length : Int) > 60 := of_decide_eq_false h3
  refine call_of (zones_ok h a c zs.length zs rfl (by omega) r) ?_
  rintro v h4 ⟨a4, c4, rfl, r4, n4, _⟩
  refine ⟨(a4, zs.length, c4), rfl, call_of (rright_ok h4 p a4 c4 zs.length zs rfl (by omega) r4) ?_⟩
  rintro v h' ⟨rfl, hh⟩; subst h'
  exact ⟨_, rfl, by rw [outB, if_neg (of_decide_eq_false h1), if_neg (of_decide_eq_false h2), if_neg (by omega)], n4⟩
theorem out_facts {p : Int} {zs : List Z} (h : outB p zs = false) (ha : ∀ z ∈ zs, 0 ≤ z.2.2 ∧ z.2.2 < 4294967296) : (1 ≤ p ∧ p ≤ 16) ∧ Goods p zs ∧ zs.length ≤ 24 := by
  unfold outB at h
  split at h
  · cases h
  split at h
  · cases h
  split at h
  · cases h
  rename_i h1 h2 h3
  have h : rightB p zs = true := by simpa using h
  exact ⟨by omega, right_goods h ha⟩
theorem awake_ok (h : Heap) : CallsH Try.prog 32 [] h fun v h' => v = .bool true ∧ New h h' := by
  refine fun_ok hm' Try.func32 (by kernel_rfl) (F32_eq _ h) ?_
  unfold F32
  refine new_of fun h1 b1 n1 s1 => ?_
  have b1 : Blk h1 h.size (zv [(0, 4, 0), (1, 1, 0), (2, 1, 0), (3, 2, 9)]).toArray TE := b1
  have r1 : Zr h1 (some ⟨h.size, 0, none⟩) [(0, 4, 0), (1, 1, 0), (2, 1, 0), (3, 2, 9)] := Zr.own (OwnH.of_blk (base := 0) b1 (Nat.zero_le _) (n := 4) rfl (by decide))
  have g4 : Goods 4 [(0, 4, 0), (1, 1, 0), (2, 1, 0), (3, 2, 9)] := by
    refine ⟨fun z hz => ?_, by decide⟩
    simp at hz
    rcases hz with rfl | rfl | rfl | rfl <;> exact ⟨by decide, by decide, by decide, by decide⟩
  refine call_of (choose_ok (pol := 0) (p := 4) (extra := 2) (by omega) (by omega) h1 _ 4 _ g4 (by decide) r1) ?_
  rintro v h2 ⟨a2, c2, rfl, q2⟩
  have e2 : (chosen 0 4 2 [(0, 4, 0), (1, 1, 0), (2, 1, 0), (3, 2, 9)]).map Prod.fst = [1, 2] := by decide
  rw [e2] at q2 ⊢
  refine ⟨(a2, 2, c2), rfl, new_of fun h3 b3 n3 s3 => ?_⟩
  have b3 : Blk h3 h2.size (([1, 2] : List Int).map (Value.int .i64)).toArray TI := b3
  refine call_of (Same.same_ok _ _ _ _ _ _ h3 [1, 2] [1, 2] rfl rfl (show (2 : Nat) ≤ 9223372036854775807 by decide) (ar_p (q2.ar.new n3)) (ar_p (Ar.blk b3))) ?_
  rintro v h' ⟨rfl, hh⟩; subst h'
  have n13 := q2.new.trans n3
  refine ⟨true, rfl, br_t rfl (call_of (order_ok (pol := 0) (p := 4) (by omega) h3 _ 4 _ g4 (by decide) (r1.new n13)) ?_)⟩
  rintro v h4 ⟨a4, c4, rfl, q4⟩
  have e4 : (sortZ 0 4 [(0, 4, 0), (1, 1, 0), (2, 1, 0), (3, 2, 9)]).map Prod.fst = [1, 2, 3, 0] := by decide
  rw [e4] at q4 ⊢
  refine ⟨(a4, 4, c4), rfl, new_of fun h5 b5 n5 s5 => ?_⟩
  have b5 : Blk h5 h4.size (([1, 2, 3, 0] : List Int).map (Value.int .i64)).toArray TI := b5
  refine call_of (Same.same_ok _ _ _ _ _ _ h5 [1, 2, 3, 0] [1, 2, 3, 0] rfl rfl (show (4 : Nat) ≤ 9223372036854775807 by decide) (ar_p (q4.ar.new n5)) (ar_p (Ar.blk b5))) ?_
  rintro v h' ⟨rfl, hh⟩; subst h'
  have n15 := n13.trans (q4.new.trans n5)
  refine ⟨true, rfl, br_t rfl (call_of (order_ok (pol := 1) (p := 4) (by omega) h5 _ 4 _ g4 (by decide) (r1.new n15)) ?_)⟩
  rintro v h6 ⟨a6, c6, rfl, q6⟩
  have e6 : (sortZ 1 4 [(0, 4, 0), (1, 1, 0), (2, 1, 0), (3, 2, 9)]).map Prod.fst = [3, 1, 2, 0] := by decide
  rw [e6] at q6 ⊢
  refine ⟨(a6, 4, c6), rfl, new_of fun h7 b7 n7 s7 => ?_⟩
  have b7 : Blk h7 h6.size (([3, 1, 2, 0] : List Int).map (Value.int .i64)).toArray TI := b7
  refine call_of (Same.same_ok _ _ _ _ _ _ h7 [3, 1, 2, 0] [3, 1, 2, 0] rfl rfl (show (4 : Nat) ≤ 9223372036854775807 by decide) (ar_p (q6.ar.new n7)) (ar_p (Ar.blk b7))) ?_
  rintro v h' ⟨rfl, hh⟩; subst h'
  have n17 := n15.trans (q6.new.trans n7)
  refine ⟨true, rfl, br_t rfl (call_of (right_ok h7 4 _ 4 4 _ rfl (by decide) (by decide) (r1.new n17)) ?_)⟩
  rintro v h8 ⟨rfl, n8⟩
  refine ⟨true, rfl, br_t rfl (call_of (right_ok h8 3 _ 4 4 _ rfl (by decide) (by decide) (r1.new (n17.trans n8))) ?_)⟩
  rintro v h9 ⟨rfl, n9⟩
  exact ⟨false, rfl, rfl, n1.trans (n17.trans (n8.trans n9))⟩
end Go.Proofs.Yticppjmldlhbiaa.VicL
