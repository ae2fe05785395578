/-
  Reference 09: an index as a row of pairs by keys.
-/
import Derived.Test.YtfanjfbenhocnaaDoorWI9
import Derived.Test.YtfanjfbenhocnaaDoorIxS
namespace Go.Proofs.YtfanjfbenhocnaaDoor.Ix9
open Go.Pl Go.Pl.Ix Go.Proofs.YtfanjfbenhocnaaDoor.W Go.Proofs.YtfanjfbenhocnaaDoor.Ix Go.Proofs.YtfanjfbenhocnaaDoor.IxS
/- ROWS OF PAIRS. -/
abbrev Pq := Int × Int
def encP (z : Pq) : List Value := [.int .u32 z.1, .int .i64 z.2]
theorem ix_of {i n : Nat} {F : Prop} (h : i < n) (hF : F) : idxW (i : Int) n true F := ⟨⟨⟨by omega, by omega⟩, rfl⟩, hF⟩
def pv (zs : List Pq) : List Value := zs.flatMap encP
theorem pv_len (zs : List Pq) : (pv zs).length = zs.length * 2 := by
  induction zs with
  | nil => rfl
  | cons z zs ih => simp only [pv, List.flatMap_cons, List.length_append, List.length_cons] at *; rw [ih]; show 2 + zs.length * 2 = _; omega
theorem pv_get : ∀ {zs : List Pq} {i j : Nat} {z : Pq}, zs[i]? = some z → j < 2 → (pv zs)[i * 2 + j]? = (encP z)[j]?
  | z :: zs, 0, j, z', h, hj => by
    simp at h; subst h
    rw [pv, List.flatMap_cons, List.getElem?_append_left (by show 0 * 2 + j < 2; omega)]; simp
  | z :: zs, i + 1, j, z', h, hj => by
    have ih := pv_get (zs := zs) (i := i) (j := j) (z := z') (by simpa using h) hj
    rw [pv, List.flatMap_cons, List.getElem?_append_right (by show 2 ≤ (i + 1) * 2 + j; omega), ← ih]
    show (pv zs)[(i + 1) * 2 + j - 2]? = _
    congr 1; omega
theorem pv_app (a b : List Pq) : pv (a ++ b) = pv a ++ pv b := by simp [pv]
def Pr (h : Heap) (a : Option Addr) (zs : List Pq) : Prop := ∀ (i : Nat) (z : Pq), zs[i]? = some z → ∃ b o, a = some ⟨b, o, none⟩ ∧ b < h.size ∧ ∀ j, j < 2 → cellH h ⟨b, o + (i * 2 + j), none⟩ = (encP z)[j]?
theorem Pr.new {h h' : Heap} {a : Option Addr} {zs : List Pq} (r : Pr h a zs) (n : New h h') : Pr h' a zs := fun i z hi => by
  obtain ⟨b, o, e, hb, hc⟩ := r i z hi
  exact ⟨b, o, e, Nat.lt_of_lt_of_le hb n.size, fun j hj => by rw [cellH_same (n.same b hb)]; exact hc j hj⟩
theorem Pr.ld1 {h : Heap} {a : Option Addr} {zs : List Pq} (r : Pr h a zs) {i m k : Nat} {c : CTy} {x : c.T} (hi : i < zs.length) (hm : i < m) (hk : (encP zs[i])[k]? = some (c.val x)) {F : c.T → Prop} (hF : F x) :
    ptrW a (fun p => idxW (i : Int) m true (ldW c (Addr.add (Addr.add p (Int.toNat (i : Int) * 2)) k) F h)) := by
  obtain ⟨b, o, rfl, hb, hc⟩ := r i _ (List.getElem?_eq_getElem hi)
  have hk3 : k < 2 := (List.getElem?_eq_some_iff.1 hk).1
  refine ptr_of (ix_of hm (ld_of (c := c) x ?_ hF))
  rw [add_mk, add_mk, Int.toNat_natCast, Nat.add_assoc, hc k hk3]; exact hk
theorem Pr.ld {h : Heap} {a : Option Addr} {zs : List Pq} (r : Pr h a zs) {i m : Nat} (hi : i < zs.length) (hm : i < m) {F : Int × Int → Prop} (hF : F (zs[i].1, zs[i].2)) :
    ptrW a (fun p => idxW (i : Int) m true (ldAggW [.int .u32, .int .i64] (Addr.add p (Int.toNat (i : Int) * 2)) F h)) := by
  obtain ⟨b, o, rfl, hb, hc⟩ := r i _ (List.getElem?_eq_getElem hi)
  exact agg_at (k := 2) ((zs[i].1, zs[i].2) : Int × Int) (es := encP zs[i]) hc rfl rfl hm hF
theorem Pr.drop {h : Heap} {a : Option Addr} {zs : List Pq} (r : Pr h a zs) (c k : Nat) (hc : zs.length ≤ c) : Pr h (sliceBase a k c 2) (zs.drop k) := fun i z hi => by
  rw [List.getElem?_drop] at hi
  obtain ⟨b, o, rfl, hb, hcl⟩ := r (k + i) z hi
  have := (List.getElem?_eq_some_iff.1 hi).1
  refine ⟨b, o + k * 2, ?_, hb, fun j hj => ?_⟩
  · unfold sliceBase
    rw [if_neg (by omega)]
    show some (Addr.add _ _) = _
    rw [add_mk]
  · rw [← hcl j hj]
    have e : o + k * 2 + (i * 2 + j) = o + ((k + i) * 2 + j) := by omega
    rw [e]
theorem Pr.row {h : Heap} {e : TypeId} {n c : Nat} {a : Option Addr} {zs : List Pq} (r : RowS h e 2 a n c (pv zs)) : Pr h a zs := fun i z hi => by
  have hj0 := pv_get hi (show 0 < 2 by omega)
  obtain ⟨g, o, e1, hg, _⟩ := r.cell (j := i * 2 + 0) (u := .int .u32 z.1) (by rw [hj0]; rfl)
  refine ⟨g, o, e1, hg, fun j hj => ?_⟩
  have hv := pv_get hi hj
  have hjl : j < (encP z).length := hj
  rw [List.getElem?_eq_getElem hjl] at hv ⊢
  obtain ⟨g', o', e', _, hc⟩ := r.cell hv
  rw [e1] at e'; injection e' with e'; injection e' with e2 e3; subst e2; subst e3
  exact hc
/-- Pairs behind a row of pairs. -/
theorem Grow.ps {t e : TypeId} {bytes : Nat} (hB : apB Tryd.prog t e 2 bytes = true) {h0 h : Heap} {r0 : Option Nat} {n c m d : Nat} {a b : Option Addr} {xs ys : List Pq} (g : Grow h0 r0 h e 2 a n c (pv xs)) (r : Pr h b ys) (hm : m = ys.length) (hn : xs.length + ys.length ≤ 1000) (hby : bytes ≤ 64) {F : Option Addr → Nat → Nat → Heap → Prop}
    (hF : ∀ a' c' h', Grow h0 r0 h' e 2 a' (xs ++ ys).length c' (pv (xs ++ ys)) → (ys ≠ [] → OwnH h' 0 e 2 a' (xs ++ ys).length c' (pv (xs ++ ys))) → F a' (xs ++ ys).length c' h') : apW Tryd.prog #[t, t] #[.slice a n c, .slice b m d] F h := by
  have hl : n = xs.length := by have := g.row.len; rw [pv_len] at this; omega
  subst hl; subst hm
  have hlen : (xs ++ ys).length = xs.length + ys.length := List.length_append
  have hb : (xs.length + ys.length) * bytes ≤ 140737488355328 := Nat.le_trans (Nat.mul_le_mul hn hby) (by decide)
  cases ys with
  | nil =>
    simp only [List.append_nil, List.length_nil] at hF ⊢
    exact ap_row0 hB g.row (hF a c h g (fun h => (h rfl).elim))
  | cons y ys =>
    obtain ⟨gb, o, rfl, hgb, _⟩ := r 0 y rfl
    refine ap_row hB g.row (pv (y :: ys)) (pv_len _) ?_ ?_ (by simp only [maxLen]; omega) hb fun a' c' h' r' w ow => ?_
    · intro j u hu
      have hj : j < (y :: ys).length * 2 := by rw [← pv_len]; exact (List.getElem?_eq_some_iff.1 hu).1
      obtain ⟨zz, hz⟩ : ∃ zz, (y :: ys)[j / 2]? = some zz := ⟨_, List.getElem?_eq_getElem (by omega)⟩
      obtain ⟨b', o', e1, _, hc⟩ := r _ _ hz
      have e2 := Option.some.inj e1
      have e3 : gb = b' := congrArg Addr.block e2
      have e4 : o = o' := congrArg Addr.off e2
      subst e3; subst e4
      clear e1 e2
      have h1 := hc (j % 2) (by omega)
      have h2 := pv_get hz (show j % 2 < 2 by omega)
      have e3 : j / 2 * 2 + j % 2 = j := by omega
      rw [e3] at h1 h2
      rw [add_mk, h1, ← h2]; exact hu
    · intro u hu
      obtain ⟨z, _, hz⟩ := List.mem_flatMap.1 hu
      simp [encP] at hz
      rcases hz with rfl | rfl <;> rfl
    · have ow := ow (by simp)
      rw [← pv_app, ← hlen] at r' ow
      rw [← hlen]
      exact hF a' c' h' (g.went r' w) fun _ => ow
theorem Grow.p1 {t e : TypeId} {bytes : Nat} (hB : apB Tryd.prog t e 2 bytes = true) {h0 h : Heap} {r0 : Option Nat} {n c : Nat} {a : Option Addr} {xs : List Pq} {z : Pq} (g : Grow h0 r0 h e 2 a n c (pv xs)) (hn : xs.length ≤ 900) (hby : bytes ≤ 64) {F : Option Addr → Nat → Nat → Heap → Prop}
    (hF : ∀ a' c' h', Grow h0 r0 h' e 2 a' (n + 1) c' (pv (xs ++ [z])) → F a' (n + 1) c' h') : newW (.cells #[.int .u32 z.1, .int .i64 z.2] e) (fun p h' => apW Tryd.prog #[t, t] #[.slice a n c, .slice (some p) 1 1] F h') h := by
  refine new_of fun h1 b1 n1 s1 => ?_
  have hl : n = xs.length := by have := g.row.len; rw [pv_len] at this; omega
  have hr : Pr h1 (some ⟨h.size, 0, none⟩) [z] := fun i y hi => by
    have h0 : i = 0 := by have := (List.getElem?_eq_some_iff.1 hi).1; simp at this; omega
    subst h0
    have : z = y := by simpa using hi
    subst this
    exact ⟨_, _, rfl, b1.lt, fun j hj => by rw [cellH_blk b1, Nat.zero_mul, Nat.zero_add, Nat.zero_add]; simp [encP]⟩
  have e1 : (xs ++ [z]).length = n + 1 := by simp [hl]
  have := Grow.ps hB (g.new n1) hr (m := 1) (d := 1) rfl (by simp; omega) hby (F := F) fun a' c' h' g' _ => by rw [e1] at g' ⊢; exact hF a' c' h' g'
  exact this
abbrev TP : TypeId := 83
theorem apP : apB Tryd.prog 60 TP 2 16 = true := by kernel_rfl
/- THE REFERENCE'S INDEX: block q; its row of pairs lies in a later block. -/
def RI (h : Heap) (q : Nat) (P : List Pq) (room : Int) : Prop := ∃ a c T, Blk h q #[.slice a P.length c, .int .i64 room] T ∧ RowS h TP 2 a P.length c (pv P) ∧ ∀ g, blkOf a = some g → q < g
theorem RI.new {h h' : Heap} {q : Nat} {P : List Pq} {room : Int} (r : RI h q P room) (n : New h h') : RI h' q P room := by
  obtain ⟨a, c, T, B, R, l⟩ := r
  exact ⟨a, c, T, B.new n, R.new n, l⟩
theorem RI.upd {h h' : Heap} {q b : Nat} {P : List Pq} {room : Int} (r : RI h q P room) (u : Upd b h h') (hb : b < q) : RI h' q P room := by
  obtain ⟨a, c, T, B, R, l⟩ := r
  exact ⟨a, c, T, B.upd u (by omega), R.keep u.size fun g hg hl => u.same g hl (by have := l g hg; omega), l⟩
theorem ld0 {h : Heap} {q : Nat} {a : Option Addr} {n c : Nat} {room : Int} {T : TypeId} {F : Option Addr × Nat × Nat → Prop} (B : Blk h q #[.slice a n c, .int .i64 room] T) (hF : F (a, n, c)) : ldW .slice (Addr.add ⟨q, 0, none⟩ 0) F h :=
  ld_of (c := .slice) (a, n, c) (by rw [add_mk, cellH_blk B]; rfl) hF
theorem ld1 {h : Heap} {q : Nat} {a : Option Addr} {n c : Nat} {room : Int} {T : TypeId} {F : Int → Prop} (B : Blk h q #[.slice a n c, .int .i64 room] T) (hF : F room) : ldW (.int .i64) (Addr.add ⟨q, 0, none⟩ 1) F h :=
  ld_of (c := .int .i64) room (by rw [add_mk, cellH_blk B]; rfl) hF
def lk (P : List Pq) (k : Int) : Option Int := match P with
  | [] => none
  | z :: P => if z.1 = k then some z.2 else lk P k
theorem lk_cons (z : Pq) (P : List Pq) (k : Int) : lk (z :: P) k = if z.1 = k then some z.2 else lk P k := rfl
theorem get9_ok (q : Nat) (key : Int) (h : Heap) (P : List Pq) (room : Int) (hl : P.length ≤ 100) (R : RI h q P room) :
    CallsH Tryd.prog 24 [.pointer (some ⟨q, 0, none⟩), .int .u32 key] h fun v h' => v = .tuple #[.int .i64 ((lk P key).getD 0), .bool (lk P key).isSome] ∧ h' = h := by
  refine fun_ok hm' Tryd.func24 (by kernel_rfl) (F24_eq _ _ _ h) ?_
  obtain ⟨a, c, T, B, row, l⟩ := R
  have rp := Pr.row row
  unfold F24
  refine ⟨fun (s : Int) h' => h' = h ∧ ∃ i : Nat, s = i ∧ i ≤ P.length ∧ lk (P.drop i) key = lk P key, fun (s : Int) _ => ((P.length : Int) - s).toNat, ⟨rfl, 0, rfl, Nat.zero_le _, rfl⟩, ?_⟩
  rintro s j h' ⟨hh, i, rfl, hi, hk⟩; subst h'
  refine ld0 B (br_of (fun hlt => ?_) (fun hlt => ?_))
  · have hlt : (i : Int) < (P.length : Int) := of_decide_eq_true hlt
    have hiL : i < P.length := by omega
    rw [List.drop_eq_getElem_cons hiL] at hk
    rw [lk_cons] at hk
    refine ld0 B (rp.ld1 (c := .int .u32) (k := 0) (x := P[i].1) hiL hiL rfl (br_of (fun he => ?_) (fun he => ?_)))
    · have he : P[i].1 = key := by simpa using he
      rw [if_pos he] at hk
      rw [← hk]
      exact ld0 B (rp.ld1 (c := .int .i64) (k := 1) (x := P[i].2) hiL hiL rfl ⟨rfl, rfl⟩)
    · have he : ¬ P[i].1 = key := by simpa using he
      rw [if_neg he] at hk
      exact ⟨⟨rfl, i + 1, (by first | (rw [wr64 (by omega) (by omega)]; omega) | (simp only [IntKind.wrap_i64]; omega)), hiL, hk⟩, (by dsimp only; first | (rw [wr64 (by omega) (by omega)]; omega) | (rw [wr64 (by omega) (by omega), wr64 (by omega) (by omega)]; omega) | (simp only [IntKind.wrap_i64]; omega))⟩
  · have hlt : ¬ (i : Int) < (P.length : Int) := of_decide_eq_false hlt
    have : i = P.length := by omega
    subst this
    rw [List.drop_length] at hk
    rw [← hk]; exact ⟨rfl, rfl⟩
def fl (key : Int) (P : List Pq) : List Pq := P.filter fun z => z.1 != key
theorem drop9_ok (q : Nat) (key : Int) (h : Heap) (P : List Pq) (room : Int) (hl : P.length ≤ 100) (R : RI h q P room) :
    CallsH Tryd.prog 22 [.pointer (some ⟨q, 0, none⟩), .int .u32 key] h fun v h' => v = .bool (decide ((fl key P).length < P.length)) ∧ RI h' q (fl key P) room ∧ Upd q h h' := by
  refine fun_ok hm' Tryd.func22 (by kernel_rfl) (F22_eq _ _ _ h) ?_
  obtain ⟨a, c, T, B, row, l⟩ := R
  have hq := B.lt
  unfold F22
  refine new_of fun h1 b1 n1 s1 => ?_
  have hr0 : ∀ b : Nat, blkOf (some (⟨h.size, 0, none⟩ : Addr)) = some b → h.size ≤ b := fun b e => by injection e with e; change h.size = b at e; omega
  refine ⟨fun (s : (Option Addr × Nat × Nat) × Int) h' => ∃ i : Nat, s.2 = i ∧ i ≤ P.length ∧ s.1.2.1 = (fl key (P.take i)).length ∧ Grow h1 (blkOf (some (⟨h.size, 0, none⟩ : Addr))) h' TP 2 s.1.1 s.1.2.1 s.1.2.2 (pv (fl key (P.take i))), fun (s : (Option Addr × Nat × Nat) × Int) _ => ((P.length : Int) - s.2).toNat, ⟨0, rfl, Nat.zero_le _, rfl, Grow.start (RowS.nil' h1 TP 2 (some ⟨h.size, 0, none⟩))⟩, ?_⟩
  rintro ⟨⟨oa, on, oc⟩, s⟩ j h2 ⟨i, hs, hi, hon, g2⟩
  have hs : s = (i : Int) := hs
  have hon : on = (fl key (P.take i)).length := hon
  have g2 : Grow h1 (blkOf (some (⟨h.size, 0, none⟩ : Addr))) h2 TP 2 oa on oc (pv (fl key (P.take i))) := g2
  subst hs; subst hon
  have n2 : New h h2 := g2.upd.grow n1 hr0
  have B2 := B.new n2
  have rp := Pr.row (row.new n2)
  refine ld0 B2 (br_of (fun hlt => ?_) (fun hlt => ?_))
  · have hlt : (i : Int) < (P.length : Int) := of_decide_eq_true hlt
    have hiL : i < P.length := by omega
    have ez : IntKind.wrap .i64 ((i : Int) + 1) = ((i + 1 : Nat) : Int) := (by first | (rw [wr64 (by omega) (by omega)]; omega) | (simp only [IntKind.wrap_i64]; omega))
    have htk : fl key (P.take (i + 1)) = fl key (P.take i) ++ if (P[i].1 != key) = true then [P[i]] else [] := by
      unfold fl
      rw [← List.take_append_getElem hiL, List.filter_append]
      congr 1
      by_cases he : (P[i].1 != key) = true
      · rw [if_pos he]; simp only [List.filter_cons, he, if_true, List.filter_nil]
      · rw [if_neg he]; simp only [List.filter_cons, he, List.filter_nil]; rfl
    have hfl : (fl key (P.take i)).length ≤ i := by unfold fl; refine Nat.le_trans (List.length_filter_le _ _) ?_; rw [List.length_take]; omega
    refine ld0 B2 (rp.ld1 (c := .int .u32) (k := 0) (x := P[i].1) hiL hiL rfl (br_of (fun he => ?_) (fun he => ?_)))
    · have he : (P[i].1 != key) = true := he
      rw [if_pos he] at htk
      refine ld0 B2 (rp.ld hiL hiL ?_)
      refine Grow.p1 apP (z := P[i]) g2 (by omega) (by omega) fun a3 c3 h3 g3 => ?_
      rw [ez]
      refine ⟨⟨i + 1, rfl, hiL, ?_, ?_⟩, (by first | omega | (dsimp only; omega) | (simp only []; omega))⟩
      · rw [htk, List.length_append]; rfl
      · rw [htk]; exact g3
    · have he : ¬ (P[i].1 != key) = true := by rw [show (P[i].1 != key) = false from he]; simp
      rw [if_neg he, List.append_nil] at htk
      rw [ez]
      exact ⟨⟨i + 1, rfl, hiL, by rw [htk], by rw [htk]; exact g2⟩, (by first | omega | (dsimp only; omega) | (simp only []; omega))⟩
  · have hlt : ¬ (i : Int) < (P.length : Int) := of_decide_eq_false hlt
    have : i = P.length := by omega
    subst this
    rw [List.take_length] at g2 ⊢
    refine ld0 B2 ?_
    rw [add_mk]
    refine st_blk B2 (by simp) fun h3 b3 o3 => ?_
    have hlo : ∀ g, blkOf oa = some g → h.size ≤ g := fun g hg => by
      rcases g2.at_ with e | ⟨b, e, hb⟩
      · exact hr0 g (e ▸ hg)
      · rw [e] at hg; injection hg with hg; have := n1.size; omega
    have b3 : Blk h3 q #[.slice oa (fl key P).length oc, .int .i64 room] T := b3
    refine ⟨?_, ⟨oa, oc, T, b3, ?_, fun g hg => by have := hlo g hg; omega⟩, n2.upd.trans o3.upd⟩
    · exact congrArg Value.bool (decide_eq_decide.2 ⟨fun h => Int.ofNat_lt.1 h, fun h => Int.ofNat_lt.2 h⟩)
    · exact g2.row.keep (by rw [o3.size]; exact Nat.le_refl _) fun g hg hl => o3.same g (by have := hlo g hg; omega)
theorem put9_ok (q : Nat) (key sl : Int) (h : Heap) (P : List Pq) (room : Int) (hl : P.length ≤ 100) (R : RI h q P room) :
    CallsH Tryd.prog 20 [.pointer (some ⟨q, 0, none⟩), .int .u32 key, .int .i64 sl] h fun v h' =>
      (((lk P key).isSome = true ∨ (P.length : Int) < room) ∧ v = .bool true ∧ Upd q h h' ∧ ∃ i, i ≤ (fl key P).length ∧ (∀ z ∈ (fl key P).take i, z.1 < key) ∧ (∀ hi : i < (fl key P).length, ¬ (fl key P)[i].1 < key) ∧ RI h' q ((fl key P).take i ++ [(key, sl)] ++ (fl key P).drop i) room) ∨
      (¬ ((lk P key).isSome = true ∨ (P.length : Int) < room) ∧ v = .bool false ∧ h' = h) := by
  refine fun_ok hm' Tryd.func20 (by kernel_rfl) (F20_eq _ _ _ _ h) ?_
  unfold F20
  refine call_of (get9_ok q key h P room hl R) ?_
  rintro v h' ⟨rfl, hh⟩; subst h'
  refine ⟨((lk P key).getD 0, (lk P key).isSome), rfl, cut_q (ts := []) (fun _ h' => h' = h ∧ ((lk P key).isSome = true ∨ (P.length : Int) < room)) ?_ ?_⟩
  rotate_left
  · intro K hK
    obtain ⟨a, c, T, B, _, _⟩ := R
    refine br_of (fun hs => ld0 B (ld1 B (br_of (fun hf => .inr ⟨?_, rfl, rfl⟩) fun hf => hK () _ ⟨rfl, .inr ?_⟩))) fun hs => hK () _ ⟨rfl, .inl (by simpa using hs)⟩
    · have hf : (P.length : Int) ≥ room := of_decide_eq_true hf
      have hs : (lk P key).isSome = false := by simpa using hs
      rintro (e | e)
      · rw [hs] at e; cases e
      · omega
    · have hf : ¬ (P.length : Int) ≥ room := of_decide_eq_false hf
      omega
  rintro _ h' ⟨hh, hroom⟩ _; subst h'
  refine call_of (drop9_ok q key h P room hl R) ?_
  rintro v h1 ⟨rfl, R1, u1⟩
  have hql : q < h.size := by obtain ⟨a, c, T, B, _⟩ := R; exact B.lt
  have hQl : (fl key P).length ≤ 100 := by unfold fl; exact Nat.le_trans (List.length_filter_le _ _) hl
  refine ⟨_, rfl, ?_⟩
  generalize fl key P = Q at R1 hQl ⊢
  obtain ⟨a, c, T, B, row, l⟩ := R1
  have hcap := row.le
  have hq1 := B.lt
  refine new_of fun h2 b2 n2 s2 => ?_
  have hr0 : ∀ b : Nat, blkOf (some (⟨h1.size, 0, none⟩ : Addr)) = some b → h1.size ≤ b := fun b e => by injection e with e; change h1.size = b at e; omega
  have fin : ∀ {K : Heap → Prop} (i : Nat) (oa : Option Addr) (oc : Nat) (h3 : Heap), i ≤ Q.length → (∀ z ∈ Q.take i, z.1 < key) → (∀ hi : i < Q.length, ¬ Q[i].1 < key) → Grow h2 (blkOf (some (⟨h1.size, 0, none⟩ : Addr))) h3 TP 2 oa (Q.take i).length oc (pv (Q.take i)) → (∀ h', Upd q h h' → RI h' q (Q.take i ++ [(key, sl)] ++ Q.drop i) room → K h') →
      ldW .slice (Addr.add ⟨q, 0, none⟩ 0) (fun (x36 : Option Addr × Nat × Nat) =>
  slW x36.1 x36.2.2 2 (i : Int) (((x36.2.1 : Nat) : Int)) (((x36.2.2 : Nat) : Int)) (fun b37 n38 c39 =>
  newW (.cells #[.int .u32 key, .int .i64 sl] TP) (fun a40 h41 =>
  apW Tryd.prog #[60, 60] #[.slice oa (Q.take i).length oc, .slice (some a40) 1 1] (fun b42 n43 c44 h45 =>
  (cellH h45 (Addr.add ⟨q, 0, none⟩ 0) = some (.slice x36.1 x36.2.1 x36.2.2) ∧ apW Tryd.prog #[60, 60] #[.slice b42 n43 c44, .slice b37 n38 c39] (fun b46 n47 c48 h49 =>
  (cellH h49 (Addr.add ⟨q, 0, none⟩ 0) = some (.slice x36.1 x36.2.1 x36.2.2) ∧ stW (Addr.add ⟨q, 0, none⟩ 0) (.slice b46 n47 c48) (fun h50 =>
  K h50) h49)) h45)) h41) h3)) h3 := fun {K} i oa oc h3 hi _ _ g3 hK => by
    have n3 : New h1 h3 := g3.upd.grow n2 hr0
    refine ld0 (B.new n3) ?_
    dsimp only
    refine ⟨⟨by omega, by omega, by omega, by omega⟩, ?_⟩
    rw [Int.toNat_natCast i, Int.toNat_natCast Q.length, Int.toNat_natCast c]
    have rs := Pr.drop (Pr.row row) c i hcap
    refine Grow.p1 apP (z := (key, sl)) g3 (by rw [List.length_take]; omega) (by omega) fun a4 c4 h4 g4 => ?_
    have n4 : New h1 h4 := g4.upd.grow n2 hr0
    refine ⟨by rw [add_mk, cellH_blk (B.new n4)]; rfl, ?_⟩
    refine Grow.ps apP g4 (rs.new n4) (by rw [List.length_drop]) (by simp; omega) (by omega) fun a5 c5 h5 g5 _ => ?_
    have n5 : New h1 h5 := g5.upd.grow n2 hr0
    refine ⟨by rw [add_mk, cellH_blk (B.new n5)]; rfl, ?_⟩
    rw [add_mk]
    refine st_blk (B.new n5) (by simp) fun h6 b6 o6 => hK h6 (u1.trans (n5.upd.trans o6.upd)) ?_
    have hlo : ∀ g, blkOf a5 = some g → h1.size ≤ g := fun g hg => by
      rcases g5.at_ with e | ⟨b, e, hb⟩
      · exact hr0 g (e ▸ hg)
      · rw [e] at hg; injection hg with hg; have := n2.size; omega
    exact ⟨a5, c5, T, b6, g5.row.keep (by rw [o6.size]; exact Nat.le_refl _) fun g hg _ => o6.same g (by have := hlo g hg; omega), fun g hg => by have := hlo g hg; omega⟩
  refine ⟨fun (s : (Option Addr × Nat × Nat) × Int) h' => ∃ i : Nat, s.2 = i ∧ i ≤ Q.length ∧ s.1.2.1 = (Q.take i).length ∧ (∀ z ∈ Q.take i, z.1 < key) ∧ Grow h2 (blkOf (some (⟨h1.size, 0, none⟩ : Addr))) h' TP 2 s.1.1 s.1.2.1 s.1.2.2 (pv (Q.take i)), fun (s : (Option Addr × Nat × Nat) × Int) _ => ((Q.length : Int) - s.2).toNat, ⟨0, rfl, Nat.zero_le _, rfl, by simp, Grow.start (RowS.nil' h2 TP 2 (some ⟨h1.size, 0, none⟩))⟩, ?_⟩
  rintro ⟨⟨oa, on, oc⟩, s⟩ j h3 ⟨i, hs, hi, hon, hall, g3⟩
  have hs : s = (i : Int) := hs
  have hon : on = (Q.take i).length := hon
  have g3 : Grow h2 (blkOf (some (⟨h1.size, 0, none⟩ : Addr))) h3 TP 2 oa on oc (pv (Q.take i)) := g3
  subst hs; subst hon
  have n3 : New h1 h3 := g3.upd.grow n2 hr0
  have B3 := B.new n3
  have rp := Pr.row (row.new n3)
  refine cut_q (ts := []) (fun _ h' => h' = h3 ∧ ∃ hiL : i < Q.length, Q[i].1 < key) ?_ ?_
  rotate_left
  · intro K hK
    refine ld0 B3 (br_of (fun hlt => ?_) (fun hlt => ?_))
    · have hlt : (i : Int) < (Q.length : Int) := of_decide_eq_true hlt
      have hiL : i < Q.length := by omega
      refine ld0 B3 (rp.ld1 (c := .int .u32) (k := 0) (x := Q[i].1) hiL hiL rfl (br_of (fun he => hK () _ ⟨rfl, hiL, of_decide_eq_true he⟩) (fun he => ?_)))
      have he : ¬ Q[i].1 < key := of_decide_eq_false he
      exact fin i oa oc h3 hi hall (fun _ => he) g3 fun h' u r => .inl ⟨hroom, rfl, u, i, hi, hall, fun _ => he, r⟩
    · have hlt : ¬ (i : Int) < (Q.length : Int) := of_decide_eq_false hlt
      exact fin i oa oc h3 hi hall (fun hh => by omega) g3 fun h' u r => .inl ⟨hroom, rfl, u, i, hi, hall, fun hh => by omega, r⟩
  rintro _ h' ⟨hh, hiL, hlk⟩ _; subst h'
  have ez : IntKind.wrap .i64 ((i : Int) + 1) = ((i + 1 : Nat) : Int) := (by first | (rw [wr64 (by omega) (by omega)]; omega) | (simp only [IntKind.wrap_i64]; omega))
  refine ld0 B3 (rp.ld hiL hiL ?_)
  refine Grow.p1 apP (z := Q[i]) g3 (by rw [List.length_take]; omega) (by omega) fun a4 c4 h4 g4 => ?_
  rw [ez]
  have htk : Q.take (i + 1) = Q.take i ++ [Q[i]] := (List.take_append_getElem hiL).symm
  refine ⟨⟨i + 1, rfl, hiL, ?_, fun z hz => ?_, ?_⟩, (by first | omega | (dsimp only; omega) | (simp only []; omega))⟩
  · rw [htk, List.length_append]; rfl
  · rw [htk] at hz
    rcases List.mem_append.1 hz with hz | hz
    · exact hall z hz
    · obtain rfl := List.mem_singleton.1 hz; exact hlk
  · rw [htk]; exact g4
theorem keys9_ok (q : Nat) (h : Heap) (P : List Pq) (room : Int) (hl : P.length ≤ 100) (R : RI h q P room) :
    CallsH Tryd.prog 28 [.pointer (some ⟨q, 0, none⟩)] h fun v h' => ∃ a' c', v = .slice a' (P.map Prod.fst).length c' ∧ Ar .u32 h' a' (P.map Prod.fst) ∧ New h h' := by
  refine fun_ok hm' Tryd.func28 (by kernel_rfl) (F28_eq _ _ h) ?_
  obtain ⟨a, c, T, B, row, l⟩ := R
  unfold F28
  refine new_of fun h0 b0 n0 s0 => ?_
  have hr0 : ∀ b : Nat, blkOf (some (⟨h.size, 0, none⟩ : Addr)) = some b → h.size ≤ b := fun b e => by injection e with e; change h.size = b at e; omega
  refine ⟨fun (s : (Option Addr × Nat × Nat) × Int) h' => ∃ i : Nat, s.2 = i ∧ i ≤ P.length ∧ s.1.2.1 = ((P.take i).map Prod.fst).length ∧ Grow h0 (blkOf (some (⟨h.size, 0, none⟩ : Addr))) h' So.TE 1 s.1.1 s.1.2.1 s.1.2.2 (((P.take i).map Prod.fst).map (Value.int .u32)), fun (s : (Option Addr × Nat × Nat) × Int) _ => ((P.length : Int) - s.2).toNat, ⟨0, rfl, Nat.zero_le _, rfl, Grow.start (RowS.nil' h0 So.TE 1 (some ⟨h.size, 0, none⟩))⟩, ?_⟩
  rintro ⟨⟨oa, on, oc⟩, s⟩ j h1 ⟨i, hs, hi, hon, g1⟩
  simp only [] at hs hon g1
  subst hs; subst hon
  have n01 : New h h1 := g1.upd.grow n0 hr0
  have B1 := B.new n01
  have rp := Pr.row (row.new n01)
  refine ld0 B1 (br_of (fun hlt => ?_) (fun hlt => ?_))
  · have hlt : (i : Int) < (P.length : Int) := of_decide_eq_true hlt
    have hiL : i < P.length := by omega
    have htk : P.take (i + 1) = P.take i ++ [P[i]] := (List.take_append_getElem hiL).symm
    refine ld0 B1 (rp.ld1 (c := .int .u32) (k := 0) (x := P[i].1) hiL hiL rfl ?_)
    refine Grow.push apU (v := .int .u32 P[i].1) g1 rfl (by simp; omega) (by omega) fun a3 c3 h3 g3 => ?_
    have ez : IntKind.wrap .i64 ((i : Int) + 1) = ((i + 1 : Nat) : Int) := (by first | (rw [wr64 (by omega) (by omega)]; omega) | (simp only [IntKind.wrap_i64]; omega))
    rw [ez]
    have e3 : (P.take (i + 1)).map Prod.fst = (P.take i).map Prod.fst ++ [P[i].1] := by rw [htk, List.map_append]; rfl
    refine ⟨⟨i + 1, rfl, hiL, by rw [e3, List.length_append]; rfl, ?_⟩, (by first | omega | (dsimp only; omega) | (simp only []; omega))⟩
    rw [e3, List.map_append]; exact g3
  · have hlt : ¬ (i : Int) < (P.length : Int) := of_decide_eq_false hlt
    have : i = P.length := by omega
    subst this
    rw [List.take_length] at g1 ⊢
    exact ⟨oa, oc, rfl, (g1.got n0 hr0).ar, n01⟩
end Go.Proofs.YtfanjfbenhocnaaDoor.Ix9
