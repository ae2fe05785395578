/-
  Package victim: what it asks of zones, and its comparison.
-/
import Derived.Test.YticppjmldlhbiaaWVic
import Derived.Test.YticppjmldlhbiaaSoZ
import Derived.Test.YticppjmldlhbiaaReads
namespace Go.Proofs.Yticppjmldlhbiaa.VicW
open Go.Pl Go.Proofs.Yticppjmldlhbiaa.W Go.Sort Go.Proofs.Yticppjmldlhbiaa.Vic
open Go.Proofs.Yticppjmldlhbiaa.So (hm' encL El TE lt CmpOk)
theorem ix_of {i n : Nat} {F : Prop} (h : i < n) (hF : F) : idxW (i : Int) n true F := ⟨⟨⟨by omega, by omega⟩, rfl⟩, hF⟩
/- ROWS OF ZONES. -/
def zv (zs : List Z) : List Value := zs.flatMap encL
theorem zv_len (zs : List Z) : (zv zs).length = zs.length * 3 := by
  induction zs with
  | nil => rfl
  | cons z zs ih => simp only [zv, List.flatMap_cons, List.length_append, List.length_cons] at *; rw [ih]; show 3 + zs.length * 3 = _; omega
theorem zv_get : ∀ {zs : List Z} {i j : Nat} {z : Z}, zs[i]? = some z → j < 3 → (zv zs)[i * 3 + j]? = (encL z)[j]?
  | z :: zs, 0, j, z', h, hj => by
    simp at h; subst h
    rw [zv, List.flatMap_cons, List.getElem?_append_left (by show 0 * 3 + j < 3; omega)]; simp
  | z :: zs, i + 1, j, z', h, hj => by
    have ih := zv_get (zs := zs) (i := i) (j := j) (z := z') (by simpa using h) hj
    rw [zv, List.flatMap_cons, List.getElem?_append_right (by show 3 ≤ (i + 1) * 3 + j; omega), ← ih]
    show (zv zs)[(i + 1) * 3 + j - 3]? = _
    congr 1; omega
theorem zv_app (a b : List Z) : zv (a ++ b) = zv a ++ zv b := by simp [zv]
/-- Zones stand one behind the other from a on. -/
def Zr (h : Heap) (a : Option Addr) (zs : List Z) : Prop := ∀ (i : Nat) (z : Z), zs[i]? = some z → ∃ b o, a = some ⟨b, o, none⟩ ∧ b < h.size ∧ ∀ j, j < 3 → cellH h ⟨b, o + (i * 3 + j), none⟩ = (encL z)[j]?
theorem Zr.new {h h' : Heap} {a : Option Addr} {zs : List Z} (r : Zr h a zs) (n : New h h') : Zr h' a zs := fun i z hi => by
  obtain ⟨b, o, e, hb, hc⟩ := r i z hi
  exact ⟨b, o, e, Nat.lt_of_lt_of_le hb n.size, fun j hj => by rw [cellH_same (n.same b hb)]; exact hc j hj⟩
theorem Zr.own {h : Heap} {base n c : Nat} {a : Option Addr} {zs : List Z} (o : OwnH h base TE 3 a n c (zv zs)) : Zr h a zs := fun i z hi => by
  have hj0 := zv_get hi (show 0 < 3 by omega)
  obtain ⟨g, e, hg, _⟩ := o.cell (j := i * 3 + 0) (u := .int .i64 z.1) (by rw [hj0]; rfl)
  refine ⟨g, 0, e, (o.blk_ge g (by rw [e]; rfl)).2, fun j hj => ?_⟩
  have hv := zv_get hi hj
  have hjl : j < (encL z).length := hj
  rw [List.getElem?_eq_getElem hjl] at hv ⊢
  obtain ⟨g', e', _, hc⟩ := o.cell hv
  rw [e] at e'; injection e' with e'; injection e' with e'; subst e'
  rw [Nat.zero_add]; exact hc
theorem Zr.ld {h : Heap} {a : Option Addr} {zs : List Z} (r : Zr h a zs) {i m : Nat} (hi : i < zs.length) (hm : i < m) {F : Int × Int × Int → Prop} (hF : F (zs[i].1, zs[i].2.1, zs[i].2.2)) :
    ptrW a (fun p => idxW (i : Int) m true (ldAggW [.int .i64, .int .i64, .int .u32] (Addr.add p (Int.toNat (i : Int) * 3)) F h)) := by
  obtain ⟨b, o, rfl, hb, hc⟩ := r i _ (List.getElem?_eq_getElem hi)
  exact agg_at (k := 3) ((zs[i].1, zs[i].2.1, zs[i].2.2) : Int × Int × Int) (es := encL zs[i]) hc rfl rfl hm hF
/-- One field of a zone. -/
theorem Zr.ld1 {h : Heap} {a : Option Addr} {zs : List Z} (r : Zr h a zs) {i m k : Nat} {c : CTy} {x : c.T} (hi : i < zs.length) (hm : i < m) (hk : (encL zs[i])[k]? = some (c.val x)) {F : c.T → Prop} (hF : F x) :
    ptrW a (fun p => idxW (i : Int) m true (ldW c (Addr.add (Addr.add p (Int.toNat (i : Int) * 3)) k) F h)) := by
  obtain ⟨b, o, rfl, hb, hc⟩ := r i _ (List.getElem?_eq_getElem hi)
  have hk3 : k < 3 := (List.getElem?_eq_some_iff.1 hk).1
  refine ptr_of (ix_of hm (ld_of (c := c) x ?_ hF))
  rw [add_mk, add_mk, Int.toNat_natCast, Nat.add_assoc, hc k hk3]; exact hk
theorem Zr.take {h : Heap} {a : Option Addr} {zs : List Z} (r : Zr h a zs) (c k : Nat) (hc : zs.length ≤ c) : Zr h (sliceBase a 0 c 3) (zs.take k) := fun i z hi => by
  rw [List.getElem?_take] at hi
  split at hi
  · obtain ⟨b, o, rfl, hb, hcl⟩ := r i z hi
    have := (List.getElem?_eq_some_iff.1 hi).1
    refine ⟨b, o, ?_, hb, hcl⟩
    unfold sliceBase
    rw [if_neg (by omega)]; rfl
  · cases hi
/-- A beginning of a slice. -/
theorem pre_of {a : Option Addr} {c : Nat} {k : Nat} {F : Option Addr → Nat → Nat → Prop} (hk : k ≤ c) (hF : F (sliceBase a 0 c 3) k c) : slW a c 3 (0 : Int) (k : Int) ((c : Nat) : Int) F := by
  refine ⟨⟨by omega, by omega, by omega, by omega⟩, ?_⟩
  have e1 : Int.toNat (k : Int) - Int.toNat 0 = k := by simp
  have e2 : Int.toNat (c : Int) - Int.toNat 0 = c := by simp
  have e3 : Int.toNat (c : Int) = c := Int.toNat_natCast c
  rw [e1, e2, e3]; exact hF
theorem zeroZ : (zeroC Try.prog TE).size = 3 := by kernel_rfl
/- ARE ZONES RIGHT? PLAIN. -/
def goodsB (p : Int) : List Z → List Z → Bool
  | _, [] => true
  | pre, z :: zs => if z.1 < 0 then false else if z.2.1 < 0 then false else if z.2.1 > p then false else if pre.any (fun y => y.1 == z.1) then false else goodsB p (pre ++ [z]) zs
def rightB (p : Int) (l : List Z) : Bool := goodsB p [] l && decide (l.length ≤ 24)
theorem goodsB_spec {p : Int} : ∀ {l pre : List Z}, (pre.map Prod.fst).Nodup → goodsB p pre l = true → (∀ z ∈ l, 0 ≤ z.2.1 ∧ z.2.1 ≤ p ∧ 0 ≤ z.1) ∧ ((pre ++ l).map Prod.fst).Nodup
  | [], pre, h, _ => ⟨fun z hz => by simp at hz, by simpa using h⟩
  | z :: zs, pre, h, hg => by
    unfold goodsB at hg
    split at hg
    · cases hg
    split at hg
    · cases hg
    split at hg
    · cases hg
    split at hg
    · cases hg
    rename_i h1 h2 h3 h4
    have hn : ((pre ++ [z]).map Prod.fst).Nodup := by
      rw [List.map_append, List.nodup_append]
      refine ⟨h, by simp, fun a ha b hb e => h4 ?_⟩
      simp at hb
      obtain ⟨y, hy, rfl⟩ := List.mem_map.1 ha
      exact List.any_eq_true.2 ⟨y, hy, by simp [e, hb]⟩
    obtain ⟨g1, g2⟩ := goodsB_spec hn hg
    refine ⟨fun y hy => ?_, by simpa using g2⟩
    rcases List.mem_cons.1 hy with e | e
    · subst e; omega
    · exact g1 y e
theorem right_goods {p : Int} {l : List Z} (h : rightB p l = true) (ha : ∀ z ∈ l, 0 ≤ z.2.2 ∧ z.2.2 < 4294967296) : Goods p l ∧ l.length ≤ 24 := by
  unfold rightB at h
  rw [Bool.and_eq_true] at h
  obtain ⟨g1, g2⟩ := goodsB_spec (pre := []) List.nodup_nil h.1
  exact ⟨⟨fun z hz => ⟨(g1 z hz).1, (g1 z hz).2.1, (ha z hz).1, (ha z hz).2⟩, by simpa using g2⟩, of_decide_eq_true h.2⟩
/- ARE ZONES RIGHT? -/
theorem same_ok (h : Heap) (y z : Z) (q : Nat) (B : Blk h q (encL z).toArray TE) : CallsH Try.prog 55 [.agg #[.int .i64 y.1, .int .i64 y.2.1, .int .u32 y.2.2], .pointer (some ⟨q, 0, none⟩)] h fun v h' => v = .bool (y.1 == z.1) ∧ New h h' := by
  refine fun_ok hm' Try.func55 (by kernel_rfl) (F55_eq _ _ _ _ _ h) ?_
  unfold F55
  exact new_of fun h1 b1 n1 s1 => ld_of (c := .int .i64) y.1 (by rw [add_mk, cellH_blk b1]; rfl) (ld_of (c := .int .i64) z.1 (by rw [add_mk, cellH_blk (B.new n1)]; rfl) ⟨rfl, n1⟩)
theorem index_ok (h : Heap) (a : Option Addr) (c n : Nat) (zs : List Z) (z : Z) (q : Nat) (hn : n = zs.length) (hl : zs.length ≤ 1000000) (r : Zr h a zs) (B : Blk h q (encL z).toArray TE) :
    CallsH Try.prog 65 [.slice a n c, .func (.func 55) #[] #[.pointer (some ⟨q, 0, none⟩)]] h fun v h' => (∃ k, v = .int .i64 k ∧ decide (k ≥ 0) = zs.any fun y => y.1 == z.1) ∧ New h h' := by
  subst hn
  refine fun_ok hm' Try.func65 (by kernel_rfl) (F65_eq _ _ _ _ _ h) ?_
  unfold F65
  refine ⟨fun (s : Int) h' => ∃ i : Nat, s = i ∧ i ≤ zs.length ∧ New h h' ∧ ∀ y ∈ zs.take i, y.1 ≠ z.1, fun (s : Int) _ => ((zs.length : Int) - s).toNat, ⟨0, rfl, Nat.zero_le _, New.refl h, by simp⟩, ?_⟩
  rintro s j h1 ⟨i, rfl, hi, n1, hno⟩
  refine br_of (fun hlt => ?_) (fun hlt => ?_)
  · have hlt : (i : Int) < (zs.length : Int) := of_decide_eq_true hlt
    have hiL : i < zs.length := by omega
    refine (r.new n1).ld hiL hiL (callW_of (first := #[]) (cap := #[.pointer (some ⟨q, 0, none⟩)]) (same_ok h1 zs[i] z q (B.new n1)) ?_)
    rintro v h2 ⟨rfl, n2⟩
    refine ⟨_, rfl, br_of (fun he => ⟨⟨(i : Int), rfl, ?_⟩, n1.trans n2⟩) (fun he => ⟨⟨i + 1, (by first | (rw [wr64 (by omega) (by omega)]; omega) | (simp only [IntKind.wrap_i64]; omega)), hiL, n1.trans n2, fun y hy => ?_⟩, (by dsimp only; first | (rw [wr64 (by omega) (by omega)]; omega) | (rw [wr64 (by omega) (by omega), wr64 (by omega) (by omega)]; omega) | (simp only [IntKind.wrap_i64]; omega))⟩)⟩
    · rw [decide_eq_true (by omega)]
      exact (List.any_eq_true.2 ⟨zs[i], List.getElem_mem hiL, he⟩).symm
    · rw [← List.take_append_getElem hiL] at hy
      rcases List.mem_append.1 hy with hy | hy
      · exact hno y hy
      · obtain rfl := List.mem_singleton.1 hy; simpa using he
  · have hlt : ¬ (i : Int) < (zs.length : Int) := of_decide_eq_false hlt
    have : i = zs.length := by omega
    subst this
    refine ⟨⟨-1, rfl, ?_⟩, n1⟩
    rw [decide_eq_false (by omega)]
    rw [List.take_length] at hno
    exact (List.any_eq_false.2 fun y hy => by simpa using hno y hy).symm
theorem any_ok (h : Heap) (a : Option Addr) (c n : Nat) (zs : List Z) (z : Z) (q : Nat) (hn : n = zs.length) (hl : zs.length ≤ 1000000) (r : Zr h a zs) (B : Blk h q (encL z).toArray TE) :
    CallsH Try.prog 54 [.slice a n c, .func (.func 55) #[] #[.pointer (some ⟨q, 0, none⟩)]] h fun v h' => v = .bool (zs.any fun y => y.1 == z.1) ∧ New h h' := by
  refine fun_ok hm' Try.func54 (by kernel_rfl) (F54_eq _ _ _ _ _ h) ?_
  unfold F54
  refine call_of (index_ok h a c n zs z q hn hl r B) ?_
  rintro v h' ⟨⟨k, rfl, hk⟩, n1⟩
  exact ⟨k, rfl, by rw [hk], n1⟩
theorem right_ok (h : Heap) (p : Int) (a : Option Addr) (c n : Nat) (zs : List Z) (hn : n = zs.length) (hl : zs.length ≤ 1000000) (hc : zs.length ≤ c) (r : Zr h a zs) :
    CallsH Try.prog 33 [.int .i64 p, .slice a n c] h fun v h' => v = .bool (rightB p zs) ∧ New h h' := by
  subst hn
  refine fun_ok hm' Try.func33 (by kernel_rfl) (F33_eq _ _ _ _ _ h) ?_
  unfold F33
  obtain ⟨G, hG⟩ : ∃ G, G = goodsB p [] zs := ⟨_, rfl⟩
  refine ⟨fun (s : Int) h' => ∃ i : Nat, s = i ∧ i ≤ zs.length ∧ New h h' ∧ goodsB p (zs.take i) (zs.drop i) = G, fun (s : Int) _ => ((zs.length : Int) - s).toNat, ⟨0, rfl, Nat.zero_le _, New.refl h, hG.symm⟩, ?_⟩
  rintro s j h1 ⟨i, rfl, hi, n1, hg⟩
  refine br_of (fun hlt => ?_) (fun hlt => ?_)
  · have hlt : (i : Int) < (zs.length : Int) := of_decide_eq_true hlt
    have hiL : i < zs.length := by omega
    rw [List.drop_eq_getElem_cons hiL] at hg
    unfold goodsB at hg
    have no : ∀ {h' : Heap}, New h h' → false = G → Value.bool false = .bool (rightB p zs) ∧ New h h' := fun n e => ⟨by unfold rightB; rw [← hG, ← e]; rfl, n⟩
    refine (r.new n1).ld hiL hiL (new_stL (by rw [zeroZ]; rfl) fun h2 b2 n2 s2 => ?_)
    have b2 : Blk h2 h1.size (encL zs[i]).toArray TE := b2
    have n12 := n1.trans n2
    have cl : ∀ (k : Nat) (v : Value), (encL zs[i])[k]? = some v → cellH h2 (Addr.add ⟨h1.size, 0, none⟩ k) = some v := fun k v hv => by rw [add_mk, cellH_blk b2, Nat.zero_add]; simpa using hv
    refine ld_of (c := .int .i64) zs[i].1 (cl 0 _ rfl) (br_of (fun h1 => no n12 ?_) fun h1 => ld_of (c := .int .i64) zs[i].2.1 (cl 1 _ rfl) (br_of (fun h3 => no n12 ?_) fun h3 => ld_of (c := .int .i64) zs[i].2.1 (cl 1 _ rfl) (br_of (fun h4 => no n12 ?_) fun h4 => pre_of (by omega) ?_)))
    · rw [if_pos (of_decide_eq_true h1)] at hg; exact hg
    · rw [if_neg (of_decide_eq_false h1), if_pos (of_decide_eq_true h3)] at hg; exact hg
    · rw [if_neg (of_decide_eq_false h1), if_neg (of_decide_eq_false h3), if_pos (of_decide_eq_true h4)] at hg; exact hg
    rw [if_neg (of_decide_eq_false h1), if_neg (of_decide_eq_false h3), if_neg (of_decide_eq_false h4)] at hg
    refine call_of (any_ok h2 _ c i (zs.take i) zs[i] _ (by rw [List.length_take]; omega) (by rw [List.length_take]; omega) ((r.new n12).take c i hc) b2) ?_
    rintro v h3' ⟨rfl, n3⟩
    refine ⟨_, rfl, br_of (fun h5 => no (n12.trans n3) ?_) fun h5 => ⟨⟨i + 1, (by first | (rw [wr64 (by omega) (by omega)]; omega) | (simp only [IntKind.wrap_i64]; omega)), hiL, n12.trans n3, ?_⟩, (by dsimp only; first | (rw [wr64 (by omega) (by omega)]; omega) | (rw [wr64 (by omega) (by omega), wr64 (by omega) (by omega)]; omega) | (simp only [IntKind.wrap_i64]; omega))⟩⟩
    · rw [if_pos h5] at hg; exact hg
    · rw [if_neg (by rw [h5]; simp), List.take_append_getElem hiL] at hg; exact hg
  · have hlt : ¬ (i : Int) < (zs.length : Int) := of_decide_eq_false hlt
    have : i = zs.length := by omega
    subst this
    rw [List.drop_length] at hg
    refine ⟨?_, n1⟩
    have hg : true = G := by rw [← hg]; simp [goodsB]
    unfold rightB
    rw [← hG, ← hg, Bool.true_and]
    show Value.bool _ = Value.bool _
    congr 1
    rw [decide_eq_decide]; omega
/- THE COMPARISON. -/
def cmpI (x y : Int) : Int := if x < y then -1 else if x > y then 1 else 0
theorem nanI_ok (x : Int) (h : Heap) : CallsH Try.prog 79 [.int .i64 x] h fun v h' => v = .bool false ∧ h' = h := by
  refine fun_ok hm' Try.func79 (by kernel_rfl) (F79_eq _ _ h) ?_
  unfold F79
  exact ⟨by simp, rfl⟩
theorem nanU_ok (x : Int) (h : Heap) : CallsH Try.prog 80 [.int .u64 x] h fun v h' => v = .bool false ∧ h' = h := by
  refine fun_ok hm' Try.func80 (by kernel_rfl) (F80_eq _ _ h) ?_
  unfold F80
  exact ⟨by simp, rfl⟩
theorem cmpI_ok (x y : Int) (h : Heap) : CallsH Try.prog 70 [.int .i64 x, .int .i64 y] h fun v h' => v = .int .i64 (cmpI x y) ∧ h' = h := by
  refine fun_ok hm' Try.func70 (by kernel_rfl) (F70_eq _ _ _ h) ?_
  unfold F70
  refine call_of (nanI_ok x h) ?_
  rintro v h' ⟨rfl, hh⟩; subst h'
  refine ⟨false, rfl, call_of (nanI_ok y h) ?_⟩
  rintro v h' ⟨rfl, hh⟩; subst h'
  refine ⟨false, rfl, br_f rfl (br_f rfl (br_of (fun h1 => ⟨?_, rfl⟩) fun h1 => br_of (fun h2 => ⟨?_, rfl⟩) fun h2 => ⟨?_, rfl⟩))⟩
  · rw [cmpI, if_pos (of_decide_eq_true h1)]
  · rw [cmpI, if_neg (of_decide_eq_false h1), if_pos (of_decide_eq_true h2)]
  · rw [cmpI, if_neg (of_decide_eq_false h1), if_neg (of_decide_eq_false h2)]
theorem cmpU_ok (x y : Int) (h : Heap) : CallsH Try.prog 71 [.int .u64 x, .int .u64 y] h fun v h' => v = .int .i64 (cmpI x y) ∧ h' = h := by
  refine fun_ok hm' Try.func71 (by kernel_rfl) (F71_eq _ _ _ h) ?_
  unfold F71
  refine call_of (nanU_ok x h) ?_
  rintro v h' ⟨rfl, hh⟩; subst h'
  refine ⟨false, rfl, call_of (nanU_ok y h) ?_⟩
  rintro v h' ⟨rfl, hh⟩; subst h'
  refine ⟨false, rfl, br_f rfl (br_f rfl (br_of (fun h1 => ⟨?_, rfl⟩) fun h1 => br_of (fun h2 => ⟨?_, rfl⟩) fun h2 => ⟨?_, rfl⟩))⟩
  · rw [cmpI, if_pos (of_decide_eq_true h1)]
  · rw [cmpI, if_neg (of_decide_eq_false h1), if_pos (of_decide_eq_true h2)]
  · rw [cmpI, if_neg (of_decide_eq_false h1), if_neg (of_decide_eq_false h2)]
def orI (x y : Int) : Int := if x ≠ 0 then x else y
theorem or_ok (x y : Int) (q : Nat) (h : Heap) {T : TypeId} (B : Blk h q #[.int .i64 x, .int .i64 y] T) : CallsH Try.prog 72 [.slice (some ⟨q, 0, none⟩) 2 2] h fun v h' => v = .int .i64 (orI x y) ∧ h' = h := by
  refine fun_ok hm' Try.func72 (by kernel_rfl) (F72_eq _ _ _ _ h) ?_
  unfold F72
  have c : ∀ (i : Nat) (v : Int), (#[.int .i64 x, .int .i64 y] : Array Value)[i]? = some (.int .i64 v) → cellH h (Addr.add ⟨q, 0, none⟩ (Int.toNat (i : Int) * 1)) = some (.int .i64 v) := fun i v hv => by rw [add_mk, cellH_blk B, Int.toNat_natCast, Nat.zero_add, Nat.mul_one]; exact hv
  refine ⟨fun (s : Int) h' => h' = h ∧ ∃ i : Nat, s = (i : Int) ∧ (i = 0 ∨ (i = 1 ∧ x = 0) ∨ (i = 2 ∧ x = 0 ∧ y = 0)), fun (s : Int) _ => (2 - s).toNat, ⟨rfl, 0, rfl, .inl rfl⟩, ?_⟩
  rintro s j h' ⟨hh, i, rfl, hs⟩; subst h'
  refine br_of (fun hlt => ?_) (fun hlt => ?_)
  · have hlt : (i : Int) < ((2 : Nat) : Int) := of_decide_eq_true hlt
    rcases hs with rfl | ⟨rfl, hx⟩ | ⟨rfl, _⟩
    · refine ptr_of (ix_of (i := 0) (by omega) (ld_of (c := .int .i64) x (c 0 x rfl) (br_of (fun hx => ⟨?_, rfl⟩) (fun hx => ⟨⟨rfl, 1, (by first | (rw [wr64 (by omega) (by omega)]; omega) | (simp only [IntKind.wrap_i64]; omega)), .inr (.inl ⟨rfl, by simpa using hx⟩)⟩, (by dsimp only; first | (rw [wr64 (by omega) (by omega)]; omega) | (rw [wr64 (by omega) (by omega), wr64 (by omega) (by omega)]; omega) | (simp only [IntKind.wrap_i64]; omega))⟩))))
      rw [orI, if_pos (by simpa using hx)]
    · refine ptr_of (ix_of (i := 1) (by omega) (ld_of (c := .int .i64) y (c 1 y rfl) (br_of (fun hy => ⟨?_, rfl⟩) (fun hy => ⟨⟨rfl, 2, (by first | (rw [wr64 (by omega) (by omega)]; omega) | (simp only [IntKind.wrap_i64]; omega)), .inr (.inr ⟨rfl, hx, by simpa using hy⟩)⟩, (by dsimp only; first | (rw [wr64 (by omega) (by omega)]; omega) | (rw [wr64 (by omega) (by omega), wr64 (by omega) (by omega)]; omega) | (simp only [IntKind.wrap_i64]; omega))⟩))))
      rw [orI, if_neg (by simp [hx])]
    · omega
  · have hlt : ¬ (i : Int) < ((2 : Nat) : Int) := of_decide_eq_false hlt
    rcases hs with rfl | ⟨rfl, hx⟩ | ⟨rfl, hx, hy⟩
    · omega
    · omega
    · exact ⟨by rw [orI, if_neg (by simp [hx]), hy], rfl⟩
theorem wrU {z : Int} (h0 : 0 ≤ z) (h1 : z < 18446744073709551616) : IntKind.wrap .u64 z = z := by simp [IntKind.wrap, IntKind.bits, IntKind.signed]; omega
theorem good_val {p : Int} {z y : Z} (hz : okZ p z) (hy : okZ p y) (hp : p ≤ 16) (hA : z.2.2 < 4294967296) : 0 ≤ goodZ p z y ∧ goodZ p z y < 18446744073709551616 ∧
    IntKind.wrap .u64 (IntKind.wrap .u64 (IntKind.wrap .u64 (IntKind.wrap .u64 z.2.2 + 1) * IntKind.wrap .u64 (IntKind.wrap .i64 (p - z.2.1))) * IntKind.wrap .u64 (IntKind.wrap .i64 (y.2.1 + 1))) = goodZ p z y := by
  have h1 := hz.v0; have h2 := hz.v1; have h3 := hz.a0; have h4 := hy.v0; have h5 := hy.v1
  have e1 : 0 ≤ (z.2.2 + 1) * (p - z.2.1) ∧ (z.2.2 + 1) * (p - z.2.1) ≤ 4294967296 * 16 := ⟨Int.mul_nonneg (by omega) (by omega), Int.mul_le_mul (by omega) (by omega) (by omega) (by omega)⟩
  have e2 : 0 ≤ goodZ p z y ∧ goodZ p z y ≤ 4294967296 * 16 * 17 := ⟨Int.mul_nonneg e1.1 (by omega), Int.mul_le_mul e1.2 (by omega) (by omega) (by omega)⟩
  refine ⟨e2.1, by omega, ?_⟩
  rw [wr64 (n := p - z.2.1) (by omega) (by omega), wr64 (n := y.2.1 + 1) (by omega) (by omega), wrU (z := z.2.2) (by omega) (by omega), wrU (z := z.2.2 + 1) (by omega) (by omega), wrU (z := p - z.2.1) (by omega) (by omega), wrU (z := y.2.1 + 1) (by omega) (by omega), wrU e1.1 (by omega)]
  exact wrU e2.1 (by unfold goodZ at e2; omega)
theorem good_ok {p : Int} (z y : Z) (q : Nat) (h : Heap) {T : TypeId} (B : Blk h q #[.int .i64 p] T) (hz : okZ p z) (hy : okZ p y) (hp : p ≤ 16) (hA : z.2.2 < 4294967296) :
    CallsH Try.prog 66 [.agg #[.int .i64 z.1, .int .i64 z.2.1, .int .u32 z.2.2], .agg #[.int .i64 y.1, .int .i64 y.2.1, .int .u32 y.2.2], .pointer (some ⟨q, 0, none⟩)] h fun v h' => v = .int .u64 (goodZ p z y) ∧ New h h' := by
  refine fun_ok hm' Try.func66 (by kernel_rfl) (F66_eq _ _ _ _ _ _ _ _ h) ?_
  unfold F66
  refine new_of fun h1 b1 n1 s1 => new_of fun h2 b2 n2 s2 => ld_of (c := .int .u32) z.2.2 (by rw [add_mk, cellH_blk (b1.new n2)]; rfl) (ld_of (c := .int .i64) p (by rw [cellH_blk (B.new (n1.trans n2))]; rfl) (ld_of (c := .int .i64) z.2.1 (by rw [add_mk, cellH_blk (b1.new n2)]; rfl) (ld_of (c := .int .i64) y.2.1 (by rw [add_mk, cellH_blk b2]; rfl) ⟨?_, n1.trans n2⟩)))
  rw [(good_val hz hy hp hA).2.2]
theorem or_cmp (x y i j : Int) : decide (orI (cmpI x y) (cmpI i j) < 0) = if x ≠ y then decide (x < y) else decide (i < j) := by
  have hc : ∀ a b : Int, decide (cmpI a b < 0) = decide (a < b) := fun a b => by
    unfold cmpI
    by_cases h1 : a < b
    · rw [if_pos h1, decide_eq_true h1]; rfl
    · rw [if_neg h1, decide_eq_false h1]
      split <;> rfl
  by_cases e : x = y
  · subst e
    have h0 : cmpI x x = 0 := by unfold cmpI; rw [if_neg (by omega), if_neg (by omega)]
    rw [if_neg (fun h => h rfl), orI, h0, if_neg (fun h => h rfl)]; exact hc i j
  · have h0 : cmpI x y ≠ 0 := by
      unfold cmpI
      by_cases h1 : x < y
      · rw [if_pos h1]; omega
      · rw [if_neg h1, if_pos (by omega)]; omega
    rw [if_pos e, orI, if_pos h0]; exact hc x y
theorem cmp_lt {pol p : Int} {a b : Z} : decide (orI (if pol ≠ 0 then cmpI (goodZ p b a) (goodZ p a b) else cmpI a.2.1 b.2.1) (cmpI a.1 b.1) < 0) = aheadB pol p a b := by
  unfold aheadB
  by_cases hp : pol = 0
  · rw [if_neg (fun h => h hp), if_pos hp]; exact or_cmp _ _ _ _
  · rw [if_pos hp, if_neg hp, or_cmp]
    by_cases e : goodZ p a b = goodZ p b a
    · rw [if_neg (fun h => h e.symm), if_neg (fun h => h e)]
    · rw [if_pos (fun h => e h.symm), if_pos e]
end Go.Proofs.Yticppjmldlhbiaa.VicW
