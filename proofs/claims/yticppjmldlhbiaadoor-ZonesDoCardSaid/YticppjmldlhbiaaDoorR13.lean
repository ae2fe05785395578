/-
  The reference of zones: its contracts, and how it tells what the program's table tells.
-/
import Derived.Test.YticppjmldlhbiaaDoorWR13
import Derived.Test.YticppjmldlhbiaaDoorPz
namespace Go.Proofs.YticppjmldlhbiaaDoor.R13
open Go.Pl Go.Proofs.YticppjmldlhbiaaDoor.W Go.Proofs.YticppjmldlhbiaaDoor.Zo Go.Proofs.YticppjmldlhbiaaDoor.Pz13
/- PLAIN. -/
theorem stF_ne {S : List Int} {z : Nat} {y v : Int} (h : y ≠ (z : Int)) : stF (S.set z v) y = stF S y := by
  unfold stF
  rw [List.length_set]
  split
  · rename_i hy
    have : z ≠ y.toNat := by omega
    simp [List.getD_eq_getElem?_getD, List.getElem?_set_ne this]
  · rfl
theorem stF_eq {S : List Int} {z : Nat} {v : Int} (hz : z < S.length) : stF (S.set z v) (z : Int) = (v, true) := by
  unfold stF
  rw [if_pos (by rw [List.length_set]; omega)]
  simp [List.getD_eq_getElem?_getD, hz]
/-- The last place below n where a zone stands; 0: none. -/
def lastN (D : List Int) (z : Int) : Nat → Nat
  | 0 => 0
  | n + 1 => if D.getD n 0 = z then n else lastN D z n
theorem lastN_le (D : List Int) (z : Int) : ∀ n, lastN D z n ≤ n
  | 0 => Nat.le_refl _
  | n + 1 => by
    unfold lastN
    split
    · omega
    · have := lastN_le D z n; omega
theorem lastN_lt (D : List Int) (z : Int) {n : Nat} (h : 0 < n) : lastN D z n < n := by
  cases n with
  | zero => omega
  | succ n =>
    unfold lastN
    split
    · omega
    · have := lastN_le D z n; omega
theorem lastN_at {D : List Int} {z : Int} : ∀ {n i : Nat}, i < n → D.getD i 0 = z → D.getD (lastN D z n) 0 = z
  | n + 1, i, hi, he => by
    unfold lastN
    split
    · assumption
    · rename_i hne
      refine lastN_at (n := n) (i := i) ?_ he
      rcases Nat.lt_or_ge i n with h | h
      · exact h
      · have : i = n := by omega
        subst this; exact (hne he).elim
theorem lastN_app (D : List Int) (x z : Int) : ∀ {n : Nat}, n ≤ D.length → lastN (D ++ [x]) z n = lastN D z n
  | 0, _ => rfl
  | n + 1, h => by
    unfold lastN
    have : (D ++ [x]).getD n 0 = D.getD n 0 := by simp [List.getD_eq_getElem?_getD, List.getElem?_append_left (show n < D.length by omega)]
    rw [this, lastN_app D x z (by omega)]
def lastF (S D : List Int) (z : Int) : Int := if (stF S z).1 = 2 then (lastN D z D.length : Int) else -1
/-- The closings that are the last ones of zones that are closed. -/
def clP (S D : List Int) : Nat → List (Int × Int)
  | 0 => []
  | n + 1 => clP S D n ++ if lastF S D (D.getD n 0) = (n : Int) then [(D.getD n 0, (n : Int))] else []
theorem clP_len (S D : List Int) : ∀ n, (clP S D n).length ≤ n
  | 0 => Nat.le_refl _
  | n + 1 => by
    have := clP_len S D n
    unfold clP
    rw [List.length_append]
    split <;> simp <;> omega
theorem clP_mem {S D : List Int} {x : Int × Int} : ∀ {n : Nat}, x ∈ clP S D n ↔ ∃ i : Nat, i < n ∧ x = (D.getD i 0, (i : Int)) ∧ lastF S D (D.getD i 0) = (i : Int)
  | 0 => by
    constructor
    · intro h; cases h
    · rintro ⟨i, hi, _⟩; omega
  | n + 1 => by
    unfold clP
    rw [List.mem_append, clP_mem (n := n)]
    constructor
    · rintro (⟨i, hi, h1, h2⟩ | h)
      · exact ⟨i, by omega, h1, h2⟩
      · split at h
        · rename_i h2
          exact ⟨n, by omega, List.mem_singleton.1 h, h2⟩
        · cases h
    · rintro ⟨i, hi, h1, h2⟩
      by_cases e : i = n
      · subst e
        right; rw [if_pos h2, h1]; simp
      · exact .inl ⟨i, by omega, h1, h2⟩
theorem clP_take {S D : List Int} {z : Nat} {v : Int} (h0 : (stF S (z : Int)).1 ≠ 2) (hz : z < S.length) (hv : v ≠ 2) : ∀ n, clP (S.set z v) D n = clP S D n
  | 0 => rfl
  | n + 1 => by
    unfold clP
    rw [clP_take h0 hz hv n]
    by_cases e : D.getD n 0 = (z : Int)
    · have h1 : lastF (S.set z v) D (D.getD n 0) = -1 := by rw [e]; unfold lastF; rw [stF_eq hz, if_neg hv]
      have h2 : lastF S D (D.getD n 0) = -1 := by rw [e]; unfold lastF; rw [if_neg h0]
      rw [h1, h2]
    · have : lastF (S.set z v) D (D.getD n 0) = lastF S D (D.getD n 0) := by unfold lastF; rw [stF_ne e]
      rw [this]
theorem clP_give {S D : List Int} {z : Nat} (hz : z < S.length) : ∀ n, clP (S.set z 0) D n = (clP S D n).filter fun y => !((z : Int) == y.1)
  | 0 => rfl
  | n + 1 => by
    unfold clP
    rw [clP_give hz n, List.filter_append]
    congr 1
    by_cases e : D.getD n 0 = (z : Int)
    · have h1 : lastF (S.set z 0) D (D.getD n 0) = -1 := by rw [e]; unfold lastF; rw [stF_eq hz]; rfl
      rw [h1, if_neg (by omega)]
      split
      · rw [e]; simp
      · rfl
    · have : lastF (S.set z 0) D (D.getD n 0) = lastF S D (D.getD n 0) := by unfold lastF; rw [stF_ne e]
      rw [this]
      split
      · have h2 : ¬ (z : Int) = D.getD n 0 := fun h => e h.symm
        have h3 : (!((z : Int) == D.getD n 0)) = true := by rw [Bool.not_eq_true', beq_eq_false_iff_ne]; exact h2
        rw [List.filter_cons, h3]; rfl
      · rfl
theorem clP_close {S D : List Int} {z : Nat} (h1 : (stF S (z : Int)).1 = 1) (hz : z < S.length) : clP (S.set z 2) (D ++ [(z : Int)]) (D.length + 1) = clP S D D.length ++ [((z : Int), (D.length : Int))] := by
  have key : ∀ n, n ≤ D.length → clP (S.set z 2) (D ++ [(z : Int)]) n = clP S D n := by
    intro n
    induction n with
    | zero => intro _; rfl
    | succ n ih =>
      intro hn
      unfold clP
      rw [ih (by omega)]
      have eg : (D ++ [(z : Int)]).getD n 0 = D.getD n 0 := by simp [List.getD_eq_getElem?_getD, List.getElem?_append_left (show n < D.length by omega)]
      rw [eg]
      by_cases e : D.getD n 0 = (z : Int)
      · have h2 : lastF S D (D.getD n 0) = -1 := by rw [e]; unfold lastF; rw [if_neg (by rw [h1]; decide)]
        have h3 : lastF (S.set z 2) (D ++ [(z : Int)]) (D.getD n 0) = (D.length : Int) := by
          rw [e]; unfold lastF
          rw [stF_eq hz, if_pos rfl, List.length_append, List.length_singleton]
          unfold lastN
          rw [if_pos (by simp [List.getD_eq_getElem?_getD])]
        rw [h2, h3, if_neg (by omega), if_neg (by omega)]
      · have : lastF (S.set z 2) (D ++ [(z : Int)]) (D.getD n 0) = lastF S D (D.getD n 0) := by
          unfold lastF
          rw [stF_ne e, List.length_append, List.length_singleton]
          have : lastN (D ++ [(z : Int)]) (D.getD n 0) (D.length + 1) = lastN D (D.getD n 0) D.length := by
            rw [lastN, if_neg, lastN_app _ _ _ (Nat.le_refl _)]
            intro hh
            refine e ?_
            rw [← hh]; simp [List.getD_eq_getElem?_getD]
          rw [this]
        rw [this]
  rw [clP, key _ (Nat.le_refl _)]
  have eg : (D ++ [(z : Int)]).getD D.length 0 = (z : Int) := by simp [List.getD_eq_getElem?_getD]
  have h3 : lastF (S.set z 2) (D ++ [(z : Int)]) (z : Int) = (D.length : Int) := by
    unfold lastF
    rw [stF_eq hz, if_pos rfl, List.length_append, List.length_singleton, lastN, if_pos eg]
  rw [eg, h3, if_pos rfl]
/-- How many were closed behind one. -/
def ageR (S D : List Int) (z : Int) : Int := if lastF S D z < 0 then 0 else IntKind.wrap .u32 (IntKind.wrap .i64 (IntKind.wrap .i64 ((D.length : Int) - 1) - lastF S D z))
theorem ageF_all {z v k : Int} : ∀ {C : List (Int × Int)}, (∃ x ∈ C, x.1 = z) → (∀ x ∈ C, x.1 = z → x.2 = v) → ageF C k z = IntKind.wrap .u32 (IntKind.wrap .u32 (k - 1) - v)
  | [], h, _ => by obtain ⟨x, hx, _⟩ := h; cases hx
  | x :: C, h, hv => by
    unfold ageF
    split
    · rename_i e; rw [hv x (by simp) e]
    · rename_i e
      refine ageF_all ?_ fun y hy => hv y (by simp [hy])
      obtain ⟨y, hy, e2⟩ := h
      rcases List.mem_cons.1 hy with h1 | h1
      · subst h1; exact (e e2).elim
      · exact ⟨y, h1, e2⟩
theorem age_eq {S D : List Int} (hl : D.length ≤ 1000) (hD : ∀ z : Int, (stF S z).1 = 2 → ∃ i, i < D.length ∧ D.getD i 0 = z) (z : Int) : ageF (clP S D D.length) (D.length : Int) z = ageR S D z := by
  by_cases h2 : (stF S z).1 = 2
  · obtain ⟨i, hi, e⟩ := hD z h2
    have hla := lastN_at hi e
    have hlt := lastN_lt D z (show 0 < D.length by omega)
    have hlF : lastF S D z = (lastN D z D.length : Int) := if_pos h2
    unfold ageR
    rw [hlF, if_neg (by omega), ageF_all (v := (lastN D z D.length : Int))]
    · rw [wr64 (n := (D.length : Int) - 1) (by omega) (by omega), wr64 (by omega) (by omega), wru32, wru32, wru32]; omega
    · exact ⟨(D.getD (lastN D z D.length) 0, (lastN D z D.length : Int)), clP_mem.2 ⟨_, hlt, rfl, by rw [hla]; exact hlF⟩, hla⟩
    · intro x hx e2
      obtain ⟨j, hj, e3, e4⟩ := clP_mem.1 hx
      subst e3
      have e2 : D.getD j 0 = z := e2
      rw [e2, hlF] at e4
      exact e4.symm
  · have hlF : lastF S D z = -1 := if_neg h2
    unfold ageR
    rw [hlF, if_pos (by omega)]
    refine age_out fun x hx e2 => ?_
    obtain ⟨j, hj, e3, e4⟩ := clP_mem.1 hx
    subst e3
    have e2 : D.getD j 0 = z := e2
    rw [e2, hlF] at e4; omega
/- THE REFERENCE's TABLE. -/
abbrev TR : TypeId := 67
/-- The reference's table: its block c, its states in block g; X: blocks that none but it turns. -/
structure RT (h : Heap) (X : Nat → Prop) (c g : Nat) (S F D : List Int) : Prop where
  row : ∃ sc fa fc da dc, Blk h c #[.slice (some ⟨g, 0, none⟩) S.length sc, .slice fa F.length fc, .slice da D.length dc] TR ∧ OwnH h 0 TI 1 (some ⟨g, 0, none⟩) S.length sc (iv S) ∧ Ar .i64 h fa F ∧ Ar .i64 h da D ∧
    (∀ b, F ≠ [] → blkOf fa = some b → X b ∧ b ≠ c ∧ b ≠ g) ∧ (∀ b, D ≠ [] → blkOf da = some b → X b ∧ b ≠ c ∧ b ≠ g) ∧ F.length ≤ fc
  xc : X c
  xg : X g
  ne : c ≠ g
/-- Blocks c and g turn alone. -/
structure Upd2 (c g : Nat) (h h' : Heap) : Prop where
  size : h.size ≤ h'.size
  same : ∀ b, b < h.size → b ≠ c → b ≠ g → h'[b]? = h[b]?
theorem Upd2.new {c g : Nat} {h h' : Heap} (n : New h h') : Upd2 c g h h' := ⟨n.size, fun b hb _ _ => n.same b hb⟩
theorem Upd2.trans {c g : Nat} {x y z : Heap} (a : Upd2 c g x y) (b : Upd2 c g y z) : Upd2 c g x z := ⟨Nat.le_trans a.size b.size, fun k hk h1 h2 => (b.same k (Nat.lt_of_lt_of_le hk a.size) h1 h2).trans (a.same k hk h1 h2)⟩
theorem Upd2.c {c g : Nat} {h h' : Heap} (o : Only c h h') : Upd2 c g h h' := ⟨by rw [o.size]; exact Nat.le_refl _, fun b _ h1 _ => o.same b h1⟩
theorem Upd2.g {c g : Nat} {h h' : Heap} (o : Only g h h') : Upd2 c g h h' := ⟨by rw [o.size]; exact Nat.le_refl _, fun b _ _ h1 => o.same b h1⟩
theorem Ar.keepB {k : IntKind} {h h' : Heap} {a : Option Addr} {xs : List Int} (r : Ar k h a xs) (hs : h.size ≤ h'.size) (hk : xs ≠ [] → ∀ b, blkOf a = some b → b < h.size → h'[b]? = h[b]?) : Ar k h' a xs := fun i x hx => by
  obtain ⟨b, o, e, hp, hc⟩ := r i x hx
  have hne : xs ≠ [] := fun e => by subst e; simp at hx
  exact ⟨b, o, e, Nat.lt_of_lt_of_le hp hs, by rw [cellH_same (hk hne b (by rw [e]; rfl) hp)]; exact hc⟩
theorem Ar.blk_lt {k : IntKind} {h : Heap} {a : Option Addr} {xs : List Int} (r : Ar k h a xs) (hx : xs ≠ []) : ∀ b, blkOf a = some b → b < h.size := fun b hb => by
  obtain ⟨g, o, e, hg⟩ := r.lt' hx
  subst e; injection hb with hb; change g = b at hb; omega
/-- What turns other blocks than those of X leaves it. -/
theorem RT.keep {h h' : Heap} {X : Nat → Prop} {c g : Nat} {S F D : List Int} (r : RT h X c g S F D) (hs : h.size ≤ h'.size) (hk : ∀ b, X b → b < h.size → h'[b]? = h[b]?) : RT h' X c g S F D := by
  obtain ⟨⟨sc, fa, fc, da, dc, b, os, af, ad, hf, hd, hl⟩, xc, xg, ne⟩ := r
  exact ⟨⟨sc, fa, fc, da, dc, (hk c xc b.lt).trans b, os.keep fun q _ _ hb e => by injection e with e; change g = q at e; subst e; exact hk g xg hb.lt, Ar.keepB af hs fun hx q hq => hk q (hf q hx hq).1, Ar.keepB ad hs fun hx q hq => hk q (hd q hx hq).1, hf, hd, hl⟩, xc, xg, ne⟩
theorem RT.new {h h' : Heap} {X : Nat → Prop} {c g : Nat} {S F D : List Int} (r : RT h X c g S F D) (n : New h h') : RT h' X c g S F D := r.keep n.size fun b _ hb => n.same b hb
theorem RT.wide {h : Heap} {X X' : Nat → Prop} {c g : Nat} {S F D : List Int} (r : RT h X c g S F D) (hX : ∀ b, X b → X' b) : RT h X' c g S F D := by
  obtain ⟨⟨sc, fa, fc, da, dc, b, os, af, ad, hf, hd, hl⟩, xc, xg, ne⟩ := r
  exact ⟨⟨sc, fa, fc, da, dc, b, os, af, ad, fun q h1 h2 => ⟨hX q (hf q h1 h2).1, (hf q h1 h2).2⟩, fun q h1 h2 => ⟨hX q (hd q h1 h2).1, (hd q h1 h2).2⟩, hl⟩, hX c xc, hX g xg, ne⟩
/-- With new blocks. -/
def plus (X : Nat → Prop) (h h' : Heap) : Nat → Prop := fun b => X b ∨ (h.size ≤ b ∧ b < h'.size)
theorem push_own {h : Heap} {n c : Nat} {a : Option Addr} {xs : List Int} {x : Int} (o : OwnH h 0 TI 1 a n c (iv xs)) (hn : n ≤ 1000) {F : Option Addr → Nat → Nat → Heap → Prop}
    (hF : ∀ a' c' h', OwnH h' 0 TI 1 a' (n + 1) c' (iv (xs ++ [x])) → UpdO (blkOf a) h h' → (blkOf a' = blkOf a ∨ ∃ g, blkOf a' = some g ∧ h.size ≤ g) → F a' (n + 1) c' h') :
    newW (.cells #[.int .i64 x] TI) (fun p h' => apW Tryd.prog #[49, 49] #[.slice a n c, .slice (some p) 1 1] F h') h := by
  refine new_of fun h1 b1 n1 s1 => ?_
  refine ap_row ap49 (.inl (o.grow n1)) (m := 1) [.int .i64 x] rfl (fun j u hu => ?_) (fun u hu => by rw [List.mem_singleton] at hu; subst hu; rfl) (by simp only [maxLen]; omega) (by omega) fun a2 c2 h2 r2 w ow => ?_
  · have hj : j = 0 := by have : j < 1 := (List.getElem?_eq_some_iff.1 hu).1; omega
    subst hj
    rw [add_mk, cellH_blk b1]; simpa using hu
  have ow := ow (by omega)
  have e1 : iv xs ++ [Value.int .i64 x] = iv (xs ++ [x]) := by simp [iv]
  rw [e1] at ow
  have u := w.upd
  refine hF a2 c2 h2 ow ⟨Nat.le_trans n1.size u.size, fun k hk hne => (u.same k (Nat.lt_of_lt_of_le hk n1.size) hne).trans (n1.same k hk)⟩ ?_
  rcases w.at_ with e | ⟨g, e, hg, _⟩
  · exact .inl e
  · exact .inr ⟨g, e, by omega⟩
theorem rnew_no (z : Int) (h : Heap) (hz : ¬ (1 ≤ z ∧ z ≤ 24)) : CallsH Tryd.prog 25 [.int .i64 z] h fun v h' => v = .tuple #[.pointer none, .int .i64 1] ∧ h' = h := by
  refine fun_ok hm' Tryd.func25 (by kernel_rfl) (F25_eq _ _ h) ?_
  unfold F25
  refine cut_q (ts := []) (fun _ _ => False) (fun _ _ hf _ => hf.elim) ?_
  intro K hK
  refine br_of (fun _ => ⟨rfl, rfl⟩) fun h1 => br_of (fun _ => ⟨rfl, rfl⟩) fun h2 => (hz ?_).elim
  have := of_decide_eq_false h1; have := of_decide_eq_false h2; omega
theorem rnew_ok (n : Nat) (h : Heap) (hn : 1 ≤ n ∧ n ≤ 24) : CallsH Tryd.prog 25 [.int .i64 (n : Int)] h fun v h' => ∃ c g, v = .tuple #[.pointer (some ⟨c, 0, none⟩), .int .i64 0] ∧ RT h' (fun b => h.size ≤ b ∧ b < h'.size) c g (List.replicate n 0) (upto n) [] ∧ New h h' := by
  refine fun_ok hm' Tryd.func25 (by kernel_rfl) (F25_eq _ _ h) ?_
  unfold F25
  refine cut_q (ts := []) (fun _ h' => h' = h) ?_ ?_
  rotate_left
  · intro K hK
    exact br_f (decide_eq_false (by omega)) (br_f (decide_eq_false (by omega)) (hK () _ rfl))
  rintro _ h' hh _; subst h'
  refine new_of fun h1 b1 n1 s1 => ?_
  refine ⟨fun (s : Int) h' => ∃ (i : Nat) (sa : Option Addr) (sc : Nat) (fa : Option Addr) (fc : Nat), s = i ∧ i ≤ n ∧ Blk h' h.size #[.slice sa i sc, .slice fa i fc, .slice none 0 0] TR ∧ OwnH h' 0 TI 1 sa i sc (iv (List.replicate i 0)) ∧ OwnH h' 0 TI 1 fa i fc (iv (upto i)) ∧
    (∀ b, blkOf sa = some b → h.size < b) ∧ (∀ b, blkOf fa = some b → h.size < b ∧ blkOf sa ≠ some b) ∧ New h h', fun (s : Int) _ => ((n : Int) - s).toNat, ⟨0, none, 0, none, 0, rfl, Nat.zero_le _, b1, OwnH.nil _ _ _ _, OwnH.nil _ _ _ _, fun b e => (by cases e), fun b e => (by cases e), n1⟩, ?_⟩
  rintro s j h2 ⟨i, sa, sc, fa, fc, rfl, hi, b2, os, of', hsb, hfb, n2⟩
  have hs2 := n2.size
  refine br_of (fun hlt => ?_) (fun hlt => ?_)
  · have hlt : (i : Int) < (n : Int) := of_decide_eq_true hlt
    refine ld_of (c := .slice) (sa, i, sc) (by rw [add_mk, cellH_blk b2]; rfl) (push_own os (by omega) fun a3 c3 h3 o3 u3 at3 => ?_)
    have hs3 := u3.size
    have hl2 := b2.lt
    have b3 := blkO b2 u3 fun e => by have := hsb _ e; omega
    have of3 := ownO of' u3 fun b hb e => (hfb b hb).2 e
    have a3b : ∀ b, blkOf a3 = some b → h.size < b := fun b hb => by
      rcases at3 with e | ⟨g, e, hg⟩
      · exact hsb b (by rw [← e]; exact hb)
      · rw [e] at hb; injection hb with hb; omega
    have fne : ∀ b, blkOf fa = some b → blkOf a3 ≠ some b := fun b hb e => by
      rcases at3 with e2 | ⟨g, e2, hg⟩
      · exact (hfb b hb).2 (by rw [← e2]; exact e)
      · rw [e2] at e; injection e with e; subst e; have := (of'.blk_ge g hb).2; omega
    rw [add_mk]
    refine st_blk b3 (by show 0 + 0 < 3; omega) fun h4 b4 o4 => ?_
    have u4 : UpdO (some h.size) h3 h4 := ⟨by rw [o4.size]; exact Nat.le_refl _, fun m hm hne => o4.same m fun e => hne (by rw [e])⟩
    have os4 := ownO o3 u4 fun b hb e => by injection e with e; have := a3b b hb; omega
    have of4 := ownO of3 u4 fun b hb e => by injection e with e; have := (hfb b hb).1; omega
    refine ld_of (c := .slice) (fa, i, fc) (by rw [add_mk, cellH_blk b4]; rfl) (push_own of4 (by omega) fun a5 c5 h5 o5 u5 at5 => ?_)
    have b5 := blkO b4 u5 fun e => by have := (hfb _ e).1; omega
    have os5 := ownO os4 u5 fun b hb e => (fne b e) hb
    have hs4 := u4.size
    have hs34 := o4.size
    have a5b : ∀ b, blkOf a5 = some b → h.size < b ∧ blkOf a3 ≠ some b := fun b hb => by
      rcases at5 with e | ⟨g, e, hg⟩
      · exact ⟨(hfb b (by rw [← e]; exact hb)).1, fne b (by rw [← e]; exact hb)⟩
      · rw [e] at hb; injection hb with hb; subst hb
        exact ⟨by omega, fun e2 => by have := (os4.blk_ge g e2).2; omega⟩
    rw [add_mk]
    refine st_blk b5 (by show 0 + 1 < 3; omega) fun h6 b6 o6 => ?_
    have u6 : UpdO (some h.size) h5 h6 := ⟨by rw [o6.size]; exact Nat.le_refl _, fun m hm hne => o6.same m fun e => hne (by rw [e])⟩
    have os6 := ownO os5 u6 fun b hb e => by injection e with e; have := a3b b hb; omega
    have of6 := ownO o5 u6 fun b hb e => by injection e with e; have := (a5b b hb).1; omega
    rw [wr64 (by omega) (by omega)]
    have hs5 := u5.size
    have hs6 := u6.size
    refine ⟨⟨i + 1, a3, c3, a5, c5, rfl, by omega, b6, ?_, ?_, a3b, a5b, ⟨by omega, fun b hb => ?_⟩⟩, (by first | omega | (dsimp only; omega) | (simp only []; omega))⟩
    · rw [show List.replicate (i + 1) (0 : Int) = List.replicate i 0 ++ [0] from List.replicate_succ']; exact os6
    · rw [show upto (i + 1) = upto i ++ [(i : Int)] by simp [upto, List.range_succ]]; exact of6
    · rw [o6.same b (by omega), u5.same b (by omega) (fun e => by have := (hfb b e.symm).1; omega), o4.same b (by omega), u3.same b (by omega) (fun e => by have := hsb b e.symm; omega)]
      exact n2.same b hb
  · have hlt : ¬ (i : Int) < (n : Int) := of_decide_eq_false hlt
    have : i = n := by omega
    subst this
    have eu : (upto i).length = i := by simp [upto]
    rcases os.row with ⟨_, ⟨_, h1, _⟩ | ⟨g, cur, rfl, _, hgb, _⟩⟩
    · omega
    have hg := hsb g rfl
    refine ⟨h.size, g, rfl, ⟨⟨sc, fa, fc, none, 0, ?_, ?_, Ar.own of', Ar.nil _ _ _, fun b _ hb => ?_, fun b hx => (hx rfl).elim, ?_⟩, ⟨Nat.le_refl _, b2.lt⟩, ⟨by omega, hgb.lt⟩, by omega⟩, n2⟩
    · rw [List.length_replicate, eu]; exact b2
    · rw [List.length_replicate]; exact os
    · have := hfb b hb
      exact ⟨⟨by omega, (of'.blk_ge b hb).2⟩, by omega, fun e => this.2 (by rw [e]; rfl)⟩
    · rw [eu]; exact of'.cap
section
variable {h : Heap} {X : Nat → Prop} {c g : Nat} {S F D : List Int}
theorem rstate_ok (z : Int) (r : RT h X c g S F D) : CallsH Tryd.prog 29 [.pointer (some ⟨c, 0, none⟩), .int .i64 z] h fun v h' => v = .tuple #[.int .i64 (stF S z).1, .bool (stF S z).2] ∧ h' = h := by
  refine fun_ok hm' Tryd.func29 (by kernel_rfl) (F29_eq _ _ _ h) ?_
  unfold F29
  obtain ⟨⟨sc, fa, fc, da, dc, b, os, af, ad, hf, hd, hl⟩, xc, xg, ne⟩ := r
  have c0 : cellH h (Addr.add ⟨c, 0, none⟩ 0) = some (.slice (some ⟨g, 0, none⟩) S.length sc) := by rw [add_mk, cellH_blk b]; rfl
  have no : ¬ (0 ≤ z ∧ z < (S.length : Int)) → stF S z = (0, false) := fun hh => if_neg hh
  refine cut_q (ts := []) (fun _ h' => h' = h ∧ 0 ≤ z ∧ z < (S.length : Int)) ?_ ?_
  rotate_left
  · intro K hK
    refine br_of (fun h1 => ⟨by rw [no (by have := of_decide_eq_true h1; omega)], rfl⟩) fun h1 => ld_of (c := .slice) (some ⟨g, 0, none⟩, S.length, sc) c0 (br_of (fun h2 => ⟨?_, rfl⟩) fun h2 => hK () _ ⟨rfl, ?_⟩)
    · have h2 : z ≥ (S.length : Int) := of_decide_eq_true h2
      rw [no (by omega)]
    · have h1 : ¬ z < 0 := of_decide_eq_false h1
      have h2 : ¬ z ≥ (S.length : Int) := of_decide_eq_false h2
      omega
  rintro _ h' ⟨hh, hz⟩ _; subst h'
  obtain ⟨n, rfl⟩ := Int.eq_ofNat_of_zero_le hz.1
  have hn : n < S.length := by omega
  have e : stF S (n : Int) = (S[n], true) := by unfold stF; rw [if_pos hz]; simp [List.getD_eq_getElem?_getD, hn]
  rw [e]
  exact ld_of (c := .slice) (some ⟨g, 0, none⟩, S.length, sc) c0 (ix_ld (Ar.own os) hn hn ⟨rfl, rfl⟩)
/-- A state is told anew. -/
theorem rset_ok {sc : Nat} {fa : Option Addr} {fc : Nat} {da : Option Addr} {dc : Nat} (b : Blk h c #[.slice (some ⟨g, 0, none⟩) S.length sc, .slice fa F.length fc, .slice da D.length dc] TR) (os : OwnH h 0 TI 1 (some ⟨g, 0, none⟩) S.length sc (iv S)) (ne : c ≠ g) {z : Nat} (hz : z < S.length) (v : Int) {K : Heap → Prop}
    (hK : ∀ h', Blk h' c #[.slice (some ⟨g, 0, none⟩) (S.set z v).length sc, .slice fa F.length fc, .slice da D.length dc] TR → OwnH h' 0 TI 1 (some ⟨g, 0, none⟩) (S.set z v).length sc (iv (S.set z v)) → Only g h h' → K h') :
    ldW .slice (Addr.add ⟨c, 0, none⟩ 0) (fun (x : Option Addr × Nat × Nat) => ptrW x.1 (fun a => idxW (z : Int) x.2.1 true (stW (Addr.add a (Int.toNat (z : Int) * 1)) (.int .i64 v) (fun h' => K h') h))) h := by
  refine ld_of (c := .slice) (some ⟨g, 0, none⟩, S.length, sc) (by rw [add_mk, cellH_blk b]; rfl) (ptr_of (ix_of hz ?_))
  rw [add_mk, Int.toNat_natCast, Nat.zero_add, Nat.mul_one]
  obtain ⟨ol, ⟨e, _⟩ | ⟨g', cap, cur, e1, hb0, hgb, hnc, hcm, hcs, htk⟩⟩ := os
  · cases e
  injection e1 with e1 e2 e3
  injection e1 with e1; injection e1 with e1; subst e1; subst e3
  have hzc : z < cur.size := by omega
  refine st_blk hgb hzc fun h' b' o' => hK h' (by rw [List.length_set]; exact b.only o' ne) ?_ o'
  rw [List.length_set]
  refine ⟨by simp [iv], .inr ⟨g, sc, _, rfl, hb0, b', hnc, hcm, by simpa using hcs, ?_⟩⟩
  have e : (cur.setIfInBounds z (.int .i64 v)).toList = cur.toList.set z (.int .i64 v) := by simp
  rw [e, List.take_set, htk]
  simp [iv, List.map_set]
theorem rtake_no (r : RT h X c g S [] D) : CallsH Tryd.prog 50 [.pointer (some ⟨c, 0, none⟩)] h fun v h' => v = .tuple #[.int .i64 0, .bool false] ∧ h' = h := by
  refine fun_ok hm' Tryd.func50 (by kernel_rfl) (F50_eq _ _ h) ?_
  unfold F50
  obtain ⟨⟨sc, fa, fc, da, dc, b, os, af, ad, hf, hd, hl⟩, xc, xg, ne⟩ := r
  exact ld_of (c := .slice) (fa, 0, fc) (by rw [add_mk, cellH_blk b]; rfl) (br_t rfl ⟨rfl, rfl⟩)
theorem rtake_ok {z : Nat} (r : RT h X c g S ((z : Int) :: F) D) (hz : z < S.length) (hF : F.length ≤ 900) : CallsH Tryd.prog 50 [.pointer (some ⟨c, 0, none⟩)] h fun v h' => v = .tuple #[.int .i64 (z : Int), .bool true] ∧ RT h' (plus X h h') c g (S.set z 1) F D ∧ Upd2 c g h h' := by
  refine fun_ok hm' Tryd.func50 (by kernel_rfl) (F50_eq _ _ h) ?_
  unfold F50
  obtain ⟨⟨sc, fa, fc, da, dc, b, os, af, ad, hf, hd, hl⟩, xc, xg, ne⟩ := r
  have c1 : cellH h (Addr.add ⟨c, 0, none⟩ 1) = some (.slice fa ((z : Int) :: F).length fc) := by rw [add_mk, cellH_blk b]; rfl
  refine ld_of (c := .slice) (fa, ((z : Int) :: F).length, fc) c1 (br_f (by simp; omega) (ld_of (c := .slice) (fa, ((z : Int) :: F).length, fc) c1 (ix_lit af 0 rfl (by simp) (by simp) (new_of fun h1 b1 n1 s1 => ?_))))
  refine ld_of (c := .slice) (fa, ((z : Int) :: F).length, fc) (by rw [add_mk, cellH_blk (b.new n1)]; rfl) ⟨⟨by omega, by simp; omega, Int.ofNat_le.2 hl, Int.le_refl _⟩, ?_⟩
  have ar := (af.new n1).drop 1 fc (by have hl' : F.length + 1 ≤ fc := hl; show fc ≠ 1 ∨ F.length + 1 ≤ 1; omega)
  refine Grow.ints ap49 (xs := []) (ys := F) (Grow.start (RowS.nil' h1 _ 1 (some ⟨h.size, 0, none⟩))) ar (by simp) (by simp; omega) (by omega) fun a5 c5 h5 g5 => ?_
  have got := g5.got n1 (fun b e => by injection e with e; change h.size = b at e; omega)
  have b5 := b.new got.new
  have hlc := b.lt
  rw [add_mk]
  refine st_blk b5 (by show 0 + 1 < 3; omega) fun h6 b6 o6 => ?_
  have os6 := (os.grow got.new).keep fun q _ _ hq e => by
    injection e with e; change g = q at e
    exact o6.same q (fun e2 => ne (by rw [← e2, ← e]))
  refine rset_ok b6 os6 ne hz 1 fun h7 b7 os7 o7 => ⟨rfl, ⟨⟨sc, a5, c5, da, dc, b7, os7, ?_, ?_, fun q hx hq => ?_, fun q hx hq => ?_, ?_⟩, .inl xc, .inl xg, ne⟩, (Upd2.new got.new).trans ((Upd2.c o6).trans (Upd2.g o7))⟩
  · refine Ar.keepB got.ar (by have := o6.size; have := o7.size; omega) fun hx q hq hql => ?_
    have := got.at_ hx q hq
    rw [o7.same q (by have := os.blk_ge g rfl; omega), o6.same q (by omega)]
  · have s1 := got.new.size
    refine Ar.keepB (ad.new got.new) (by have := o6.size; have := o7.size; omega) fun hx q hq hql => ?_
    have := hd q hx hq
    rw [o7.same q this.2.2, o6.same q this.2.1]
  · have h1 := got.at_ (by simpa using hx) q hq
    have h2 := got.row.lt (by simpa using hx) q hq
    have := o6.size; have := o7.size; have := os.blk_ge g rfl
    exact ⟨.inr ⟨h1, (by omega : q < Array.size _)⟩, by omega, by omega⟩
  · have := hd q hx hq
    exact ⟨.inl this.1, this.2⟩
  · exact got.row.le
theorem rclose_no (z : Int) (r : RT h X c g S F D) (hs : (stF S z).1 ≠ 1) : CallsH Tryd.prog 51 [.pointer (some ⟨c, 0, none⟩), .int .i64 z] h fun v h' => v = .bool false ∧ h' = h := by
  refine fun_ok hm' Tryd.func51 (by kernel_rfl) (F51_eq _ _ _ h) ?_
  unfold F51
  refine call_of (rstate_ok z r) ?_
  rintro v h' ⟨rfl, hh⟩; subst h'
  exact ⟨((stF S z).1, (stF S z).2), rfl, br_t (by simpa using hs) ⟨rfl, rfl⟩⟩
theorem rgive_no (z : Int) (r : RT h X c g S F D) (hs : (stF S z).1 = 0) : CallsH Tryd.prog 52 [.pointer (some ⟨c, 0, none⟩), .int .i64 z] h fun v h' => v = .bool false ∧ h' = h := by
  refine fun_ok hm' Tryd.func52 (by kernel_rfl) (F52_eq _ _ _ h) ?_
  unfold F52
  refine call_of (rstate_ok z r) ?_
  rintro v h' ⟨rfl, hh⟩; subst h'
  exact ⟨((stF S z).1, (stF S z).2), rfl, br_t (by simpa using hs) ⟨rfl, rfl⟩⟩
theorem rclose_ok {z : Nat} (r : RT h X c g S F D) (hs : (stF S (z : Int)).1 = 1) (hz : z < S.length) (hD : D.length ≤ 900) : CallsH Tryd.prog 51 [.pointer (some ⟨c, 0, none⟩), .int .i64 (z : Int)] h fun v h' => v = .bool true ∧ RT h' (plus X h h') c g (S.set z 2) F (D ++ [(z : Int)]) ∧ Upd2 c g h h' := by
  refine fun_ok hm' Tryd.func51 (by kernel_rfl) (F51_eq _ _ _ h) ?_
  unfold F51
  refine call_of (rstate_ok (z : Int) r) ?_
  rintro v h' ⟨rfl, hh⟩; subst h'
  obtain ⟨⟨sc, fa, fc, da, dc, b, os, af, ad, hf, hd, hl⟩, xc, xg, ne⟩ := r
  have hlc := b.lt
  have hlg := (os.blk_ge g rfl).2
  refine ⟨((stF S (z : Int)).1, (stF S (z : Int)).2), rfl, br_f (by rw [hs]; rfl) (rset_ok b os ne hz 2 fun h1 b1 os1 o1 => ?_)⟩
  have s1 := o1.size
  have af1 : Ar .i64 h1 fa F := Ar.keepB af (by omega) fun hx q hq _ => o1.same q (hf q hx hq).2.2
  have ad1 : Ar .i64 h1 da D := Ar.keepB ad (by omega) fun hx q hq _ => o1.same q (hd q hx hq).2.2
  refine new_of fun h2 b2 n2 s2 => ld_of (c := .slice) (da, D.length, dc) (by rw [add_mk, cellH_blk (b1.new n2)]; rfl) ?_
  refine Grow.ints ap49 (xs := []) (ys := D) (Grow.start (RowS.nil' h2 _ 1 (some ⟨h1.size, 0, none⟩))) (ad1.new n2) rfl (by simp; omega) (by omega) fun a3 c3 h3 g3 => ?_
  refine Grow.push ap49 (v := .int .i64 (z : Int)) g3 rfl (by show D.length ≤ _; omega) (by omega) fun a4 c4 h4 g4 => ?_
  have e4 : (([] ++ D).map (Value.int .i64) ++ [Value.int .i64 (z : Int)]) = (D ++ [(z : Int)]).map (Value.int .i64) := by simp
  have l4 : ([] ++ D).length + 1 = (D ++ [(z : Int)]).length := by simp
  rw [e4, l4] at g4
  rw [l4]
  have got := g4.got n2 (fun b e => by injection e with e; change h1.size = b at e; omega)
  have s4 := got.new.size
  rw [add_mk]
  refine st_blk (b1.new got.new) (by show 0 + 2 < 3; omega) fun h5 b5 o5 => ⟨rfl, ⟨⟨sc, fa, fc, a4, c4, b5, ?_, ?_, ?_, fun q hx hq => ?_, fun q hx hq => ?_, hl⟩, .inl xc, .inl xg, ne⟩, (Upd2.g o1).trans ((Upd2.new got.new).trans (Upd2.c o5))⟩
  · exact (os1.grow got.new).keep fun q _ _ _ e => by
      injection e with e; change g = q at e
      exact o5.same q (fun e2 => ne (by rw [← e2, ← e]))
  · have s5 := o5.size
    refine Ar.keepB (af1.new got.new) (by omega) fun hx q hq hql => ?_
    exact o5.same q (hf q hx hq).2.1
  · have s5 := o5.size
    refine Ar.keepB got.ar (by omega) fun hx q hq hql => ?_
    have := got.at_ hx q hq
    exact o5.same q (by omega)
  · have := hf q hx hq
    exact ⟨.inl this.1, this.2⟩
  · have h1 := got.at_ hx q hq
    have h2 := got.row.lt (by simp) q hq
    have s5 := o5.size
    exact ⟨.inr ⟨by omega, by omega⟩, by omega, by omega⟩
theorem rgive_ok {z : Nat} (r : RT h X c g S F D) (hs : (stF S (z : Int)).1 ≠ 0) (hz : z < S.length) (hF : F.length ≤ 900) : CallsH Tryd.prog 52 [.pointer (some ⟨c, 0, none⟩), .int .i64 (z : Int)] h fun v h' => v = .bool true ∧ RT h' (plus X h h') c g (S.set z 0) (F ++ [(z : Int)]) D ∧ Upd2 c g h h' := by
  refine fun_ok hm' Tryd.func52 (by kernel_rfl) (F52_eq _ _ _ h) ?_
  unfold F52
  refine call_of (rstate_ok (z : Int) r) ?_
  rintro v h' ⟨rfl, hh⟩; subst h'
  obtain ⟨⟨sc, fa, fc, da, dc, b, os, af, ad, hf, hd, hl⟩, xc, xg, ne⟩ := r
  have hlc := b.lt
  have hlg := (os.blk_ge g rfl).2
  refine ⟨((stF S (z : Int)).1, (stF S (z : Int)).2), rfl, br_f (by simpa using hs) (rset_ok b os ne hz 0 fun h1 b1 os1 o1 => ?_)⟩
  have s1 := o1.size
  have af1 : Ar .i64 h1 fa F := Ar.keepB af (by omega) fun hx q hq _ => o1.same q (hf q hx hq).2.2
  have ad1 : Ar .i64 h1 da D := Ar.keepB ad (by omega) fun hx q hq _ => o1.same q (hd q hx hq).2.2
  refine new_of fun h2 b2 n2 s2 => ld_of (c := .slice) (fa, F.length, fc) (by rw [add_mk, cellH_blk (b1.new n2)]; rfl) ?_
  refine Grow.ints ap49 (xs := []) (ys := F) (Grow.start (RowS.nil' h2 _ 1 (some ⟨h1.size, 0, none⟩))) (af1.new n2) rfl (by simp; omega) (by omega) fun a3 c3 h3 g3 => ?_
  refine Grow.push ap49 (v := .int .i64 (z : Int)) g3 rfl (by show F.length ≤ _; omega) (by omega) fun a4 c4 h4 g4 => ?_
  have e4 : (([] ++ F).map (Value.int .i64) ++ [Value.int .i64 (z : Int)]) = (F ++ [(z : Int)]).map (Value.int .i64) := by simp
  have l4 : ([] ++ F).length + 1 = (F ++ [(z : Int)]).length := by simp
  rw [e4, l4] at g4
  rw [l4]
  have got := g4.got n2 (fun b e => by injection e with e; change h1.size = b at e; omega)
  have s4 := got.new.size
  rw [add_mk]
  refine st_blk (b1.new got.new) (by show 0 + 1 < 3; omega) fun h5 b5 o5 => ⟨rfl, ⟨⟨sc, a4, c4, da, dc, b5, ?_, ?_, ?_, fun q hx hq => ?_, fun q hx hq => ?_, got.row.le⟩, .inl xc, .inl xg, ne⟩, (Upd2.g o1).trans ((Upd2.new got.new).trans (Upd2.c o5))⟩
  · exact (os1.grow got.new).keep fun q _ _ _ e => by
      injection e with e; change g = q at e
      exact o5.same q (fun e2 => ne (by rw [← e2, ← e]))
  · have s5 := o5.size
    refine Ar.keepB got.ar (by omega) fun hx q hq hql => ?_
    have := got.at_ hx q hq
    exact o5.same q (by omega)
  · have s5 := o5.size
    refine Ar.keepB (ad1.new got.new) (by omega) fun hx q hq hql => ?_
    exact o5.same q (hd q hx hq).2.1
  · have h1 := got.at_ hx q hq
    have h2 := got.row.lt (by simp) q hq
    have s5 := o5.size
    exact ⟨.inr ⟨by omega, by omega⟩, by omega, by omega⟩
  · have := hd q hx hq
    exact ⟨.inl this.1, this.2⟩
theorem rlast_ok (z : Int) (r : RT h X c g S F D) (hD : D.length ≤ 900) : CallsH Tryd.prog 53 [.pointer (some ⟨c, 0, none⟩), .int .i64 z] h fun v h' => v = .int .i64 (lastF S D z) ∧ h' = h := by
  refine fun_ok hm' Tryd.func53 (by kernel_rfl) (F53_eq _ _ _ h) ?_
  unfold F53
  refine call_of (rstate_ok z r) ?_
  rintro v h' ⟨rfl, hh⟩; subst h'
  refine ⟨((stF S z).1, (stF S z).2), rfl, br_of (fun h1 => ⟨?_, rfl⟩) fun h1 => ?_⟩
  · have h1 : (stF S z).1 ≠ 2 := by simpa using h1
    rw [show lastF S D z = -1 from if_neg h1]
  have h1 : (stF S z).1 = 2 := by simpa using h1
  rw [show lastF S D z = (lastN D z D.length : Int) from if_pos h1]
  obtain ⟨⟨sc, fa, fc, da, dc, b, os, af, ad, hf, hd, hl⟩, xc, xg, ne⟩ := r
  have c2 : cellH h (Addr.add ⟨c, 0, none⟩ 2) = some (.slice da D.length dc) := by rw [add_mk, cellH_blk b]; rfl
  refine ⟨fun (s : Int × Int) h' => h' = h ∧ ∃ i : Nat, s = ((lastN D z i : Int), (i : Int)) ∧ i ≤ D.length, fun (s : Int × Int) _ => ((D.length : Int) - s.2).toNat, ⟨rfl, 0, rfl, Nat.zero_le _⟩, ?_⟩
  rintro s j h' ⟨hh, i, rfl, hi⟩; subst h'
  refine ld_of (c := .slice) (da, D.length, dc) c2 (br_of (fun hlt => ?_) fun hlt => ?_)
  · have hlt : (i : Int) < (D.length : Int) := of_decide_eq_true hlt
    have hiL : i < D.length := by omega
    have eg : D.getD i 0 = D[i] := by simp [List.getD_eq_getElem?_getD, hiL]
    refine ld_of (c := .slice) (da, D.length, dc) c2 (ix_ld ad hiL hiL ?_)
    rw [wr64 (by omega) (by omega)]
    refine br_of (fun he => ?_) fun he => ?_
    · have he : D[i] = z := by simpa using he
      refine ⟨⟨rfl, i + 1, ?_, hiL⟩, (by first | omega | (dsimp only; omega) | (simp only []; omega))⟩
      rw [lastN, if_pos (by rw [eg]; exact he)]; rfl
    · have he : D[i] ≠ z := by simpa using he
      refine ⟨⟨rfl, i + 1, ?_, hiL⟩, (by first | omega | (dsimp only; omega) | (simp only []; omega))⟩
      rw [lastN, if_neg (by rw [eg]; exact he)]; rfl
  · have hlt : ¬ (i : Int) < (D.length : Int) := of_decide_eq_false hlt
    have : i = D.length := by omega
    subst this
    exact ⟨rfl, rfl⟩
theorem rage_ok (z : Int) (r : RT h X c g S F D) (hD : D.length ≤ 900) : CallsH Tryd.prog 31 [.pointer (some ⟨c, 0, none⟩), .int .i64 z] h fun v h' => v = .int .u32 (ageR S D z) ∧ h' = h := by
  refine fun_ok hm' Tryd.func31 (by kernel_rfl) (F31_eq _ _ _ h) ?_
  unfold F31
  refine call_of (rlast_ok z r hD) ?_
  rintro v h' ⟨rfl, hh⟩; subst h'
  obtain ⟨⟨sc, fa, fc, da, dc, b, os, af, ad, hf, hd, hl⟩, xc, xg, ne⟩ := r
  refine ⟨lastF S D z, rfl, br_of (fun h1 => ⟨?_, rfl⟩) fun h1 => ld_of (c := .slice) (da, D.length, dc) (by rw [add_mk, cellH_blk b]; rfl) ⟨?_, rfl⟩⟩
  · rw [show ageR S D z = 0 from if_pos (of_decide_eq_true h1)]
  · rw [show ageR S D z = _ from if_neg (of_decide_eq_false h1)]
theorem rclosed_ok (r : RT h X c g S F D) (hD : D.length ≤ 900) : CallsH Tryd.prog 34 [.pointer (some ⟨c, 0, none⟩)] h fun v h' => ∃ a d, v = .slice a ((clP S D D.length).map Prod.fst).length d ∧ Got .i64 TI h h' a d ((clP S D D.length).map Prod.fst) := by
  refine fun_ok hm' Tryd.func34 (by kernel_rfl) (F34_eq _ _ h) ?_
  unfold F34
  obtain ⟨⟨sc, fa, fc, da, dc, b, os, af, ad, hf, hd, hl⟩, xc, xg, ne⟩ := id r
  refine new_of fun h1 b1 n1 s1 => ?_
  have hr0 : ∀ b : Nat, blkOf (some (⟨h.size, 0, none⟩ : Addr)) = some b → h.size ≤ b := fun b e => by injection e with e; change h.size = b at e; omega
  refine ⟨fun (s : (Option Addr × Nat × Nat) × Int) h' => ∃ i : Nat, s.2 = i ∧ i ≤ D.length ∧ s.1.2.1 = ((clP S D i).map Prod.fst).length ∧ Grow h1 (blkOf (some (⟨h.size, 0, none⟩ : Addr))) h' TI 1 s.1.1 s.1.2.1 s.1.2.2 (((clP S D i).map Prod.fst).map (Value.int .i64)),
    fun (s : (Option Addr × Nat × Nat) × Int) _ => ((D.length : Int) - s.2).toNat, ⟨0, rfl, Nat.zero_le _, rfl, Grow.start (RowS.nil' h1 _ 1 (some ⟨h.size, 0, none⟩))⟩, ?_⟩
  rintro ⟨⟨oa, on, oc⟩, s⟩ j h2 ⟨i, hs, hi, hon, g2⟩
  simp only [] at hs hon g2
  subst hs; subst hon
  have got2 := g2.got n1 hr0
  have r2 := r.new got2.new
  have cl := clP_len S D i
  have c2 : cellH h2 (Addr.add ⟨c, 0, none⟩ 2) = some (.slice da D.length dc) := by rw [add_mk, cellH_blk (b.new got2.new)]; rfl
  refine ld_of (c := .slice) (da, D.length, dc) c2 (br_of (fun hlt => ?_) fun hlt => ?_)
  · have hlt : (i : Int) < (D.length : Int) := of_decide_eq_true hlt
    have hiL : i < D.length := by omega
    have eg : D.getD i 0 = D[i] := by simp [List.getD_eq_getElem?_getD, hiL]
    refine ld_of (c := .slice) (da, D.length, dc) c2 (ix_ld (ad.new got2.new) hiL hiL (call_of (rlast_ok D[i] r2 hD) ?_))
    rintro v h' ⟨rfl, hh⟩; subst h'
    refine ⟨lastF S D D[i], rfl, ?_⟩
    rw [wr64 (by omega) (by omega)]
    refine br_of (fun he => ?_) fun he => ?_
    · have he : lastF S D D[i] = (i : Int) := by simpa using he
      refine ld_of (c := .slice) (da, D.length, dc) c2 (ix_ld (ad.new got2.new) hiL hiL ?_)
      refine Grow.push ap49 (v := .int .i64 D[i]) g2 rfl (by simp; omega) (by omega) fun a3 c3 h3 g3 => ?_
      have e3 : (clP S D (i + 1)).map Prod.fst = (clP S D i).map Prod.fst ++ [D[i]] := by rw [clP, eg, if_pos he, List.map_append]; rfl
      refine ⟨⟨i + 1, rfl, hiL, by rw [e3, List.length_append]; rfl, ?_⟩, (by first | omega | (dsimp only; omega) | (simp only []; omega))⟩
      rw [e3, List.map_append]; exact g3
    · have he : lastF S D D[i] ≠ (i : Int) := by simpa using he
      have e3 : (clP S D (i + 1)).map Prod.fst = (clP S D i).map Prod.fst := by rw [clP, eg, if_neg he, List.append_nil]
      refine ⟨⟨i + 1, rfl, hiL, by rw [e3], ?_⟩, (by first | omega | (dsimp only; omega) | (simp only []; omega))⟩
      rw [e3]; exact g2
  · have hlt : ¬ (i : Int) < (D.length : Int) := of_decide_eq_false hlt
    have : i = D.length := by omega
    subst this
    exact ⟨oa, oc, rfl, got2⟩
end
end Go.Proofs.YticppjmldlhbiaaDoor.R13
