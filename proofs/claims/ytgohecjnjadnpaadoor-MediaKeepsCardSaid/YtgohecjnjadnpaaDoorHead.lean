/-
  The contracts of package head.
-/
import Derived.Test.YtgohecjnjadnpaaDoorWHead
import Derived.Test.YtgohecjnjadnpaaDoorSum
namespace Go.Proofs.YtgohecjnjadnpaaDoor.Head
open Go.Pl Go.Proofs.YtgohecjnjadnpaaDoor.W Go.Proofs.YtgohecjnjadnpaaDoor.Four Go.Proofs.YtgohecjnjadnpaaDoor.Byts Go.Proofs.YtgohecjnjadnpaaDoor.Adl Go.Proofs.YtgohecjnjadnpaaDoor.As
/-- What a page is of. -/
abbrev Hd := Int × Int × Int × Int
def hdV (x : Hd) : Value := .agg #[.int .u8 x.1, .int .u32 x.2.1, .int .u32 x.2.2.1, .int .u32 x.2.2.2]
def hdA (x : Hd) : Array Value := #[.int .u8 x.1, .int .u32 x.2.1, .int .u32 x.2.2.1, .int .u32 x.2.2.2]
structure HdOk (x : Hd) : Prop where
  k : 0 ≤ x.1 ∧ x.1 < 256
  s : 0 ≤ x.2.1 ∧ x.2.1 < 4294967296
  i : 0 ≤ x.2.2.1 ∧ x.2.2.1 < 4294967296
  q : 0 ≤ x.2.2.2 ∧ x.2.2.2 < 4294967296
def isR (x : Hd) : Bool := decide (1 ≤ x.1 ∧ x.1 ≤ 5)
theorem right_ok (x : Hd) (h : Heap) : CallsH Tryd.prog 21 [hdV x] h fun v h' => v = .bool (isR x) ∧ New h h' := by
  refine fun_ok hm' Tryd.func21 (by kernel_rfl) (F21_eq _ _ _ _ _ h) ?_
  unfold F21
  refine new_of fun h1 b1 n1 s1 => ld_of (c := .int .u8) x.1 (by rw [add_mk, cellH_blk b1]; rfl) (br_of (fun h0 => ld_of (c := .int .u8) x.1 (by rw [add_mk, cellH_blk b1]; rfl) ⟨?_, n1⟩) fun h0 => ⟨?_, n1⟩)
  · have h0 := of_decide_eq_true h0
    unfold isR; congr 1; simp; omega
  · have h0 := of_decide_eq_false h0
    unfold isR; congr 1; symm; simp; omega
def fours (ls : List Int) : List Int := (ls.map four).flatten
theorem fours_len (ls : List Int) : (fours ls).length = 4 * ls.length := by
  induction ls with
  | nil => rfl
  | cons x l ih => simp only [fours, List.map_cons, List.flatten_cons, List.length_append, four_len, List.length_cons] at ih ⊢; omega
theorem fours_take (ls : List Int) (i : Nat) (hi : i < ls.length) : fours (ls.take (i + 1)) = fours (ls.take i) ++ four ls[i] := by
  unfold fours
  rw [List.take_add_one, List.map_append, List.flatten_append, List.getElem?_eq_getElem hi]; simp
theorem fours_byt (ls : List Int) : Byt (fours ls) := fun x hx => by
  unfold fours at hx
  obtain ⟨l, hl, hx⟩ := List.mem_flatten.1 hx
  obtain ⟨n, _, rfl⟩ := List.mem_map.1 hl
  exact four_byt n x hx
theorem ap8 : apB Tryd.prog 25 5 1 1 = true := by kernel_rfl
theorem lay_ok (a la : Option Addr) (c lc : Nat) (xs ls : List Int) (h : Heap) (r : RowS h 5 1 a xs.length c (xs.map (Value.int .u8))) (rl : Ar .u32 h la ls) (hne : ls ≠ [] → blkOf la ≠ blkOf a) (hn : xs.length + 4 * ls.length ≤ 100000) :
    CallsH Tryd.prog 54 [.slice a xs.length c, .slice la ls.length lc] h fun v h' => ∃ a' c', v = .slice a' (xs ++ fours ls).length c' ∧ Grow h (blkOf a) h' 5 1 a' (xs ++ fours ls).length c' ((xs ++ fours ls).map (Value.int .u8)) := by
  refine fun_ok hm' Tryd.func54 (by kernel_rfl) (F54_eq _ _ _ _ _ _ _ h) ?_
  unfold F54
  refine ⟨fun (s : (Option Addr × Nat × Nat) × Int) h' => ∃ i : Nat, s.2 = i ∧ i ≤ ls.length ∧ s.1.2.1 = (xs ++ fours (ls.take i)).length ∧ Grow h (blkOf a) h' 5 1 s.1.1 s.1.2.1 s.1.2.2 ((xs ++ fours (ls.take i)).map (Value.int .u8)), fun (s : (Option Addr × Nat × Nat) × Int) _ => ((ls.length : Int) - s.2).toNat, ⟨0, rfl, Nat.zero_le _, by simp [fours], by simpa [fours] using Grow.start r⟩, ?_⟩
  rintro ⟨⟨b, n, c1⟩, s⟩ j h1 ⟨i, hs, hi, hln, g⟩
  simp only [] at hs hln g ⊢
  subst hs
  refine br_of (fun hlt => ?_) (fun hlt => ?_)
  · have hlt : i < ls.length := by simp at hlt; omega
    have hlne : ls ≠ [] := fun e => by subst e; simp at hlt
    have rl1 : Ar .u32 h1 la ls := fun i x hx => by
      obtain ⟨b, o, e, hb, hc⟩ := rl i x hx
      refine ⟨b, o, e, Nat.lt_of_lt_of_le hb g.upd.size, ?_⟩
      rw [cellH_same (g.upd.same b hb fun e' => hne hlne (by rw [e]; exact e'))]; exact hc
    refine ix_ld rl1 hlt (by omega) ?_
    have hn1 : (xs ++ fours (ls.take i)).length = xs.length + 4 * i := by rw [List.length_append, fours_len, List.length_take]; omega
    refine ⟨fun (q : (Option Addr × Nat × Nat) × Int) h' => ∃ k : Nat, q.2 = k ∧ k ≤ 4 ∧ q.1.2.1 = xs.length + 4 * i + k ∧ Grow h (blkOf a) h' 5 1 q.1.1 q.1.2.1 q.1.2.2 ((xs ++ fours (ls.take i) ++ (four ls[i]).take k).map (Value.int .u8)), fun (q : (Option Addr × Nat × Nat) × Int) _ => (4 - q.2).toNat, ⟨0, rfl, by omega, (by first | omega | (dsimp only; omega) | (simp only []; omega)), by simpa using g⟩, ?_⟩
    rintro ⟨⟨b2, n2, c2⟩, q⟩ j2 h2 ⟨k, hq, hk, hkn, g2⟩
    simp only [] at hq hkn g2 ⊢
    subst hq
    refine br_of (fun hlt2 => ?_) (fun hlt2 => ?_)
    · have hlt2 : k < 4 := by simp at hlt2; omega
      rw [wr64 (n := 8 * (k : Int)) (by omega) (by omega), wr64 (n := (k : Int) + 1) (by omega) (by omega)]
      refine ck_t (decide_eq_true (by omega)) ?_
      rw [shr_byte _ k hlt2 rfl]
      refine Grow.push ap8 g2 rfl (by omega) (by omega) fun a3 c3 h3 g3 => ⟨⟨k + 1, rfl, by omega, (by first | omega | (dsimp only; omega) | (simp only []; omega)), ?_⟩, (by first | omega | (dsimp only; omega) | (simp only []; omega))⟩
      rw [List.take_add_one, four_get _ hlt2, ← List.append_assoc, List.map_append]
      exact g3
    · have hk4 : k = 4 := by simp at hlt2; omega
      subst hk4
      rw [wr64 (by omega) (by omega)]
      have e4 : (four ls[i]).take 4 = four ls[i] := List.take_of_length_le (Nat.le_of_eq (four_len _))
      rw [e4, List.append_assoc, ← fours_take ls i hlt] at g2
      refine ⟨⟨i + 1, rfl, hlt, ?_, g2⟩, (by first | omega | (dsimp only; omega) | (simp only []; omega))⟩
      rw [List.length_append, fours_len, List.length_take]; omega
  · have hi : i = ls.length := by simp at hlt; omega
    subst hi
    rw [List.take_length] at hln g
    subst hln
    exact ⟨b, c1, rfl, g⟩
theorem number_ok (a : Option Addr) (c : Nat) (xs : List Int) (n : Nat) (hx : n = xs.length) (h : Heap) (s : Sl8 h a c xs) (hl : 4 ≤ xs.length) :
    CallsH Tryd.prog 59 [.slice a n c] h fun v h' => v = .int .u32 (wordAt xs 0) ∧ h' = h := by
  subst hx
  refine fun_ok hm' Tryd.func59 (by kernel_rfl) (F59_eq _ _ _ _ h) ?_
  unfold F59
  refine s.sl 0 4 4 rfl rfl rfl (by omega) hl (by omega) (by have := s.le; omega) fun b d sb => ?_
  rw [List.drop_zero] at sb
  refine ⟨fun (q : Int × Int) h' => h' = h ∧ ∃ i : Nat, q.2 = i ∧ i ≤ 4 ∧ q.1 = accW (bys xs) i, fun (q : Int × Int) _ => (4 - q.2).toNat, ⟨rfl, 0, rfl, by omega, rfl⟩, ?_⟩
  rintro ⟨acc, q⟩ j h' ⟨hh, i, hq, hi, ha⟩
  simp only [] at hq ha ⊢
  subst h'; subst hq; subst ha
  have h4 : (xs.take 4).length = 4 := by simp; omega
  refine br_of (fun hlt => ?_) (fun hlt => ?_)
  · have hlt : i < 4 := by simp at hlt; omega
    rw [wr64 (n := 8 * (i : Int)) (by omega) (by omega), wr64 (n := (i : Int) + 1) (by omega) (by omega)]
    refine sb.at_ i rfl (show i < (xs.take 4).length by omega) (by omega) (ck_t (decide_eq_true (by omega)) ⟨⟨rfl, i + 1, rfl, by omega, ?_⟩, (by first | omega | (dsimp only; omega) | (simp only []; omega))⟩)
    rw [bys_take hlt]
    have hby : ∀ t, 0 ≤ bys xs t ∧ bys xs t < 256 := fun t => s.byt.get t
    obtain ⟨h0, hlt'⟩ := accW_nat hby i
    obtain ⟨h0', hlt''⟩ := hby i
    simp only [accW]
    generalize accW (bys xs) i = A at h0 hlt' ⊢
    generalize bys xs i = B at h0' hlt'' ⊢
    obtain ⟨A, rfl⟩ := Int.eq_ofNat_of_zero_le h0
    obtain ⟨B, rfl⟩ := Int.eq_ofNat_of_zero_le h0'
    rw [or_byte (n := A) (c := B) (i := i) (by omega) (Int.ofNat_lt.1 (by rw [Int.natCast_pow]; exact hlt')) (by omega) rfl]
    simp
  · have hi : i = 4 := by simp at hlt; omega
    subst hi
    exact ⟨by rw [accW_four]; rfl, rfl⟩
theorem number_q (a : Option Addr) (c : Nat) (xs : List Int) (n : Nat) (hx : n = xs.length) (h : Heap) (s : Sl8 h a c xs) (hl : 4 ≤ xs.length) {F : Int → Prop} (hF : F (wordAt xs 0)) : callQ Tryd.prog 59 [.slice a n c] [.sc (.int .u32)] F h :=
  ⟨wordAt xs 0, fun h' e => number_ok a c xs n hx h' (s.new e.new) hl, hF⟩
/-- The bytes of a head; of a page; and why there are none. -/
def headL (x : Hd) : List Int := x.1 :: fours [x.2.1, x.2.2.1, x.2.2.2]
def pageL (x : Hd) (bs : List Int) : List Int := headL x ++ four (sumL (headL x ++ bs)) ++ bs
def bytesF (x : Hd) (bs : List Int) : List Int × Int := if isR x = false then ([], 1) else if bs.length ≠ 16 then ([], 3) else (pageL x bs, 0)
theorem headL_len (x : Hd) : (headL x).length = 13 := rfl
theorem headL_byt {x : Hd} (h : HdOk x) : Byt (headL x) := fun y hy => by
  rcases List.mem_cons.1 hy with rfl | hy
  · exact h.k
  · exact fours_byt _ y hy
theorem zeroH : zeroC Tryd.prog 24 = hdA (0, 0, 0, 0) := by kernel_rfl
theorem clone_ok (a : Option Addr) (c : Nat) (xs : List Int) (n : Nat) (hx : n = xs.length) (h : Heap) (r : Ar .u8 h a xs) (hl : xs.length ≤ 100000) :
    CallsH Tryd.prog 60 [.slice a n c] h fun v h' => ∃ a' c', v = .slice a' xs.length c' ∧ Got .u8 5 h h' a' c' xs := by
  subst hx
  refine fun_ok hm' Tryd.func60 (by kernel_rfl) (F60_eq _ _ _ _ h) ?_
  unfold F60
  refine br_of (fun h0 => ?_) fun h0 => ?_
  · have ha : a = none := by simpa using h0
    subst ha
    have hx : xs = [] := by
      cases xs with
      | nil => rfl
      | cons x xs => obtain ⟨_, _, e, _⟩ := r.lt' (by simp); cases e
    subst hx
    exact ⟨none, 0, rfl, Got.nil _ _ (New.refl h)⟩
  · refine new_of fun h1 b1 n1 s1 => ?_
    have g1 : Grow h1 (some h.size) h1 5 1 (some ⟨h.size, 0, none⟩) 0 0 (([] : List Int).map (Value.int .u8)) := Grow.start (RowS.blk b1 rfl (Nat.zero_le _))
    refine Grow.ints ap8 g1 (r.new n1) rfl (by omega) (by omega) fun a' c' h' g => ⟨a', c', by rw [List.nil_append], ?_⟩
    rw [List.nil_append] at g
    exact g.got n1 (fun b e => by injection e with e; omega)
theorem pair_arr (x y z : Int) : (#[Value.int .u32 x, .int .u32 y, .int .u32 z] : Array Value) = (([x, y, z] : List Int).map (Value.int .u32)).toArray := rfl
theorem bytes_ok (x : Hd) (hx : HdOk x) (a : Option Addr) (c : Nat) (bs : List Int) (h : Heap) (s : Sl8 h a c bs) :
    CallsH Tryd.prog 15 [hdV x, .slice a bs.length c] h fun v h' => ∃ a' c', v = .tuple #[.slice a' (bytesF x bs).1.length c', errV (bytesF x bs).2] ∧ Got .u8 5 h h' a' c' (bytesF x bs).1 ∧ ((bytesF x bs).2 = 0 → OwnH h' 0 5 1 a' (bytesF x bs).1.length c' ((bytesF x bs).1.map (Value.int .u8))) := by
  refine fun_ok hm' Tryd.func15 (by kernel_rfl) (F15_eq _ _ _ _ _ _ _ _ h) ?_
  unfold F15
  refine new_of fun h1 b1 n1 s1 => ldAgg_blk x b1 ⟨rfl, rfl, rfl, rfl, trivial⟩ (call_of (right_ok x h1) ?_)
  rintro v h2 ⟨rfl, n2⟩
  have n02 := n1.trans n2
  refine ⟨isR x, rfl, ?_⟩
  cases hr : isR x with
  | false => exact br_t rfl ⟨none, 0, by simp [bytesF, hr, errV], by simpa [bytesF, hr] using Got.nil _ _ n02, by simp [bytesF, hr]⟩
  | true =>
  refine br_f rfl (br_of (fun h0 => ?_) fun h0 => ?_)
  · have h0 : bs.length ≠ 16 := by simp at h0; omega
    exact ⟨none, 0, by simp [bytesF, hr, h0, errV], by simpa [bytesF, hr, h0] using Got.nil _ _ n02, by simp [bytesF, hr, h0]⟩
  have h16 : bs.length = 16 := by simp at h0; omega
  have ef : bytesF x bs = (pageL x bs, 0) := by simp [bytesF, hr, h16]
  rw [ef]
  have b1' := b1.new n2
  refine ld_of (c := .int .u8) x.1 (by rw [add_mk, cellH_blk b1']; rfl) (new_of fun h3 b3 n3 s3 => ?_)
  have b3' := b1'.new n3
  refine ld_of (c := .int .u32) x.2.1 (by rw [add_mk, cellH_blk b3']; rfl) (ld_of (c := .int .u32) x.2.2.1 (by rw [add_mk, cellH_blk b3']; rfl) (ld_of (c := .int .u32) x.2.2.2 (by rw [add_mk, cellH_blk b3']; rfl) (new_of fun h4 b4 n4 s4 => ?_)))
  rw [pair_arr] at b4
  have rw3 : RowS h4 5 1 (some ⟨h2.size, 0, none⟩) ([x.1] : List Int).length 1 (([x.1] : List Int).map (Value.int .u8)) := (RowS.blk (n := 1) b3 rfl (by simp [maxLen])).new n4
  refine call_of (lay_ok (some ⟨h2.size, 0, none⟩) (some ⟨h3.size, 0, none⟩) 1 3 [x.1] [x.2.1, x.2.2.1, x.2.2.2] h4 rw3 (Ar.blk b4) (fun _ e => by injection e with e; change h3.size = h2.size at e; omega) (by simp)) ?_
  rintro v h5 ⟨a5, c5, rfl, g5⟩
  have n24 : New h h4 := (n02.trans n3).trans n4
  have g5 : Grow h4 (some h2.size) h5 5 1 a5 (headL x).length c5 ((headL x).map (Value.int .u8)) := g5
  have k5 : Got .u8 5 h h5 a5 c5 (headL x) := g5.got n24 (fun b e => by injection e with e; have := n02.size; omega)
  refine ⟨(a5, (headL x).length, c5), rfl, call_of (Sum.of_ok a5 c5 (headL x) h5 k5.row.le (fun e => by subst e; exact k5.row.none0.2.1) (headL_byt hx) k5.ar) ?_⟩
  rintro v h6 ⟨rfl, n6⟩
  have n06 := k5.new.trans n6
  refine ⟨sumL (headL x), rfl, call_of (Sum.add_ok _ (adl_in _ _ in10) a c bs h6 s.le s.nil s.byt (s.ar.new n06)) ?_⟩
  rintro v h7 ⟨rfl, n7⟩
  have esum : enc (adl (adl (1, 0) (headL x)) bs) = sumL (headL x ++ bs) := by unfold sumL; rw [adl_app]
  rw [esum]
  refine ⟨sumL (headL x ++ bs), rfl, new_of fun h8 b8 n8 s8 => ?_⟩
  have n58 := (n6.trans n7).trans n8
  have g8 := g5.new n58
  have k8 := k5.after n58
  have sz7 := n7.size; have sz6 := n6.size
  refine call_of (lay_ok a5 (some ⟨h7.size, 0, none⟩) c5 1 (headL x) [sumL (headL x ++ bs)] h8 g8.row (Ar.blk b8) (fun _ e => ?_) (by simp [headL_len])) ?_
  · have := k5.row.lt (by simp [headL]) h7.size (by rw [← e]; rfl)
    omega
  rintro v h9 ⟨a9, c9, rfl, g9⟩
  have g9 : Grow h8 (blkOf a5) h9 5 1 a9 (headL x ++ four (sumL (headL x ++ bs))).length c9 ((headL x ++ four (sumL (headL x ++ bs))).map (Value.int .u8)) := by
    have e : fours [sumL (headL x ++ bs)] = four (sumL (headL x ++ bs)) := by simp [fours]
    rw [e] at g9; exact g9
  have k9 : Got .u8 5 h h9 a9 c9 (headL x ++ four (sumL (headL x ++ bs))) := g9.got k8.new (fun b e => k5.at_ (by simp [headL]) b e)
  refine ⟨(a9, (headL x ++ four (sumL (headL x ++ bs))).length, c9), rfl, ?_⟩
  have hl17 : (headL x ++ four (sumL (headL x ++ bs))).length = 17 := by rw [List.length_append, headL_len, four_len]
  refine Grow.ints' ap8 (Grow.start k9.row) (s.ar.new k9.new) rfl (by omega) (by omega) fun a' c' h' g ow => ⟨a', c', rfl, ?_, fun _ => ow fun e => by rw [e] at h16; cases h16⟩
  exact g.got k9.new (fun b e => k9.at_ (by simp [headL]) b e)
/-- What a page is of, its block, and why there is none. -/
def hdOf (p : List Int) : Hd := (bys p 0, wordAt p 1, wordAt p 5, wordAt p 9)
def readF (p : List Int) : Hd × List Int × Int :=
  if p.length ≠ 33 then ((0, 0, 0, 0), [], 3) else if sumL (p.take 13 ++ p.drop 17) ≠ wordAt p 13 then ((0, 0, 0, 0), [], 4) else if isR (hdOf p) = false then ((0, 0, 0, 0), [], 2) else (hdOf p, p.drop 17, 0)
theorem hdOf_ok {p : List Int} (h : Byt p) : HdOk (hdOf p) := ⟨h.get _, wordAt_range h _, wordAt_range h _, wordAt_range h _⟩
theorem hd0_ok : HdOk (0, 0, 0, 0) := ⟨by decide, by decide, by decide, by decide⟩
theorem readF_ok {p : List Int} (h : Byt p) : HdOk (readF p).1 := by
  unfold readF; split
  · exact hd0_ok
  · split
    · exact hd0_ok
    · split
      · exact hd0_ok
      · exact hdOf_ok h
theorem readF_byt {p : List Int} (h : Byt p) : Byt (readF p).2.1 := by
  unfold readF; split
  · exact fun x hx => by cases hx
  · split
    · exact fun x hx => by cases hx
    · split
      · exact fun x hx => by cases hx
      · exact h.drop 17
def ReadR (p : List Int) (h : Heap) (v : Value) (h' : Heap) : Prop := ∃ a' c', v = .tuple #[hdV (readF p).1, .slice a' (readF p).2.1.length c', errV (readF p).2.2] ∧ Got .u8 5 h h' a' c' (readF p).2.1
theorem read_ok (a : Option Addr) (c : Nat) (p : List Int) (h : Heap) (s : Sl8 h a c p) : CallsH Tryd.prog 17 [.slice a p.length c] h (ReadR p h) := by
  refine fun_ok hm' Tryd.func17 (by kernel_rfl) (F17_eq _ _ _ _ h) ?_
  unfold F17
  rw [zeroH]
  refine new_of fun h1 b1 n1 z1 => ?_
  have out : ∀ (x : Hd) (h2 : Heap) (e : Value) (b : Option Addr) (m c' : Nat), (∃ A, Blk h2 h.size A 24 ∧ A.size = 4) → New h h2 → (∀ h', Upd h.size h2 h' → New h h' → ReadR p h (.tuple #[hdV x, .slice b m c', e]) h') →
      stLW ⟨h.size, 0, none⟩ [.int .u8 x.1, .int .u32 x.2.1, .int .u32 x.2.2.1, .int .u32 x.2.2.2] (fun h3 => ldAggW [.int .u8, .int .u32, .int .u32, .int .u32] ⟨h.size, 0, none⟩ (fun (y : Int × Int × Int × Int) => ReadR p h (.tuple #[.agg #[.int .u8 y.1, .int .u32 y.2.1, .int .u32 y.2.2.1, .int .u32 y.2.2.2], .slice b m c', e]) h3) h3) h2 := by
    intro x h2 e b m c' ⟨A, bA, hA⟩ n2 hK
    refine stL_blk bA (by rw [hA]; exact Nat.le_refl _) fun h3 b3 o3 => ?_
    have b3 : Blk h3 h.size (hdA x) 24 := by rw [setsA_all (by rw [hA]; rfl)] at b3; exact b3
    exact ldAgg_blk x b3 ⟨rfl, rfl, rfl, rfl, trivial⟩ (hK h3 o3.upd (o3.upd.new n2 (Nat.le_refl _)))
  refine br_of (fun h0 => ?_) fun h0 => ?_
  · have h0 : p.length ≠ 33 := by simp at h0; omega
    have ef : readF p = ((0, 0, 0, 0), [], 3) := if_pos h0
    exact out (0, 0, 0, 0) h1 _ none 0 0 ⟨_, b1, rfl⟩ n1 fun h' _ n' => ⟨none, 0, by rw [ef]; rfl, by rw [ef]; exact Got.nil _ _ n'⟩
  have h33 : p.length = 33 := by simp at h0; omega
  have s1 := s.new n1
  have hle := s.le
  rw [h33]
  refine s1.sl 17 33 c rfl rfl rfl (by omega) (by omega) (by omega) (Nat.le_refl _) fun bB dB sB => ?_
  refine s1.at_ 0 rfl (by omega) (by omega) ?_
  have hnum : ∀ (k : Nat), k + 4 ≤ 33 → ((p.drop k).take (33 - k)) = p.drop k := fun k hk => List.take_of_length_le (by simp; omega)
  refine s1.sl 1 33 c rfl rfl rfl (by omega) (by omega) (by omega) (Nat.le_refl _) fun b2 d2 s2 => ?_
  rw [hnum 1 (by omega)] at s2
  refine number_q b2 d2 (p.drop 1) _ (by simp; omega) h1 s2 (by simp; omega) ?_
  refine s1.sl 5 33 c rfl rfl rfl (by omega) (by omega) (by omega) (Nat.le_refl _) fun b3 d3 s3 => ?_
  rw [hnum 5 (by omega)] at s3
  refine number_q b3 d3 (p.drop 5) _ (by simp; omega) h1 s3 (by simp; omega) ?_
  refine s1.sl 9 33 c rfl rfl rfl (by omega) (by omega) (by omega) (Nat.le_refl _) fun b4 d4 s4 => ?_
  rw [hnum 9 (by omega)] at s4
  refine number_q b4 d4 (p.drop 9) _ (by simp; omega) h1 s4 (by simp; omega) ?_
  rw [wordAt_drop, wordAt_drop, wordAt_drop]
  refine new_stL (by rfl) fun h2 b5 n2 s5 => ?_
  have b5 : Blk h2 h1.size (hdA (hdOf p)) 24 := b5
  have n02 := n1.trans n2
  have s2' := s.new n02
  refine s2'.sl 0 13 13 rfl rfl rfl (by omega) (by omega) (by omega) (by omega) fun b6 d6 s6 => ?_
  rw [List.drop_zero] at s6
  refine s2'.sl 13 33 c rfl rfl rfl (by omega) (by omega) (by omega) (Nat.le_refl _) fun b7 d7 s7 => ?_
  rw [hnum 13 (by omega)] at s7
  have h13 : (p.take 13).length = 13 := by simp; omega
  have hB : ((p.drop 17).take (33 - 17)) = p.drop 17 := hnum 17 (by omega)
  rw [hB] at sB
  have hBl : (p.drop 17).length = 33 - 17 := by simp; omega
  have ho := Sum.of_ok b6 d6 (p.take 13) h2 s6.le s6.nil s6.byt s6.ar
  rw [h13] at ho
  refine call_of ho ?_
  rintro v h3 ⟨rfl, n3⟩
  refine ⟨sumL (p.take 13), rfl, ?_, n3.ext⟩
  have n03 := n02.trans n3
  have ha := Sum.add_ok _ (adl_in (p.take 13) _ in10) bB dB (p.drop 17) h3 sB.le sB.nil sB.byt (sB.ar.new (n2.trans n3))
  rw [hBl] at ha
  refine call_of ha ?_
  rintro v h4 ⟨rfl, n4⟩
  have esum : enc (adl (adl (1, 0) (p.take 13)) (p.drop 17)) = sumL (p.take 13 ++ p.drop 17) := by unfold sumL; rw [adl_app]
  rw [esum]
  refine ⟨sumL (p.take 13 ++ p.drop 17), rfl, ?_, n4.ext⟩
  have n04 := n03.trans n4
  have b1' : Blk h4 h.size (hdA (0, 0, 0, 0)) 24 := b1.new ((n2.trans n3).trans n4)
  refine number_q b7 d7 (p.drop 13) _ (by simp; omega) h4 (s7.new (n3.trans n4)) (by simp; omega) ?_
  rw [wordAt_drop]
  refine br_of (fun h5 => ?_) fun h5 => ?_
  · have h5 : sumL (p.take 13 ++ p.drop 17) ≠ wordAt p 13 := by simpa using h5
    have ef : readF p = ((0, 0, 0, 0), [], 4) := by unfold readF; rw [if_neg (by omega), if_pos h5]
    exact out (0, 0, 0, 0) h4 _ none 0 0 ⟨_, b1', rfl⟩ n04 fun h' _ n' => ⟨none, 0, by rw [ef]; rfl, by rw [ef]; exact Got.nil _ _ n'⟩
  have h5 : sumL (p.take 13 ++ p.drop 17) = wordAt p 13 := by simpa using h5
  have b5' := b5.new (n3.trans n4)
  refine ldAgg_blk (hdOf p) b5' ⟨rfl, rfl, rfl, rfl, trivial⟩ (call_of (right_ok (hdOf p) h4) ?_)
  rintro v h6 ⟨rfl, n6⟩
  have n06 := n04.trans n6
  refine ⟨isR (hdOf p), rfl, ?_⟩
  cases hr : isR (hdOf p) with
  | false =>
    have ef : readF p = ((0, 0, 0, 0), [], 2) := by unfold readF; rw [if_neg (by omega), if_neg (by simp [h5]), if_pos hr]
    exact br_t rfl (out (0, 0, 0, 0) h6 _ none 0 0 ⟨_, b1'.new n6, rfl⟩ n06 fun h' _ n' => ⟨none, 0, by rw [ef]; rfl, by rw [ef]; exact Got.nil _ _ n'⟩)
  | true =>
  have ef : readF p = (hdOf p, p.drop 17, 0) := by unfold readF; rw [if_neg (by omega), if_neg (by simp [h5]), if_neg (by simp [hr])]
  refine br_f rfl (ldAgg_blk (hdOf p) (b5'.new n6) ⟨rfl, rfl, rfl, rfl, trivial⟩ (call_of (clone_ok bB dB (p.drop 17) _ hBl.symm h6 (sB.ar.new (((n2.trans n3).trans n4).trans n6)) (by omega)) ?_))
  rintro v h7 ⟨a7, c7, rfl, g7⟩
  refine ⟨(a7, (p.drop 17).length, c7), rfl, ?_, g7.new.ext⟩
  refine out (hdOf p) h7 .nilIface a7 _ c7 ⟨_, (b1'.new n6).new g7.new, rfl⟩ (n06.trans g7.new) fun h' u' n' => ⟨a7, c7, by rw [ef]; rfl, ?_⟩
  rw [ef]
  exact ⟨g7.row.keep u'.size fun g hg hl => u'.same g hl fun e => by have := g7.at_ (fun e0 => by rw [e0] at hBl; simp at hBl) g hg; have := (((n2.trans n3).trans n4).trans n6).size; omega, n', fun hx b hb => Nat.le_trans n06.size (g7.at_ hx b hb)⟩
end Go.Proofs.YtgohecjnjadnpaaDoor.Head
