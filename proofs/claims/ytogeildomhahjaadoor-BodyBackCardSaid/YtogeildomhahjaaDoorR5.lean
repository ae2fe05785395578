/-
  The contracts of the reference of body.
-/
import Derived.Test.YtogeildomhahjaaDoorWR5
import Derived.Test.YtogeildomhahjaaDoorBody
namespace Go.Proofs.YtogeildomhahjaaDoor.R5
open Go.Pl Go.Proofs.YtogeildomhahjaaDoor.W Go.Proofs.YtogeildomhahjaaDoor.Four Go.Proofs.YtogeildomhahjaaDoor.As Go.Proofs.YtogeildomhahjaaDoor.Body
theorem ap8 : apB Tryd.prog 25 5 1 1 = true := by kernel_rfl
theorem tm (n k : Int) (h : 0 ≤ n) : Int.tmod n k = n % k := Int.tmod_eq_emod_of_nonneg h
theorem td (n k : Int) (h : 0 ≤ n) : Int.tdiv n k = n / k := Int.tdiv_eq_ediv_of_nonneg h
theorem four_ok (n : Int) (hn : 0 ≤ n ∧ n < 4294967296) (h : Heap) : CallsH Tryd.prog 50 [.int .u32 n] h fun v h' => Fresh .u8 5 h h' v (four n) := by
  refine fun_ok hm' Tryd.func50 (by kernel_rfl) (F50_eq _ _ h) ?_
  unfold F50
  have e0 : IntKind.wrap .u8 (Int.tmod n 256) = n % 256 := by rw [wru8, tm _ _ hn.1]; omega
  have e1 : IntKind.wrap .u8 (Int.tmod (IntKind.wrap .u32 (Int.tdiv n 256)) 256) = n / 256 % 256 := by rw [wru8, wru32, td _ _ hn.1, tm _ _ (by omega)]; omega
  have e2 : IntKind.wrap .u8 (Int.tmod (IntKind.wrap .u32 (Int.tdiv n 65536)) 256) = n / 65536 % 256 := by rw [wru8, wru32, td _ _ hn.1, tm _ _ (by omega)]; omega
  have e3 : IntKind.wrap .u8 (IntKind.wrap .u32 (Int.tdiv n 16777216)) = n / 16777216 % 256 := by rw [wru8, wru32, td _ _ hn.1]; omega
  rw [e0, e1, e2, e3]
  refine new_of fun h1 b1 n1 s1 => ⟨_, 4, rfl, ?_, n1⟩
  exact OwnH.of_blk (n := 4) (size := 1) b1 (Nat.le_refl _) rfl (by simp [maxLen])
theorem ofPlaces_ok (l : Pls) (hl : PlsOk l) (h : Heap) : CallsH Tryd.prog 19 [plsV l] h fun v h' => Fresh .u8 5 h h' v (plsB l) := by
  refine fun_ok hm' Tryd.func19 (by kernel_rfl) (F19_eq _ _ _ _ _ h) ?_
  unfold F19
  refine new_of fun h1 b1 n1 s1 => new_of fun h2 b2 n2 s2 => ?_
  let pre : Nat → List Int := fun i => ((List.range i).map fun j => four (word l j)).flatten
  have hpl : ∀ i, (pre i).length = 4 * i := by
    intro i
    induction i with
    | zero => rfl
    | succ i ih => simp only [pre] at ih ⊢; rw [List.range_succ, List.map_append, List.flatten_append, List.length_append, ih]; simp [four_len]; omega
  refine ⟨fun (s : (Option Addr × Nat × Nat) × Int) h' => ∃ i : Nat, s.2 = i ∧ i ≤ 4 ∧ s.1.2.1 = (pre i).length ∧ OwnH h' h1.size 5 1 s.1.1 (pre i).length s.1.2.2 ((pre i).map (Value.int .u8)) ∧ New h1 h', fun (s : (Option Addr × Nat × Nat) × Int) _ => (4 - s.2).toNat, ⟨0, rfl, by omega, rfl, ?_, n2⟩, ?_⟩
  · have := OwnH.of_blk (base := h1.size) (n := 0) (size := 1) b2 (Nat.le_refl _) rfl (by simp [maxLen])
    exact this
  rintro ⟨⟨a, n, c⟩, s⟩ j h3 ⟨i, hs, hi, hn, ow, n3⟩
  simp only [] at hs hn ow ⊢
  subst hs; subst hn
  have hp := hpl i
  refine br_of (fun hlt => ?_) (fun hlt => ?_)
  · have hlt : i < 4 := by simp at hlt; omega
    refine ⟨⟨by omega, rfl⟩, ?_⟩
    refine ld_of (c := .int .u32) (word l i) ?_ (call_of (four_ok _ (hl i) h3) ?_)
    · rw [Int.toNat_natCast, Nat.mul_one, add_mk, cellH_blk (b1.new n3), Nat.zero_add]; exact wordsA_get (word l) hlt
    rintro v h4 ⟨a', c', rfl, ow', n4⟩
    refine ⟨(a', 4, c'), rfl, ?_⟩
    refine ap_ints ap8 (ow.grow n4) (Ar.own ow') rfl (fun e => by subst e; have := ow'.row.2; simp [four_len] at this) (by have := four_len (word l i); omega) (by omega) (by have := n1.size; have := n3.size; have := n4.size; omega) ?_
    intro a5 c5 h5 ow5 u5
    rw [wr64 (by omega) (by omega)]
    have e : pre (i + 1) = pre i ++ four (word l i) := by simp only [pre]; rw [List.range_succ, List.map_append, List.flatten_append]; simp
    exact ⟨⟨i + 1, by simp, by omega, by simp only [e], by rw [e]; exact ow5, u5.grow (n3.trans n4) fun g hg => ((ow.grow n4).blk_ge g hg).1⟩, by simp; omega⟩
  · have hi : i = 4 := by simp at hlt; omega
    subst hi
    have e : pre 4 = plsB l := by rw [plsB_eq]; simp [pre, List.range, List.range.loop, word]
    rw [← e]
    exact ⟨a, c, rfl, ow.low (by omega), n1.trans n3⟩
theorem wordsZ : zeroC Tryd.prog 23 = wordsA fun _ => 0 := by kernel_rfl
/-- What bytes say as addresses, and why not. -/
def placesF (xs : List Int) : Pls × Int := if xs.length = 16 then (plsOf xs, 0) else ((0, 0, 0, 0), 3)
theorem toPlaces_ok (a : Option Addr) (c : Nat) (xs : List Int) (h : Heap) (hb : Byt xs) (r : Ar .u8 h a xs) : CallsH Tryd.prog 14 [.slice a xs.length c] h fun v h' => v = .tuple #[plsV (placesF xs).1, .int .i64 (placesF xs).2] ∧ New h h' := by
  refine fun_ok hm' Tryd.func14 (by kernel_rfl) (F14_eq _ _ _ _ h) ?_
  unfold F14
  rw [wordsZ]
  refine new_of fun h1 b1 n1 s1 => new_of fun h2 b2 n2 s2 => stL_blk b2 (Nat.le_refl 4) fun h3 b3 o3 => ?_
  have n3 := o3.upd.new (n1.trans n2) (by omega)
  have b3 : Blk h3 h1.size (wordsA fun _ => 0) 23 := b3
  have b1' := (b1.new n2).only o3 (by omega)
  refine br_of (fun hne => ?_) (fun heq => ?_)
  · have hne : xs.length ≠ 16 := by simp at hne; omega
    have e : placesF xs = ((0, 0, 0, 0), 3) := if_neg hne
    rw [e]
    refine ldAgg_blk ((0 : Int), (0 : Int), (0 : Int), (0 : Int)) b3 ⟨rfl, rfl, rfl, rfl, trivial⟩ ?_
    exact stL_blk b1' (Nat.le_refl 4) fun h4 b4 o4 => ldAgg_blk ((0 : Int), (0 : Int), (0 : Int), (0 : Int)) b4 ⟨rfl, rfl, rfl, rfl, trivial⟩ ⟨rfl, o4.upd.new n3 (by omega)⟩
  have hl : xs.length = 16 := by simp at heq; omega
  have e : placesF xs = (plsOf xs, 0) := if_pos hl
  rw [e, hl]
  refine ⟨fun (s : Int) h' => ∃ i : Nat, s = i ∧ i ≤ 4 ∧ Blk h' h1.size (wordsA fun k => if k < i then wordOf xs k else 0) 23 ∧ Upd h1.size h3 h', fun (s : Int) _ => (4 - s).toNat, ⟨0, rfl, by omega, b3, Upd.refl _ _⟩, ?_⟩
  rintro s j h4 ⟨i, rfl, hi, b4, u4⟩
  have n4 := u4.new n3 (by omega)
  have r4 := r.new n4
  refine br_of (fun hlt => ?_) (fun hlt => ?_)
  · have hlt : i < 4 := by simp at hlt; omega
    have w0 : IntKind.wrap .i64 (4 * (i : Int)) = ((4 * i : Nat) : Int) := by rw [wr64 (by omega) (by omega)]; omega
    have w1 : IntKind.wrap .i64 (((4 * i : Nat) : Int) + 1) = ((4 * i + 1 : Nat) : Int) := by rw [wr64 (by omega) (by omega)]; omega
    have w2 : IntKind.wrap .i64 (((4 * i : Nat) : Int) + 2) = ((4 * i + 2 : Nat) : Int) := by rw [wr64 (by omega) (by omega)]; omega
    have w3 : IntKind.wrap .i64 (((4 * i : Nat) : Int) + 3) = ((4 * i + 3 : Nat) : Int) := by rw [wr64 (by omega) (by omega)]; omega
    rw [w0, w1, w2, w3, wr64 (n := (i : Int) + 1) (by omega) (by omega)]
    refine ix_ld r4 (by omega) (by omega) (ix_ld r4 (by omega) (by omega) (ix_ld r4 (by omega) (by omega) (ix_ld r4 (by omega) (by omega) ⟨⟨by omega, rfl⟩, ?_⟩)))
    simp only [add_mk, Int.toNat_natCast, Nat.mul_one, Nat.zero_add]
    refine st_blk b4 (by show i < 4; omega) fun h5 b5 o5 => ?_
    rw [wordsA_set _ hlt] at b5
    refine ⟨⟨i + 1, by omega, by omega, ?_, u4.trans o5.upd⟩, by omega⟩
    have gx : ∀ t (ht : t < xs.length), xs[t] = bys xs t := fun t ht => by simp [bys, List.getD_eq_getElem?_getD, List.getElem?_eq_getElem ht]
    have q0 := hb.get (4 * i); have q1 := hb.get (4 * i + 1); have q2 := hb.get (4 * i + 2); have q3 := hb.get (4 * i + 3)
    have key : (fun k => if k = i then IntKind.wrap .u32 (IntKind.wrap .u32 (IntKind.wrap .u32 (IntKind.wrap .u32 xs[4 * i] + IntKind.wrap .u32 (256 * IntKind.wrap .u32 xs[4 * i + 1])) + IntKind.wrap .u32 (65536 * IntKind.wrap .u32 xs[4 * i + 2])) + IntKind.wrap .u32 (16777216 * IntKind.wrap .u32 xs[4 * i + 3])) else if k < i then wordOf xs k else 0) = fun k => if k < i + 1 then wordOf xs k else 0 := by
      funext k
      by_cases hk : k = i
      · subst hk
        rw [if_pos rfl, if_pos (by omega), gx, gx, gx, gx]
        simp only [wru32, wordOf, back4]; omega
      · rw [if_neg hk]
        by_cases h1 : k < i
        · rw [if_pos h1, if_pos (by omega)]
        · rw [if_neg h1, if_neg (by omega)]
    rw [key] at b5; exact b5
  · have hi : i = 4 := by simp at hlt; omega
    subst hi
    have b4 : Blk h4 h1.size (wordsA (word (plsOf xs))) 23 := b4
    refine ldAgg_blk (plsOf xs) b4 ⟨rfl, rfl, rfl, rfl, trivial⟩ ?_
    exact stL_blk (b1'.upd u4 (by omega)) (Nat.le_refl 4) fun h5 b5 o5 => ldAgg_blk (plsOf xs) b5 ⟨rfl, rfl, rfl, rfl, trivial⟩ ⟨rfl, o5.upd.new n4 (by omega)⟩
/-- What bytes say as a trim, and why not. -/
def trimF (xs : List Int) : Int × Int := if xs.length ≠ 16 then (0, 3) else if wordOf xs 0 = 0 ∨ plsOf xs ≠ (wordOf xs 0, 0, 0, 0) then (0, 2) else (wordOf xs 0, 0)
theorem toTrim_ok (a : Option Addr) (c : Nat) (xs : List Int) (h : Heap) (hb : Byt xs) (r : Ar .u8 h a xs) : CallsH Tryd.prog 16 [.slice a xs.length c] h fun v h' => v = .tuple #[.int .u32 (trimF xs).1, .int .i64 (trimF xs).2] ∧ New h h' := by
  refine fun_ok hm' Tryd.func16 (by kernel_rfl) (F16_eq _ _ _ _ h) ?_
  unfold F16
  refine call_of (toPlaces_ok a c xs h hb r) ?_
  rintro v h1 ⟨rfl, n1⟩
  refine ⟨(((placesF xs).1), ((placesF xs).2)), rfl, ?_⟩
  dsimp only
  refine new_of fun h2 b2 n2 s2 => stL_blk b2 (by rw [wordsZ]; exact Nat.le_refl 4) fun h3 b3 o3 => ?_
  have n3 := o3.upd.new (n1.trans n2) (by have := n1.size; omega)
  by_cases hl : xs.length = 16
  · have e : placesF xs = (plsOf xs, 0) := if_pos hl
    rw [e] at b3 ⊢
    have b3 : Blk h3 h1.size (wordsA (word (plsOf xs))) 23 := by rw [wordsZ] at b3; exact b3
    have cl : ∀ {F : Int → Prop} (i : Nat), i < 4 → F (word (plsOf xs) i) → idxW (i : Int) 4 true (ldW (.int .u32) (Addr.add ⟨h1.size, 0, none⟩ (Int.toNat (i : Int) * 1)) F h3) := fun i hi hF =>
      ⟨⟨by omega, rfl⟩, ld_of (c := .int .u32) (word (plsOf xs) i) (by rw [Int.toNat_natCast, Nat.mul_one, add_mk, cellH_blk b3, Nat.zero_add]; exact wordsA_get _ hi) hF⟩
    refine br_f rfl ?_
    have ht : trimF xs = if wordOf xs 0 = 0 ∨ plsOf xs ≠ (wordOf xs 0, 0, 0, 0) then (0, 2) else (wordOf xs 0, 0) := if_neg (by omega)
    have hw : word (plsOf xs) 0 = wordOf xs 0 ∧ word (plsOf xs) 1 = wordOf xs 1 ∧ word (plsOf xs) 2 = wordOf xs 2 ∧ word (plsOf xs) 3 = wordOf xs 3 := ⟨rfl, rfl, rfl, rfl⟩
    have hp : plsOf xs = (wordOf xs 0, wordOf xs 1, wordOf xs 2, wordOf xs 3) := rfl
    refine cut_q (ts := [.sc .bool]) (fun (t : Bool) h' => h' = h3 ∧ t = decide (wordOf xs 0 = 0 ∨ plsOf xs ≠ (wordOf xs 0, 0, 0, 0))) ?_ ?_
    · rintro t h' ⟨hh, rfl⟩ j
      subst h'
      refine br_of (fun hd => ?_) (fun hd => ?_)
      · rw [ht, if_pos (by simpa using hd)]; exact ⟨rfl, n3⟩
      · rw [ht, if_neg (by simpa using hd)]; exact cl 0 (by omega) ⟨rfl, n3⟩
    · intro K hK
      refine cl 0 (by omega) (br_of (fun h0 => hK _ _ ⟨rfl, ?_⟩) fun h0 => cl 1 (by omega) (br_of (fun h1 => hK _ _ ⟨rfl, ?_⟩) fun h1 => cl 2 (by omega) (br_of (fun h2 => hK _ _ ⟨rfl, ?_⟩) fun h2 => cl 3 (by omega) (hK _ _ ⟨rfl, ?_⟩))))
      · rw [hw.1] at h0; simp at h0; simp [h0]
      · rw [hw.2.1] at h1; simp at h1; simp [hp, h1]
      · rw [hw.2.2.1] at h2; simp at h2; simp [hp, h2]
      · rw [hw.1] at h0; rw [hw.2.1] at h1; rw [hw.2.2.1] at h2; rw [hw.2.2.2]
        simp at h0 h1 h2; simp [hp, h0, h1, h2]
        by_cases h3 : wordOf xs 3 = 0 <;> simp [h3]
  · have e : placesF xs = ((0, 0, 0, 0), 3) := if_neg hl
    have ht : trimF xs = (0, 3) := if_pos hl
    rw [e, ht]
    exact br_t rfl ⟨rfl, n3⟩
/- The program's, once more, in these words. -/
theorem bPlaces_ok (a : Option Addr) (c : Nat) (xs : List Int) (h : Heap) (hb : Byt xs) (r : Ar .u8 h a xs) : CallsH Tryd.prog 13 [.slice a xs.length c] h fun v h' => v = .tuple #[plsV (placesF xs).1, errV (placesF xs).2] ∧ New h h' := by
  by_cases hl : xs.length = 16
  · have e : placesF xs = (plsOf xs, 0) := if_pos hl
    rw [e, hl]; exact Body.toPlaces_ok a c xs h hl hb r
  · have e : placesF xs = ((0, 0, 0, 0), 3) := if_neg hl
    rw [e]; exact Body.toPlaces_short a _ c h hl
theorem bTrim_ok (a : Option Addr) (c : Nat) (xs : List Int) (h : Heap) (hb : Byt xs) (r : Ar .u8 h a xs) : CallsH Tryd.prog 15 [.slice a xs.length c] h fun v h' => v = .tuple #[.int .u32 (trimF xs).1, errV (trimF xs).2] ∧ New h h' := by
  refine fun_ok hm' Tryd.func15 (by kernel_rfl) (F15_eq _ _ _ _ h) ?_
  unfold F15
  refine call_of (bPlaces_ok a c xs h hb r) ?_
  rintro v h1 ⟨rfl, n1⟩
  refine ⟨(((placesF xs).1), (errV (placesF xs).2)), rfl, ?_⟩
  dsimp only
  refine new_of fun h2 b2 n2 s2 => stL_blk b2 (by rw [Body.zeroP]; exact Nat.le_refl 4) fun h3 b3 o3 => ⟨errV_if _, ?_⟩
  have n3 := o3.upd.new (n1.trans n2) (by have := n1.size; omega)
  rw [errV_nil]
  by_cases hl : xs.length = 16
  · have e : placesF xs = (plsOf xs, 0) := if_pos hl
    rw [e] at b3 ⊢
    have b3 : Blk h3 h1.size (wordsA (word (plsOf xs))) 24 := by rw [Body.zeroP] at b3; exact b3
    have cl : ∀ {F : Int → Prop} (i : Nat), i < 4 → F (word (plsOf xs) i) → idxW (i : Int) 4 true (ldW (.int .u32) (Addr.add ⟨h1.size, 0, none⟩ (Int.toNat (i : Int) * 1)) F h3) := fun i hi hF =>
      ⟨⟨by omega, rfl⟩, ld_of (c := .int .u32) (word (plsOf xs) i) (by rw [Int.toNat_natCast, Nat.mul_one, add_mk, cellH_blk b3, Nat.zero_add]; exact wordsA_get _ hi) hF⟩
    refine br_f rfl ?_
    have ht : trimF xs = if wordOf xs 0 = 0 ∨ plsOf xs ≠ (wordOf xs 0, 0, 0, 0) then (0, 2) else (wordOf xs 0, 0) := if_neg (by omega)
    refine cut_q (ts := [.sc .bool]) (fun (t : Bool) h' => h' = h3 ∧ t = decide (wordOf xs 0 = 0 ∨ plsOf xs ≠ (wordOf xs 0, 0, 0, 0))) ?_ ?_
    · rintro t h' ⟨hh, rfl⟩ j
      subst h'
      refine br_of (fun hd => ?_) (fun hd => ?_)
      · rw [ht, if_pos (by simpa using hd)]; exact ⟨rfl, n3⟩
      · rw [ht, if_neg (by simpa using hd)]; exact cl 0 (by omega) ⟨rfl, n3⟩
    · intro K hK
      have hw0 : word (plsOf xs) 0 = wordOf xs 0 := rfl
      refine cl 0 (by omega) (br_of (fun h0 => hK _ _ ⟨rfl, ?_⟩) fun h0 => ldAgg_blk (plsOf xs) b3 ⟨rfl, rfl, rfl, rfl, trivial⟩ (cl 0 (by omega) ⟨_, pls_eq (plsOf xs) (wordOf xs 0, 0, 0, 0), hK _ _ ⟨rfl, ?_⟩⟩))
      · rw [hw0] at h0; simp at h0; simp [h0]
      · rw [hw0] at h0; simp at h0; simp [h0]
  · have e : placesF xs = ((0, 0, 0, 0), 3) := if_neg hl
    have ht : trimF xs = (0, 3) := if_pos hl
    rw [e, ht]
    exact br_t rfl ⟨rfl, n3⟩
end Go.Proofs.YtogeildomhahjaaDoor.R5
