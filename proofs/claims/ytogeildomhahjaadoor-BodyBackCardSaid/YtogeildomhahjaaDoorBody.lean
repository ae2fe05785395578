/-
  The contracts of package body.
-/
import Derived.Test.YtogeildomhahjaaDoorWBody
import Derived.Test.YtogeildomhahjaaDoorFour
import Derived.Test.YtogeildomhahjaaDoorAs
import Derived.Test.YtogeildomhahjaaDoorArr
import Derived.ChangeKeysEq
namespace Go.Proofs.YtogeildomhahjaaDoor.Body
open Go.Pl Go.Proofs.YtogeildomhahjaaDoor.W Go.Proofs.YtogeildomhahjaaDoor.Four Go.Proofs.YtogeildomhahjaaDoor.As
/-- Four addresses. -/
abbrev Pls := Int × Int × Int × Int
def word (l : Pls) : Nat → Int
  | 0 => l.1 | 1 => l.2.1 | 2 => l.2.2.1 | _ => l.2.2.2
def plsV (l : Pls) : Value := .agg #[.int .u32 l.1, .int .u32 l.2.1, .int .u32 l.2.2.1, .int .u32 l.2.2.2]
def PlsOk (l : Pls) : Prop := ∀ j, 0 ≤ word l j ∧ word l j < 4294967296
/-- The bytes of four addresses. -/
def plsB (l : Pls) : List Int := (List.range 16).map fun j => byteAt (word l (j / 4)) (j % 4)
theorem plsB_eq (l : Pls) : plsB l = four l.1 ++ four l.2.1 ++ four l.2.2.1 ++ four l.2.2.2 := by
  simp [plsB, List.range, List.range.loop, word, byteAt, four]
theorem plsB_len (l : Pls) : (plsB l).length = 16 := by simp [plsB]
/-- What bytes say. -/
def bys (xs : List Int) (i : Nat) : Int := xs.getD i 0
def wordOf (xs : List Int) (j : Nat) : Int := back4 (bys xs (4 * j)) (bys xs (4 * j + 1)) (bys xs (4 * j + 2)) (bys xs (4 * j + 3))
def plsOf (xs : List Int) : Pls := (wordOf xs 0, wordOf xs 1, wordOf xs 2, wordOf xs 3)
def Byt (xs : List Int) : Prop := ∀ x ∈ xs, 0 ≤ x ∧ x < 256
theorem Byt.get {xs : List Int} (h : Byt xs) (i : Nat) : 0 ≤ bys xs i ∧ bys xs i < 256 := by
  unfold bys
  rw [List.getD_eq_getElem?_getD]
  cases hi : xs[i]? with
  | none => simp
  | some x => exact h x (List.mem_of_getElem? hi)
theorem u8_wf {x : Int} (h : (Lit.int .u8 x).wf = true) : 0 ≤ x ∧ x < 256 := by
  simp [Lit.wf, IntKind.min, IntKind.max, IntKind.bits, IntKind.signed] at h; omega
theorem u32_wf {x : Int} (h : (Lit.int .u32 x).wf = true) : 0 ≤ x ∧ x < 4294967296 := by
  simp [Lit.wf, IntKind.min, IntKind.max, IntKind.bits, IntKind.signed] at h; omega
theorem Byt.wf {xs : List Int} (h : ∀ x ∈ xs, (Lit.int .u8 x).wf = true) : Byt xs := fun x hx => u8_wf (h x hx)
theorem plsB_byt (l : Pls) : Byt (plsB l) := by
  intro x hx
  simp only [plsB, List.mem_map] at hx
  obtain ⟨j, _, rfl⟩ := hx
  exact byteAt_range _ _
theorem plsOf_ok {xs : List Int} (h : Byt xs) : PlsOk (plsOf xs) := by
  intro j
  have k : ∀ j, 0 ≤ wordOf xs j ∧ wordOf xs j < 4294967296 := fun j => back_range (h.get _) (h.get _) (h.get _) (h.get _)
  match j with
  | 0 => exact k 0
  | 1 => exact k 1
  | 2 => exact k 2
  | n + 3 => exact k 3
theorem plsOf_plsB {l : Pls} (h : PlsOk l) : plsOf (plsB l) = l := by
  have k : ∀ j, j < 4 → wordOf (plsB l) j = word l j := by
    intro j hj
    have e : ∀ t, t < 4 → bys (plsB l) (4 * j + t) = byteAt (word l j) t := by
      intro t ht
      have h1 : (4 * j + t) / 4 = j := by omega
      have h2 : (4 * j + t) % 4 = t := by omega
      simp [bys, plsB, List.getD_eq_getElem?_getD, List.getElem?_map, List.getElem?_range (show 4 * j + t < 16 by omega), h1, h2]
    have e0 := e 0 (by omega)
    unfold wordOf
    rw [show 4 * j = 4 * j + 0 from rfl, e 0 (by omega), show 4 * j + 0 + 1 = 4 * j + 1 from rfl, e 1 (by omega), show 4 * j + 0 + 2 = 4 * j + 2 from rfl, e 2 (by omega), show 4 * j + 0 + 3 = 4 * j + 3 from rfl, e 3 (by omega)]
    have := back_four (h j)
    simpa [byteAt] using this
  have k0 := k 0 (by omega); have k1 := k 1 (by omega); have k2 := k 2 (by omega); have k3 := k 3 (by omega)
  simp only [plsOf, k0, k1, k2, k3]; rfl
theorem plsB_plsOf {xs : List Int} (hb : Byt xs) (hl : xs.length = 16) : plsB (plsOf xs) = xs := by
  apply List.ext_getElem?
  intro i
  by_cases hi : i < 16
  · have e1 : (plsB (plsOf xs))[i]? = some (byteAt (word (plsOf xs) (i / 4)) (i % 4)) := by simp [plsB, List.getElem?_map, List.getElem?_range hi]
    have e2 : word (plsOf xs) (i / 4) = wordOf xs (i / 4) := by
      have : i / 4 < 4 := by omega
      match i / 4, this with
      | 0, _ => rfl
      | 1, _ => rfl
      | 2, _ => rfl
      | 3, _ => rfl
    have e3 : byteAt (wordOf xs (i / 4)) (i % 4) = bys xs (4 * (i / 4) + i % 4) := by
      have h0 := hb.get (4 * (i / 4)); have h1 := hb.get (4 * (i / 4) + 1); have h2 := hb.get (4 * (i / 4) + 2); have h3 := hb.get (4 * (i / 4) + 3)
      have hf := four_back h0 h1 h2 h3
      have hm : i % 4 < 4 := by omega
      have hg := four_get (wordOf xs (i / 4)) hm
      unfold wordOf at hg ⊢
      rw [hf] at hg
      match i % 4, hm, hg with
      | 0, _, hg => injection hg with hg; exact hg.symm
      | 1, _, hg => injection hg with hg; exact hg.symm
      | 2, _, hg => injection hg with hg; exact hg.symm
      | 3, _, hg => injection hg with hg; exact hg.symm
    rw [e1, e2, e3, show 4 * (i / 4) + i % 4 = i by omega]
    simp [bys, List.getD_eq_getElem?_getD, List.getElem?_eq_getElem (show i < xs.length by omega)]
  · rw [List.getElem?_eq_none (by rw [plsB_len]; omega), List.getElem?_eq_none (by omega)]
theorem size5 : sizeN Tryd.prog 5 = 1 := by kernel_rfl
theorem zero5 : zeroC Tryd.prog 5 = #[.int .u8 0] := by kernel_rfl
theorem bytes5 : bytesN Tryd.prog 5 = 1 := by kernel_rfl
theorem zeroP : zeroC Tryd.prog 24 = #[.int .u32 0, .int .u32 0, .int .u32 0, .int .u32 0] := by kernel_rfl
def wordsA (f : Nat → Int) : Array Value := #[.int .u32 (f 0), .int .u32 (f 1), .int .u32 (f 2), .int .u32 (f 3)]
theorem wordsA_get (f : Nat → Int) {j : Nat} (hj : j < 4) : (wordsA f)[j]? = some (.int .u32 (f j)) := by
  match j, hj with
  | 0, _ => rfl
  | 1, _ => rfl
  | 2, _ => rfl
  | 3, _ => rfl
theorem wordsA_set (f : Nat → Int) {j : Nat} (hj : j < 4) (x : Int) : (wordsA f).setIfInBounds j (.int .u32 x) = wordsA fun i => if i = j then x else f i := by
  match j, hj with
  | 0, _ => rfl
  | 1, _ => rfl
  | 2, _ => rfl
  | 3, _ => rfl
theorem div4 (i : Nat) : Int.tdiv (i : Int) 4 = ((i / 4 : Nat) : Int) := tdiv_nat (k := 4)
theorem mod4 (i : Nat) : Int.tmod (i : Int) 4 = ((i % 4 : Nat) : Int) := tmod_nat (k := 4)
theorem ofPlaces_ok (l : Pls) (h : Heap) : CallsH Tryd.prog 18 [plsV l] h fun v h' => Fresh .u8 5 h h' v (plsB l) := by
  refine fun_ok hm' Tryd.func18 (by kernel_rfl) (F18_eq _ _ _ _ _ h) ?_
  unfold F18
  refine new_of fun h1 b1 n1 s1 => mk_of (n := 16) size5 zero5 (by rw [bytes5]; omega) (by omega) fun h2 b2 n2 s2 => ?_
  rw [← fillA_zero 16 (fun j => .int .u8 (byteAt (word l (j / 4)) (j % 4)))] at b2
  have b1 : Blk h1 h.size (wordsA (word l)) 24 := b1
  refine ⟨fun (s : Int) h' => ∃ i : Nat, s = i ∧ i ≤ 16 ∧ Blk h' h1.size (fillA 16 (fun j => .int .u8 (byteAt (word l (j / 4)) (j % 4))) i (.int .u8 0)) 5 ∧ Upd h1.size h2 h', fun (s : Int) _ => (16 - s).toNat, ⟨0, rfl, by omega, b2, Upd.refl _ _⟩, ?_⟩
  rintro s j h3 ⟨i, rfl, hi, b3, u3⟩
  have b1' := (b1.new n2).upd u3 (by omega)
  refine br_of (fun hlt => ?_) (fun hlt => ?_)
  · have hlt : i < 16 := by simp at hlt; omega
    rw [div4, mod4, wr64 (n := ((i / 4 : Nat) : Int)) (by omega) (by omega), wr64 (n := 8 * ((i % 4 : Nat) : Int)) (by omega) (by omega), wr64 (n := (i : Int) + 1) (by omega) (by omega)]
    refine ⟨⟨by omega, rfl⟩, ld_of (c := .int .u32) (word l (i / 4)) ?_ (ck_t (decide_eq_true (by omega)) (ptr_of ⟨⟨by omega, rfl⟩, ?_⟩))⟩
    · rw [Int.toNat_natCast, Nat.mul_one, add_mk, cellH_blk b1', Nat.zero_add]; exact wordsA_get _ (by omega)
    · rw [shr_byte _ (i % 4) (by omega) rfl]
      simp only [add_mk, Int.toNat_natCast, Nat.mul_one, Nat.zero_add]
      refine st_blk b3 (by rw [fillA_size]; omega) fun h4 b4 o4 => ?_
      rw [fillA_set 16 _ i _ _ rfl] at b4
      exact ⟨⟨i + 1, by omega, by omega, b4, u3.trans o4.upd⟩, by omega⟩
  · have hi : i = 16 := by simp at hlt; omega
    subst hi
    have n3 := u3.new (n1.trans n2) (by omega)
    refine ⟨_, 16, by rw [plsB_len], ?_, n3⟩
    rw [fillA_full] at b3
    have := OwnH.of_blk (base := h.size) (n := 16) (size := 1) b3 (by omega) (by simp) (by simp [maxLen])
    rw [plsB_len]
    have e : (plsB l).map (Value.int .u8) = ((List.range 16).map fun j => Value.int .u8 (byteAt (word l (j / 4)) (j % 4))) := by simp [plsB]
    rw [e]; exact this
/-- The first m of four bytes, as a number. -/
def accW (f : Nat → Int) : Nat → Int
  | 0 => 0
  | m + 1 => accW f m + f m * 256 ^ m
theorem accW_nat {f : Nat → Int} (hf : ∀ t, 0 ≤ f t ∧ f t < 256) : ∀ m, 0 ≤ accW f m ∧ accW f m < 256 ^ m
  | 0 => by simp [accW]
  | m + 1 => by
    have := accW_nat hf m
    have h1 := hf m
    have hp : (0 : Int) < 256 ^ m := Int.pow_pos (by omega)
    have h2 : f m * 256 ^ m ≤ 255 * 256 ^ m := Int.mul_le_mul_of_nonneg_right (by omega) (by omega)
    have h3 : 0 ≤ f m * 256 ^ m := Int.mul_nonneg (by omega) (by omega)
    simp only [accW, Int.pow_succ]; omega
theorem accW_four (f : Nat → Int) : accW f 4 = back4 (f 0) (f 1) (f 2) (f 3) := by
  show 0 + f 0 * 1 + f 1 * 256 + f 2 * 65536 + f 3 * 16777216 = _
  unfold back4; omega
theorem toPlaces_short (a : Option Addr) (n c : Nat) (h : Heap) (hn : n ≠ 16) : CallsH Tryd.prog 13 [.slice a n c] h fun v h' => v = .tuple #[plsV (0, 0, 0, 0), errV 3] ∧ New h h' := by
  refine fun_ok hm' Tryd.func13 (by kernel_rfl) (F13_eq _ _ _ _ h) ?_
  unfold F13
  rw [zeroP]
  refine new_of fun h1 b1 n1 s1 => new_of fun h2 b2 n2 s2 => br_t (by simp; omega) ?_
  refine ldAgg_blk ((0 : Int), (0 : Int), (0 : Int), (0 : Int)) b2 ⟨rfl, rfl, rfl, rfl, trivial⟩ ?_
  refine stL_blk (b1.new n2) (by simp) fun h3 b3 o3 => ldAgg_blk ((0 : Int), (0 : Int), (0 : Int), (0 : Int)) b3 ⟨rfl, rfl, rfl, rfl, trivial⟩ ⟨rfl, o3.upd.new (n1.trans n2) (by omega)⟩
theorem toPlaces_ok (a : Option Addr) (c : Nat) (xs : List Int) (h : Heap) (hl : xs.length = 16) (hb : Byt xs) (r : Ar .u8 h a xs) : CallsH Tryd.prog 13 [.slice a 16 c] h fun v h' => v = .tuple #[plsV (plsOf xs), errV 0] ∧ New h h' := by
  refine fun_ok hm' Tryd.func13 (by kernel_rfl) (F13_eq _ _ _ _ h) ?_
  unfold F13
  rw [zeroP]
  refine new_of fun h1 b1 n1 s1 => new_of fun h2 b2 n2 s2 => br_f (by simp) ?_
  let st : Nat → Nat → Int := fun i j => accW (fun t => bys xs (4 * j + t)) (min 4 (i - 4 * j))
  refine ⟨fun (s : Int) h' => ∃ i : Nat, s = i ∧ i ≤ 16 ∧ Blk h' h1.size (wordsA (st i)) 24 ∧ Upd h1.size h2 h', fun (s : Int) _ => (16 - s).toNat, ⟨0, rfl, by omega, ?_, Upd.refl _ _⟩, ?_⟩
  · have : wordsA (st 0) = #[.int .u32 0, .int .u32 0, .int .u32 0, .int .u32 0] := by simp [st, wordsA, accW]
    rw [this]; exact b2
  rintro s j h3 ⟨i, rfl, hi, b3, u3⟩
  have n3 := u3.new (n1.trans n2) (by omega)
  have r3 := r.new n3
  refine br_of (fun hlt => ?_) (fun hlt => ?_)
  · have hlt : i < 16 := by simp at hlt; omega
    rw [div4, mod4, wr64 (n := ((i / 4 : Nat) : Int)) (by omega) (by omega), wr64 (n := 8 * ((i % 4 : Nat) : Int)) (by omega) (by omega), wr64 (n := (i : Int) + 1) (by omega) (by omega)]
    refine ⟨⟨by omega, rfl⟩, ld_of (c := .int .u32) (st i (i / 4)) ?_ ?_⟩
    · rw [Int.toNat_natCast, Nat.mul_one, add_mk, cellH_blk b3, Nat.zero_add]; exact wordsA_get _ (by omega)
    refine ix_ld r3 (by omega) hlt (ck_t (decide_eq_true (by omega)) ⟨⟨by omega, rfl⟩, ?_⟩)
    simp only [add_mk, Int.toNat_natCast, Nat.mul_one, Nat.zero_add]
    refine st_blk b3 (by show _ < 4; omega) fun h4 b4 o4 => ?_
    rw [wordsA_set _ (by omega)] at b4
    refine ⟨⟨i + 1, by omega, by omega, ?_, u3.trans o4.upd⟩, by omega⟩
    have hby : ∀ t, 0 ≤ bys xs (4 * (i / 4) + t) ∧ bys xs (4 * (i / 4) + t) < 256 := fun t => hb.get _
    have e0 : xs[i] = bys xs (4 * (i / 4) + i % 4) := by
      rw [show 4 * (i / 4) + i % 4 = i by omega]; simp [bys, List.getD_eq_getElem?_getD, List.getElem?_eq_getElem (show i < xs.length by omega)]
    have key : (fun k => if k = i / 4 then IntKind.wrap .u32 (((BitVec.ofInt 32 (st i (i / 4)) ||| BitVec.ofInt 32 (IntKind.wrap .u32 (IntKind.wrap .u32 xs[i] * 2 ^ (min (8 * ((i % 4 : Nat) : Int)).toNat 32)))).toNat : Int)) else st i k) = st (i + 1) := by
      funext k
      by_cases hk : k = i / 4
      · subst hk
        rw [if_pos rfl, e0]
        have hst : st i (i / 4) = accW (fun t => bys xs (4 * (i / 4) + t)) (i % 4) := by
          show accW _ (min 4 (i - 4 * (i / 4))) = _
          rw [show min 4 (i - 4 * (i / 4)) = i % 4 by omega]
        have hst' : st (i + 1) (i / 4) = accW (fun t => bys xs (4 * (i / 4) + t)) (i % 4 + 1) := by
          show accW _ (min 4 (i + 1 - 4 * (i / 4))) = _
          rw [show min 4 (i + 1 - 4 * (i / 4)) = i % 4 + 1 by omega]
        rw [hst, hst']
        obtain ⟨h0, hlt'⟩ := accW_nat hby (i % 4)
        obtain ⟨h0', hlt''⟩ := hby (i % 4)
        simp only [accW]
        generalize accW (fun t => bys xs (4 * (i / 4) + t)) (i % 4) = A at h0 hlt' ⊢
        generalize bys xs (4 * (i / 4) + i % 4) = B at h0' hlt'' ⊢
        obtain ⟨A, rfl⟩ := Int.eq_ofNat_of_zero_le h0
        obtain ⟨B, rfl⟩ := Int.eq_ofNat_of_zero_le h0'
        rw [or_byte (n := A) (c := B) (i := i % 4) (by omega) (Int.ofNat_lt.1 (by rw [Int.natCast_pow]; exact hlt')) (by omega) rfl]
        simp
      · rw [if_neg hk]
        show accW _ (min 4 (i - 4 * k)) = accW _ (min 4 (i + 1 - 4 * k))
        rw [show min 4 (i - 4 * k) = min 4 (i + 1 - 4 * k) by omega]
    rw [key] at b4; exact b4
  · have hi : i = 16 := by simp at hlt; omega
    subst hi
    have e : wordsA (st 16) = wordsA (word (plsOf xs)) := by
      have : ∀ j, j < 4 → st 16 j = wordOf xs j := by
        intro j hj
        show accW _ (min 4 (16 - 4 * j)) = _
        rw [show min 4 (16 - 4 * j) = 4 by omega, accW_four]; rfl
      simp only [wordsA, this 0 (by omega), this 1 (by omega), this 2 (by omega), this 3 (by omega)]; rfl
    rw [e] at b3
    refine ldAgg_blk (plsOf xs) b3 ⟨rfl, rfl, rfl, rfl, trivial⟩ ?_
    refine stL_blk ((b1.new n2).upd u3 (by omega)) (Nat.le_refl 4) fun h4 b4 o4 => ldAgg_blk (plsOf xs) b4 ⟨rfl, rfl, rfl, rfl, trivial⟩ ⟨rfl, o4.upd.new n3 (by omega)⟩
theorem ofTrim_ok (m : Int) (h : Heap) : CallsH Tryd.prog 20 [.int .u32 m] h fun v h' => Fresh .u8 5 h h' v (plsB (m, 0, 0, 0)) := by
  refine fun_ok hm' Tryd.func20 (by kernel_rfl) (F20_eq _ _ h) ?_
  unfold F20
  refine call_of (ofPlaces_ok (m, 0, 0, 0) h) ?_
  rintro v h1 ⟨a, c, rfl, r⟩
  exact ⟨(a, (plsB (m, 0, 0, 0)).length, c), rfl, a, c, rfl, r⟩
theorem pls_eq (x y : Pls) : ∀ w, (Op.equal 24 (plsV x) (plsV y)).run Tryd.prog w = .ok (decide (x = y)) w := by
  intro w
  obtain ⟨x0, x1, x2, x3⟩ := x
  obtain ⟨y0, y1, y2, y3⟩ := y
  have hU : Tryd.prog.underlying 24 = some (.array 4 22) := by kernel_rfl
  have hI : (Tryd.prog.info? 22).isSome = true := by kernel_rfl
  obtain ⟨i, hi⟩ := Option.isSome_iff_exists.1 hI
  have hc : Tryd.prog.cellsOf 22 = 1 := by kernel_rfl
  have u3 := Tryd.underlying22
  have a3 := Tryd.isAgg22
  have z3 := Tryd.sizeOf22
  show ((Op.equalIn (9999 + 1) 24 (.agg _) (.agg _)).run _ _) = _
  rw [run_equalIn_array w 9999 _ _ hU hi, hc]
  show ((Op.eqItems 9999 22 1 _ _ [0, 1, 2, 3]).run _ _) = _
  simp only [Op.eqItems]
  go_simp
  by_cases h1 : x0 = y0 <;> by_cases h2 : x1 = y1 <;> by_cases h3 : x2 = y2 <;> by_cases h4 : x3 = y3 <;> simp [h1, h2, h3, h4]
end Go.Proofs.YtogeildomhahjaaDoor.Body
