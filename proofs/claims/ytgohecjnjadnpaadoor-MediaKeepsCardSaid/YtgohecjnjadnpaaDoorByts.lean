/-
  Rows of bytes, and of numbers of 32 bits: plain laws.
-/
import Derived.Test.YtgohecjnjadnpaaDoorArr
import Derived.Test.YtgohecjnjadnpaaDoorSep
import Derived.Test.YtgohecjnjadnpaaDoorFour
namespace Go.Proofs.YtgohecjnjadnpaaDoor.Byts
open Go.Pl Go.Proofs.YtgohecjnjadnpaaDoor.Four
def bys (xs : List Int) (i : Nat) : Int := xs.getD i 0
def Byt (xs : List Int) : Prop := ∀ x ∈ xs, 0 ≤ x ∧ x < 256
theorem Byt.get {xs : List Int} (h : Byt xs) (i : Nat) : 0 ≤ bys xs i ∧ bys xs i < 256 := by
  unfold bys
  rw [List.getD_eq_getElem?_getD]
  cases hi : xs[i]? with
  | none => simp
  | some x => exact h x (List.mem_of_getElem? hi)
theorem u8_wf {x : Int} (h : (Lit.int .u8 x).wf = true) : 0 ≤ x ∧ x < 256 := by
  simp [Lit.wf, IntKind.min, IntKind.max, IntKind.bits, IntKind.signed] at h; omega
theorem u32_wf {x : Int} (h : (Lit.int .u32 x).wf = true) : 0 ≤ x ∧ x < 4294967296 := by
  simp [Lit.wf, IntKind.min, IntKind.max, IntKind.bits, IntKind.signed] at h; omega
theorem i64_wf {x : Int} (h : (Lit.int .i64 x).wf = true) : -9223372036854775808 ≤ x ∧ x ≤ 9223372036854775807 := by
  simp [Lit.wf, IntKind.min, IntKind.max, IntKind.bits, IntKind.signed] at h; omega
theorem Byt.wf {xs : List Int} (h : ∀ x ∈ xs, (Lit.int .u8 x).wf = true) : Byt xs := fun x hx => u8_wf (h x hx)
theorem Byt.app {xs ys : List Int} (h : Byt xs) (k : Byt ys) : Byt (xs ++ ys) := fun x hx => by
  rcases List.mem_append.1 hx with hx | hx
  · exact h x hx
  · exact k x hx
theorem Byt.take {xs : List Int} (h : Byt xs) (n : Nat) : Byt (xs.take n) := fun x hx => h x (List.mem_of_mem_take hx)
theorem Byt.drop {xs : List Int} (h : Byt xs) (n : Nat) : Byt (xs.drop n) := fun x hx => h x (List.mem_of_mem_drop hx)
theorem four_byt (n : Int) : Byt (four n) := fun x hx => by
  simp only [four, List.mem_cons, List.not_mem_nil, or_false] at hx
  rcases hx with rfl | rfl | rfl | rfl <;> omega
theorem bys_get {xs : List Int} {i : Nat} (hi : i < xs.length) : bys xs i = xs[i] := by simp [bys, List.getD_eq_getElem?_getD, List.getElem?_eq_getElem hi]
/-- The number of four bytes, from place i on. -/
def wordAt (xs : List Int) (i : Nat) : Int := back4 (bys xs i) (bys xs (i + 1)) (bys xs (i + 2)) (bys xs (i + 3))
theorem wordAt_range {xs : List Int} (h : Byt xs) (i : Nat) : 0 ≤ wordAt xs i ∧ wordAt xs i < 4294967296 := back_range (h.get _) (h.get _) (h.get _) (h.get _)
theorem bys_drop (xs : List Int) (k i : Nat) : bys (xs.drop k) i = bys xs (k + i) := by simp [bys, List.getD_eq_getElem?_getD, List.getElem?_drop]
theorem bys_take {xs : List Int} {n i : Nat} (h : i < n) : bys (xs.take n) i = bys xs i := by simp [bys, List.getD_eq_getElem?_getD, h]
theorem bys_left {xs ys : List Int} {i : Nat} (h : i < xs.length) : bys (xs ++ ys) i = bys xs i := by simp [bys, List.getD_eq_getElem?_getD, List.getElem?_append_left h]
theorem bys_right {xs ys : List Int} {i : Nat} : bys (xs ++ ys) (xs.length + i) = bys ys i := by
  simp only [bys, List.getD_eq_getElem?_getD]
  rw [List.getElem?_append_right (by omega), Nat.add_sub_cancel_left]
theorem wordAt_drop (xs : List Int) (k i : Nat) : wordAt (xs.drop k) i = wordAt xs (k + i) := by simp only [wordAt, bys_drop, Nat.add_assoc]
theorem wordAt_four {n : Int} (h : 0 ≤ n ∧ n < 4294967296) (ys : List Int) : wordAt (four n ++ ys) 0 = n := by
  show back4 (n % 256) (n / 256 % 256) (n / 65536 % 256) (n / 16777216 % 256) = n
  exact back_four h
theorem four_wordAt {xs : List Int} (h : Byt xs) {i : Nat} (hl : i + 4 ≤ xs.length) : four (wordAt xs i) = (xs.drop i).take 4 := by
  unfold wordAt
  rw [four_back (h.get _) (h.get _) (h.get _) (h.get _)]
  apply List.ext_getElem?
  intro j
  by_cases hj : j < 4
  · rw [List.getElem?_take, if_pos hj, List.getElem?_drop, List.getElem?_eq_getElem (show i + j < xs.length by omega)]
    rw [← bys_get (show i + j < xs.length by omega)]
    match j, hj with
    | 0, _ => rfl
    | 1, _ => rfl
    | 2, _ => rfl
    | 3, _ => rfl
  · rw [List.getElem?_eq_none (by simp; omega), List.getElem?_eq_none (by simp; omega)]
/-- The first m of four bytes, as a number. -/
def accW (f : Nat → Int) : Nat → Int
  | 0 => 0
  | m + 1 => accW f m + f m * 256 ^ m
theorem accW_nat {f : Nat → Int} (hf : ∀ t, 0 ≤ f t ∧ f t < 256) : ∀ m, 0 ≤ accW f m ∧ accW f m < 256 ^ m
  | 0 => by simp [accW]
  | m + 1 => by
    have := accW_nat hf m
    have h1 := hf m
    have hp : (0 : Int) < 256 ^ m := Int.pow_pos (by omega)
    have h2 : f m * 256 ^ m ≤ 255 * 256 ^ m := Int.mul_le_mul_of_nonneg_right (by omega) (by omega)
    have h3 : 0 ≤ f m * 256 ^ m := Int.mul_nonneg (by omega) (by omega)
    simp only [accW, Int.pow_succ]; omega
theorem accW_four (f : Nat → Int) : accW f 4 = back4 (f 0) (f 1) (f 2) (f 3) := by
  show 0 + f 0 * 1 + f 1 * 256 + f 2 * 65536 + f 3 * 16777216 = _
  unfold back4; omega
/-- A slice of bytes, that is read. -/
structure Sl8 (h : Heap) (a : Option Addr) (c : Nat) (xs : List Int) : Prop where
  ar : Ar .u8 h a xs
  le : xs.length ≤ c
  cap : c ≤ maxLen
  nil : a = none → c = 0
  byt : Byt xs
theorem Sl8.new {h h' : Heap} {a : Option Addr} {c : Nat} {xs : List Int} (s : Sl8 h a c xs) (n : New h h') : Sl8 h' a c xs := ⟨s.ar.new n, s.le, s.cap, s.nil, s.byt⟩
theorem Sl8.got {e : TypeId} {h h' : Heap} {a : Option Addr} {c : Nat} {xs : List Int} (g : Got .u8 e h h' a c xs) (hb : Byt xs) : Sl8 h' a c xs := ⟨g.ar, g.row.le, g.row.capMax, fun e => by subst e; exact g.row.none0.2.1, hb⟩
theorem Sl8.grow {e : TypeId} {h0 h : Heap} {r0 : Option Nat} {a : Option Addr} {c : Nat} {xs : List Int} (g : Grow h0 r0 h e 1 a xs.length c (xs.map (Value.int .u8))) (hb : Byt xs) : Sl8 h a c xs := ⟨g.row.ar, g.row.le, g.row.capMax, fun e => by subst e; exact g.row.none0.2.1, hb⟩
theorem Sl8.reads {h : Heap} {v : Value} {xs : List Int} (r : ReadsV h (.slice (.int .u8)) v xs) : ∃ a c, v = .slice a xs.length c ∧ Sl8 h a c xs := by
  obtain ⟨a, c, e, hlc, hcm, hnil, ar, hwf⟩ := Ar.reads r
  exact ⟨a, c, e, ar, hlc, hcm, fun h0 => (hnil h0).2, Byt.wf hwf⟩
/-- A part of a slice of bytes. -/
theorem Sl8.sl {h : Heap} {a : Option Addr} {c : Nat} {xs : List Int} (s : Sl8 h a c xs) {lo hi mx : Int} (l i m : Nat) (e1 : lo = (l : Int)) (e2 : hi = (i : Int)) (e3 : mx = (m : Int)) (h1 : l ≤ i) (h2 : i ≤ xs.length) (h3 : i ≤ m) (h4 : m ≤ c) {F : Option Addr → Nat → Nat → Prop}
    (hF : ∀ b d, Sl8 h b d ((xs.drop l).take (i - l)) → F b (i - l) d) : slW a c 1 lo hi mx F := by
  subst e1; subst e2; subst e3
  refine ⟨⟨by omega, by omega, by omega, by omega⟩, ?_⟩
  have e1 : ((i : Int)).toNat - ((l : Int)).toNat = i - l := by omega
  have e2 : ((m : Int)).toNat - ((l : Int)).toNat = m - l := by omega
  rw [e1, e2]
  refine hF _ _ ⟨?_, by simp; omega, by have := s.cap; omega, fun e => ?_, (s.byt.drop _).take _⟩
  · by_cases hl : l = xs.length
    · rw [List.drop_eq_nil_of_le (by omega), List.take_nil]; exact Ar.nil _ _ _
    · by_cases hm : m = l
      · rw [show i - l = 0 by omega, List.take_zero]; exact Ar.nil _ _ _
      · exact (s.ar.drop l (m : Int).toNat (.inl (by omega))).take _
  · have h0 : a = none := by
      unfold sliceBase at e
      split at e
      · exact e
      · cases a with
        | none => rfl
        | some q => cases e
    have := s.nil h0; omega
/-- A byte of a slice, at a place that is told as a number. -/
theorem Sl8.at_ {h : Heap} {a : Option Addr} {c : Nat} {xs : List Int} (s : Sl8 h a c xs) {j : Int} {n : Nat} (i : Nat) (hj : j = (i : Int)) (hi : i < xs.length) (hn : i < n) {F : Int → Prop} (hF : F (bys xs i)) :
    ptrW a (fun p => idxW j n true (ldW (.int .u8) (Addr.add p (Int.toNat j * 1)) F h)) := ix_lit s.ar i hj hi hn (by rw [← bys_get hi]; exact hF)
end Go.Proofs.YtgohecjnjadnpaaDoor.Byts
