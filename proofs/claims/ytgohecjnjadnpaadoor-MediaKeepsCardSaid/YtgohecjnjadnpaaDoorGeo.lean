/-
  The contracts of package geo: Tables, within, Bound, Right, Log, Of, At.
-/
import Derived.Test.YtgohecjnjadnpaaDoorWGeo
import Derived.Test.YtgohecjnjadnpaaDoorHeap
import Derived.Test.YtgohecjnjadnpaaDoorRows
import Derived.Laws.StructEq
namespace Go.Proofs.YtgohecjnjadnpaaDoor.Geo
open Go.Pl Go.Proofs.YtgohecjnjadnpaaDoor.W
theorem hm' : Tryd.prog.follows .mixedOrders = true := by kernel_rfl
theorem tables_ok (n : Int) (h : Heap) (h0 : 0 ≤ n) (h1 : n ≤ 1000000) : CallsH Tryd.prog 110 [.int .i64 n] h fun v h' => v = .int .i64 ((n + 3) / 4) ∧ h' = h := by
  refine fun_ok hm' Tryd.func110 (by kernel_rfl) (F110_eq _ _ h) ?_
  unfold F110
  rw [wr64 (n := n + 4) (by omega) (by omega), wr64 (n := n + 4 - 1) (by omega) (by omega), Int.tdiv_eq_ediv_of_nonneg (by omega), wr64 (by omega) (by omega)]
  exact ⟨by rw [show n + 4 - 1 = n + 3 by omega], rfl⟩
theorem within_ok (n a b : Int) (h : Heap) : CallsH Tryd.prog 87 [.int .i64 n, .int .i64 a, .int .i64 b] h fun v h' => v = .bool (decide (a ≤ n ∧ n ≤ b)) ∧ h' = h := by
  refine fun_ok hm' Tryd.func87 (by kernel_rfl) (F87_eq _ _ _ _ h) ?_
  unfold F87
  refine br_of (fun h0 => ⟨?_, rfl⟩) (fun h0 => ⟨?_, rfl⟩) <;> (simp at h0; simp; omega)
def okB (z p n : Int) : Bool := decide ((n + 3) / 4 ≤ p) && decide (n + (n + 3) / 4 ≤ (z - 7) * p / 2)
def boundFrom (z p : Int) : Nat → Int
  | 0 => 0
  | n + 1 => if okB z p ((n + 1 : Nat) : Int) = true then ((n + 1 : Nat) : Int) else boundFrom z p n
/-- The most blocks of a geometry. -/
def boundF (z p : Int) : Int := if (11 ≤ z ∧ z ≤ 24) ∧ 4 ≤ p ∧ p ≤ 16 then boundFrom z p 64 else 0
theorem boundFrom_le (z p : Int) : ∀ n, 0 ≤ boundFrom z p n ∧ boundFrom z p n ≤ n
  | 0 => by simp [boundFrom]
  | n + 1 => by
    have := boundFrom_le z p n
    simp only [boundFrom]; split <;> omega
theorem boundF_le (z p : Int) : 0 ≤ boundF z p ∧ boundF z p ≤ 64 := by
  unfold boundF; split
  · exact boundFrom_le z p 64
  · omega
theorem bound_ok (z p : Int) (h : Heap) : CallsH Tryd.prog 109 [.int .i64 z, .int .i64 p] h fun v h' => v = .int .i64 (boundF z p) ∧ h' = h := by
  refine fun_ok hm' Tryd.func109 (by kernel_rfl) (F109_eq _ _ _ h) ?_
  unfold F109
  refine cut_of (call_of (within_ok z 11 24 h) ?_)
  rintro v h' ⟨rfl, hh⟩
  subst h'
  refine ⟨_, rfl, br_of (fun hz => ?_) (fun hz => call_of (within_ok p 4 16 h) ?_)⟩
  · have : boundF z p = 0 := if_neg (by simp at hz; omega)
    rw [this]; exact ⟨rfl, rfl⟩
  rintro v h' ⟨rfl, hh⟩
  subst h'
  refine ⟨_, rfl, br_of (fun hp => ?_) (fun hp _ => ?_)⟩
  · have : boundF z p = 0 := if_neg (by simp at hp; omega)
    rw [this]; exact ⟨rfl, rfl⟩
  have hz : 11 ≤ z ∧ z ≤ 24 := by simpa using hz
  have hp : 4 ≤ p ∧ p ≤ 16 := by simpa using hp
  have hb : boundF z p = boundFrom z p 64 := if_pos ⟨hz, hp⟩
  have hzp : 0 ≤ (z - 7) * p ∧ (z - 7) * p ≤ 17 * 16 := by
    constructor
    · exact Int.mul_nonneg (by omega) (by omega)
    · exact Int.mul_le_mul (by omega) (by omega) (by omega) (by omega)
  refine ⟨fun (s : Int) h' => h' = h ∧ ∃ i : Nat, s = i ∧ i ≤ 64 ∧ boundFrom z p 64 = boundFrom z p (64 - i), fun (s : Int) _ => (64 - s).toNat, ⟨rfl, 0, rfl, by omega, rfl⟩, ?_⟩
  rintro s j h' ⟨hh, i, rfl, hi, he⟩
  subst h'
  refine br_of (fun hlt => ?_) (fun hlt => ?_)
  · have hlt : i < 64 := by simp at hlt; omega
    have hn : IntKind.wrap .i64 ((64 : Int) - (i : Int)) = ((64 - i : Nat) : Int) := by rw [wr64 (by omega) (by omega)]; omega
    rw [hn]
    generalize hN : 64 - i = N at he
    refine call_of (tables_ok (N : Int) h (by omega) (by omega)) ?_
    rintro v h' ⟨rfl, hh⟩
    subst h'
    obtain ⟨M, rfl⟩ : ∃ M, N = M + 1 := ⟨N - 1, by omega⟩
    have e1 : IntKind.wrap .i64 (((M + 1 : Nat) : Int) + (((M + 1 : Nat) : Int) + 3) / 4) = ((M + 1 : Nat) : Int) + (((M + 1 : Nat) : Int) + 3) / 4 := wr64 (by omega) (by omega)
    have e2 : IntKind.wrap .i64 (Int.tdiv (IntKind.wrap .i64 ((IntKind.wrap .i64 (z - (7 : Int))) * p)) (2 : Int)) = (z - 7) * p / 2 := by
      rw [wr64 (n := z - 7) (by omega) (by omega), wr64 (n := (z - 7) * p) (by omega) (by omega), Int.tdiv_eq_ediv_of_nonneg hzp.1, wr64 (by omega) (by omega)]
    have e3 : IntKind.wrap .i64 ((i : Int) + (1 : Int)) = ((i + 1 : Nat) : Int) := by rw [wr64 (by omega) (by omega)]; rfl
    refine ⟨((((M + 1 : Nat) : Int) + 3) / 4 : Int), rfl, ?_⟩
    rw [e1, e2, e3]
    have next : okB z p ((M + 1 : Nat) : Int) = false → (h = h ∧ ∃ i_1 : Nat, ((i + 1 : Nat) : Int) = i_1 ∧ i_1 ≤ 64 ∧ boundFrom z p 64 = boundFrom z p (64 - i_1)) ∧ ((64 : Int) - ((i + 1 : Nat) : Int)).toNat < ((64 : Int) - (i : Int)).toNat := by
      intro hf
      refine ⟨⟨rfl, i + 1, rfl, by omega, ?_⟩, by omega⟩
      rw [he, show 64 - (i + 1) = M by omega]
      simp only [boundFrom, hf, Bool.false_eq_true, if_false]
    refine br_of (fun h1 => br_of (fun h2 => ?_) (fun h2 => next ?_)) (fun h1 => next ?_)
    · have : okB z p ((M + 1 : Nat) : Int) = true := by unfold okB; rw [h1, h2]; rfl
      refine ⟨?_, rfl⟩
      rw [hb, he]; simp only [boundFrom, this, if_true]
    · unfold okB; rw [h2, Bool.and_false]
    · unfold okB; rw [h1, Bool.false_and]
  · have hi : i = 64 := by simp at hlt; omega
    subst hi
    exact ⟨by rw [hb, he]; rfl, rfl⟩
/-- May a geometry be? -/
def rightB (z p b : Int) : Bool := decide (b ≤ boundF z p) && decide (1 ≤ b)
theorem right_facts {z p b : Int} (h : rightB z p b = true) : (11 ≤ z ∧ z ≤ 24) ∧ (4 ≤ p ∧ p ≤ 16) ∧ 1 ≤ b ∧ b ≤ 64 := by
  simp [rightB] at h
  have := boundF_le z p
  by_cases hc : (11 ≤ z ∧ z ≤ 24) ∧ 4 ≤ p ∧ p ≤ 16
  · exact ⟨hc.1, hc.2, by omega, by omega⟩
  · have : boundF z p = 0 := if_neg hc
    omega
theorem geo_eq (z p b z' p' b' : Int) : ∀ w, (Op.equal 85 (.agg #[.int .i64 z, .int .i64 p, .int .i64 b]) (.agg #[.int .i64 z', .int .i64 p', .int .i64 b'])).run Tryd.prog w = .ok (z == z' && (p == p' && b == b')) w := by
  intro w
  have hS : Tryd.prog.underlying 85 = some (.struct (Tryd.prog.fieldsOf 85)) := by kernel_rfl
  have hp : Tryd.prog.stoodInHeld 85 = false := by kernel_rfl
  have u3 := Tryd.underlying3
  have a3 := Tryd.isAgg3
  have z3 := Tryd.sizeOf3
  show ((Op.equalIn (9999 + 1) 85 _ _).run _ _) = _
  rw [run_equalIn_agg w 9999 85 _ _ hS hp]
  simp only [Program.fieldsOf, Tryd.underlying85]
  go_simp
  by_cases h1 : z = z' <;> by_cases h2 : p = p' <;> by_cases h3 : b = b' <;> simp [h1, h2, h3]
theorem right_ok (z p b : Int) (h : Heap) : CallsH Tryd.prog 102 [.agg #[.int .i64 z, .int .i64 p, .int .i64 b]] h fun v h' => v = .bool (rightB z p b) ∧ New h h' := by
  refine fun_ok hm' Tryd.func102 (by kernel_rfl) (F102_eq _ _ _ _ h) ?_
  unfold F102
  refine new_of fun h2 b2 n2 s2 => ?_
  have c0 : cellH h2 ((⟨h.size, 0, none⟩ : Addr).add 0) = some (.int .i64 z) := by rw [add_mk, cellH_blk b2]; rfl
  have c1 : cellH h2 ((⟨h.size, 0, none⟩ : Addr).add 1) = some (.int .i64 p) := by rw [add_mk, cellH_blk b2]; rfl
  have c2 : cellH h2 ((⟨h.size, 0, none⟩ : Addr).add 2) = some (.int .i64 b) := by rw [add_mk, cellH_blk b2]; rfl
  refine ⟨((z, p, b) : Int × Int × Int), ⟨c0, c1, c2, trivial⟩, ?_⟩
  refine ld_of (c := .int .i64) z c0 (ld_of (c := .int .i64) p c1 (ld_of (c := .int .i64) b c2 (ld_of (c := .int .i64) z c0 (ld_of (c := .int .i64) p c1 ?_))))
  refine ⟨boundF z p, fun h' _ => bound_ok z p h', ?_⟩
  refine ⟨_, geo_eq z p b z p (mm2 false b (boundF z p)), ?_⟩
  have hB := boundF_le z p
  have e : (z == z && (p == p && b == mm2 false b (boundF z p))) = decide (b ≤ boundF z p) := by
    simp only [beq_self_eq_true, Bool.true_and]
    rw [Bool.eq_iff_iff]
    simp only [beq_iff_eq, decide_eq_true_eq, mm2]
    split <;> omega
  rw [e]
  refine br_of (fun h1 => ld_of (c := .int .i64) b c2 ⟨?_, n2⟩) (fun h1 => ⟨?_, n2⟩)
  · unfold rightB; rw [h1]; simp
  · unfold rightB; rw [h1]; rfl
theorem log_ok (z p b : Int) (h : Heap) (h0 : -1000000 ≤ z) (h1 : z ≤ 1000000) : CallsH Tryd.prog 50 [.agg #[.int .i64 z, .int .i64 p, .int .i64 b]] h fun v h' => v = .int .i64 (z - 2) ∧ New h h' := by
  refine fun_ok hm' Tryd.func50 (by kernel_rfl) (F50_eq _ _ _ _ h) ?_
  unfold F50
  refine new_of fun h2 b2 n2 s2 => ld_of (c := .int .i64) z (by rw [add_mk, cellH_blk b2]; rfl) ⟨?_, n2⟩
  rw [wr64 (by omega) (by omega)]
theorem wru64 {n : Int} : IntKind.wrap .u64 n = n % 18446744073709551616 := by simp [IntKind.wrap, IntKind.bits, IntKind.signed]
/-- The page of an address. -/
def atF (z p a : Int) : Int × Int × Bool := if a = 0 ∨ (z - 2) * p < a then (0, 0, false) else ((a - 1) / p, (a - 1) % p, true)
theorem at_ok (z p b a : Int) (h : Heap) (hz : 11 ≤ z ∧ z ≤ 24) (hp : 4 ≤ p ∧ p ≤ 16) (ha : 0 ≤ a ∧ a < 4294967296) :
    CallsH Tryd.prog 88 [.agg #[.int .i64 z, .int .i64 p, .int .i64 b], .int .u32 a] h fun v h' => v = .tuple #[.int .i64 (atF z p a).1, .int .i64 (atF z p a).2.1, .bool (atF z p a).2.2] ∧ New h h' := by
  refine fun_ok hm' Tryd.func88 (by kernel_rfl) (F88_eq _ _ _ _ _ h) ?_
  unfold F88
  refine new_of fun h2 b2 n2 s2 => ?_
  have c0 : ∀ {h'}, New h2 h' → cellH h' ((⟨h.size, 0, none⟩ : Addr).add 0) = some (.int .i64 z) := fun hn => by rw [add_mk, cellH_blk (b2.new hn)]; rfl
  have c1 : ∀ {h'}, New h2 h' → cellH h' ((⟨h.size, 0, none⟩ : Addr).add 1) = some (.int .i64 p) := fun hn => by rw [add_mk, cellH_blk (b2.new hn)]; rfl
  have c2 : ∀ {h'}, New h2 h' → cellH h' ((⟨h.size, 0, none⟩ : Addr).add 2) = some (.int .i64 b) := fun hn => by rw [add_mk, cellH_blk (b2.new hn)]; rfl
  have hzp : 0 ≤ (z - 2) * p ∧ (z - 2) * p ≤ 22 * 16 := ⟨Int.mul_nonneg (by omega) (by omega), Int.mul_le_mul (by omega) (by omega) (by omega) (by omega)⟩
  have r := New.refl h2
  refine cut_of (br_of (fun h0 => ?_) fun h0 => ?_)
  · have e : atF z p a = (0, 0, false) := if_pos (.inl (by simpa using h0))
    rw [e]; exact ⟨rfl, n2⟩
  have ha0 : a ≠ 0 := by simpa using h0
  refine ⟨((z, p, b) : Int × Int × Int), ⟨c0 r, c1 r, c2 r, trivial⟩, ld_of (c := .int .i64) p (c1 r) (call_of (log_ok z p b h2 (by omega) (by omega)) ?_)⟩
  rintro v h3 ⟨rfl, n3⟩
  refine ⟨(z - 2 : Int), rfl, ⟨?_, n3.ext⟩⟩
  have e1 : IntKind.wrap .u64 a = a := by rw [wru64]; omega
  have e2 : IntKind.wrap .u64 (IntKind.wrap .i64 ((z - 2) * p)) = (z - 2) * p := by rw [wr64 (by omega) (by omega), wru64]; omega
  rw [e1, e2]
  refine br_of (fun hg => ?_) fun hg _ => ?_
  · have e : atF z p a = (0, 0, false) := if_pos (.inr (by simpa using hg))
    rw [e]; exact ⟨rfl, n2.trans n3⟩
  have hg : ¬ (z - 2) * p < a := by simpa using hg
  have e : atF z p a = ((a - 1) / p, (a - 1) % p, true) := if_neg (by omega)
  have e3 : IntKind.wrap .i64 (IntKind.wrap .u32 (a - (1 : Int))) = a - 1 := by rw [wru32, Int.emod_eq_of_lt (by omega) (by omega), wr64 (by omega) (by omega)]
  have hdv : 0 ≤ (a - 1) / p ∧ (a - 1) / p ≤ a - 1 := ⟨Int.ediv_nonneg (by omega) (by omega), Int.ediv_le_self _ (by omega)⟩
  have ckt : ∀ {F : Prop}, F → ckB (!decide (p = 0)) F := fun {F} hF => by simp [ckB, show p ≠ 0 by omega]; exact hF
  refine ld_of (c := .int .i64) p (c1 n3) (ckt (ld_of (c := .int .i64) p (c1 n3) (ckt ⟨?_, n2.trans n3⟩)))
  rw [e, e3, Int.tdiv_eq_ediv_of_nonneg (by omega), Int.tmod_eq_emod_of_nonneg (by omega), wr64 (by omega) (by omega)]
/-- A page's address. -/
def ofF (z p zone page : Int) : Int := if (0 ≤ zone ∧ zone ≤ z - 3) ∧ 0 ≤ page ∧ page ≤ p - 1 then zone * p + page + 1 else 0
theorem of_ok (z p b zone page : Int) (h : Heap) (hz : 11 ≤ z ∧ z ≤ 24) (hp : 4 ≤ p ∧ p ≤ 16) :
    CallsH Tryd.prog 51 [.agg #[.int .i64 z, .int .i64 p, .int .i64 b], .int .i64 zone, .int .i64 page] h fun v h' => v = .int .u32 (ofF z p zone page) ∧ New h h' := by
  refine fun_ok hm' Tryd.func51 (by kernel_rfl) (F51_eq _ _ _ _ _ _ h) ?_
  unfold F51
  refine new_of fun h2 b2 n2 s2 => ?_
  have c0 : ∀ {h'}, New h2 h' → cellH h' ((⟨h.size, 0, none⟩ : Addr).add 0) = some (.int .i64 z) := fun hn => by rw [add_mk, cellH_blk (b2.new hn)]; rfl
  have c1 : ∀ {h'}, New h2 h' → cellH h' ((⟨h.size, 0, none⟩ : Addr).add 1) = some (.int .i64 p) := fun hn => by rw [add_mk, cellH_blk (b2.new hn)]; rfl
  have c2 : ∀ {h'}, New h2 h' → cellH h' ((⟨h.size, 0, none⟩ : Addr).add 2) = some (.int .i64 b) := fun hn => by rw [add_mk, cellH_blk (b2.new hn)]; rfl
  have r := New.refl h2
  refine cut_of ⟨((z, p, b) : Int × Int × Int), ⟨c0 r, c1 r, c2 r, trivial⟩, call_of (log_ok z p b h2 (by omega) (by omega)) ?_⟩
  rintro v h3 ⟨rfl, n3⟩
  refine ⟨(z - 2 : Int), rfl, ?_⟩
  rw [wr64 (n := z - 2 - 1) (by omega) (by omega)]
  refine call_of (within_ok zone 0 (z - 2 - 1) h3) ?_
  rintro v h' ⟨rfl, hh⟩
  subst h'
  refine ⟨_, rfl, br_of (fun h1 => ?_) fun h1 => ld_of (c := .int .i64) p (c1 n3) ?_⟩
  · have e : ofF z p zone page = 0 := if_neg (by simp at h1; omega)
    rw [e]; exact ⟨rfl, n2.trans n3⟩
  rw [wr64 (n := p - 1) (by omega) (by omega)]
  refine call_of (within_ok page 0 (p - 1) h3) ?_
  rintro v h' ⟨rfl, hh⟩
  subst h'
  refine ⟨_, rfl, br_of (fun h2 => ?_) fun h2 _ => ld_of (c := .int .i64) p (c1 n3) ⟨?_, n2.trans n3⟩⟩
  · have e : ofF z p zone page = 0 := if_neg (by simp at h2; omega)
    rw [e]; exact ⟨rfl, n2.trans n3⟩
  have h1 : 0 ≤ zone ∧ zone ≤ z - 2 - 1 := by simpa using h1
  have h2 : 0 ≤ page ∧ page ≤ p - 1 := by simpa using h2
  have hm : 0 ≤ zone * p ∧ zone * p ≤ 22 * 16 := ⟨Int.mul_nonneg (by omega) (by omega), Int.mul_le_mul (by omega) (by omega) (by omega) (by omega)⟩
  have e : ofF z p zone page = zone * p + page + 1 := if_pos (by omega)
  rw [e, wr64 (n := zone * p) (by omega) (by omega), wr64 (n := zone * p + page) (by omega) (by omega), wr64 (n := zone * p + page + 1) (by omega) (by omega), wru32, Int.emod_eq_of_lt (by omega) (by omega)]
end Go.Proofs.YtgohecjnjadnpaaDoor.Geo
