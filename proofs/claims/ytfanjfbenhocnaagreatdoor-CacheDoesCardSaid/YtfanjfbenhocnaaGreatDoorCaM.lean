/-
  CacheDirty of layer 10; awake.
-/
import Derived.Test.YtfanjfbenhocnaaGreatDoorCaL
import Derived.Test.YtfanjfbenhocnaaGreatDoorWSame8
import Derived.Test.YtfanjfbenhocnaaGreatDoorReads
import Derived.LaidEql
namespace Go.Proofs.YtfanjfbenhocnaaGreatDoor.Ca
open Go.Pl Go.Pl.Lru Go.Pl.Ix Go.Proofs.YtfanjfbenhocnaaGreatDoor.W Go.Proofs.YtfanjfbenhocnaaGreatDoor.Lru Go.Proofs.YtfanjfbenhocnaaGreatDoor.IxS
/- ROWS OF ENTRIES, READ. -/
theorem encs_get : ∀ (L : List En) (i : Nat) (z : En), L[i]? = some z → ∀ j, j < 3 → (encs L)[i * 3 + j]? = (entV z.1 z.2)[j]?
  | [], i, z, h, _, _ => by simp at h
  | y :: L, 0, z, h, j, hj => by
    have e : y = z := by simpa using h
    subst e
    have : encs (y :: L) = entV y.1 y.2 ++ encs L := rfl
    rw [this, List.getElem?_append_left (by rw [show (entV y.1 y.2).length = 3 from rfl]; omega)]
    congr 1; omega
  | y :: L, i + 1, z, h, j, hj => by
    have : encs (y :: L) = entV y.1 y.2 ++ encs L := rfl
    rw [this, List.getElem?_append_right (by rw [show (entV y.1 y.2).length = 3 from rfl]; omega), ← encs_get L i z (by simpa using h) j hj]
    congr 1
    rw [show (entV y.1 y.2).length = 3 from rfl]; omega
def ER (h : Heap) (a : Option Addr) (L : List En) : Prop := ∀ (i : Nat) (z : En), L[i]? = some z → ∃ b o, a = some ⟨b, o, none⟩ ∧ b < h.size ∧ ∀ j, j < 3 → cellH h ⟨b, o + (i * 3 + j), none⟩ = (entV z.1 z.2)[j]?
theorem ER.own {h : Heap} {base n c : Nat} {e : TypeId} {a : Option Addr} {L : List En} (o : OwnH h base e 3 a n c (encs L)) : ER h a L := fun i z hz => by
  have hi : i < L.length := (List.getElem?_eq_some_iff.1 hz).1
  obtain ⟨hl, ⟨rfl, rfl, rfl⟩ | ⟨g, cur, rfl, _, hb, _, hs, ht⟩⟩ := o.row
  · rw [encs_len] at hl; omega
  · refine ⟨g, 0, rfl, hb.lt, fun j hj => ?_⟩
    rw [Nat.zero_add, cellH_blk hb, ← encs_get L i z hz j hj, ← ht, List.getElem?_take, if_pos (by rw [encs_len] at hl; omega), Array.getElem?_toList]
theorem ER.same {h h' : Heap} {a : Option Addr} {L : List En} (r : ER h a L) (hs : h.size ≤ h'.size) (hk : ∀ g, blkOf a = some g → g < h.size → h'[g]? = h[g]?) : ER h' a L := fun i z hz => by
  obtain ⟨b, o, rfl, hb, hc⟩ := r i z hz
  exact ⟨b, o, rfl, by omega, fun j hj => by rw [cellH_same (hk b rfl hb)]; exact hc j hj⟩
theorem ER.new {h h' : Heap} {a : Option Addr} {L : List En} (r : ER h a L) (n : New h h') : ER h' a L := r.same n.size fun g _ hg => n.same g hg
/-- An entry of a row, loaded. -/
theorem ER.ld {h : Heap} {a : Option Addr} {L : List En} (r : ER h a L) {i n : Nat} (hi : i < L.length) (hn : i < n) {F : Int × Int × Bool → Prop} (hF : F ((L[i].1 : Int), L[i].2.1, L[i].2.2)) :
    ptrW a (fun p => idxW (i : Int) n true (ldAggW [.int .i64, .int .u32, .bool] (Addr.add p (Int.toNat (i : Int) * 3)) F h)) := by
  obtain ⟨b, o, rfl, hb, hc⟩ := r i _ (List.getElem?_eq_getElem hi)
  exact agg_at (k := 3) (((L[i].1 : Int), L[i].2.1, L[i].2.2) : Int × Int × Bool) (es := entV L[i].1 L[i].2) hc rfl rfl hn hF
theorem ent_eq (t : TypeId) (ht : t = TEn) (x y : Int × Int × Bool) : ∀ w, (Op.equal t (.agg #[.int .i64 x.1, .int .u32 x.2.1, .bool x.2.2]) (.agg #[.int .i64 y.1, .int .u32 y.2.1, .bool y.2.2])).run Tryz.prog w = .ok (decide (x = y)) w := by
  intro w
  subst ht
  obtain ⟨a, b, c⟩ := x
  obtain ⟨a', b', c'⟩ := y
  have hS : Tryz.prog.underlying TEn = some (.struct (Tryz.prog.fieldsOf TEn)) := by kernel_rfl
  have hp : Tryz.prog.stoodInHeld TEn = false := by kernel_rfl
  have u3 := Tryz.underlying3
  have a3 := Tryz.isAgg3
  have z3 := Tryz.sizeOf3
  have u4 := Tryz.underlying34
  have a4 := Tryz.isAgg34
  have z4 := Tryz.sizeOf34
  have u5 := Tryz.underlying4
  have a5 := Tryz.isAgg4
  have z5 := Tryz.sizeOf4
  show ((Op.equalIn (9999 + 1) TEn _ _).run _ _) = _
  rw [run_equalIn_agg w 9999 TEn _ _ hS hp]
  simp only [Program.fieldsOf, Tryz.underlying60]
  go_simp
  by_cases h1 : a = a' <;> by_cases h2 : b = b' <;> by_cases h3 : c = c' <;> simp [h1, h2, h3]
theorem num_same (a b : Option Addr) (n m ca cb : Nat) (h : Heap) (xs ys : List Int) (hx : n = xs.length) (hy : m = ys.length) (hn : n ≤ 1000000) (ra : Ar .i64 h a xs) (rb : Ar .i64 h b ys) :
    CallsH Tryz.prog 16 [.slice a n ca, .slice b m cb] h fun v h' => v = .bool (decide (xs = ys)) ∧ h' = h := by
  refine fun_ok hm' Tryz.func16 (by kernel_rfl) (F16_eq _ _ _ _ _ _ _ h) ?_
  unfold F16
  subst hx; subst hy
  refine br_of (fun hne => ?_) (fun heq => ?_)
  · have : xs ≠ ys := fun e => by subst e; simp at hne
    exact ⟨by simp [this], rfl⟩
  have hl : xs.length = ys.length := by simp at heq; omega
  refine ⟨fun (s : Int) h' => h' = h ∧ ∃ i : Nat, s = i ∧ i ≤ xs.length ∧ xs.take i = ys.take i, fun (s : Int) _ => (xs.length - s).toNat, ⟨rfl, 0, rfl, by omega, rfl⟩, ?_⟩
  rintro s j h' ⟨hh, i, rfl, hi, hpre⟩
  subst h'
  refine br_of (fun hlt => ?_) (fun hlt => ?_)
  · have hlt : i < xs.length := by simp at hlt; omega
    refine ix_ld ra hlt (by omega) (ix_ld rb (by omega) (by omega) (br_of (fun hd => ?_) (fun hd => ?_)))
    · have hd : xs[i] ≠ ys[i] := by simpa using hd
      have : xs ≠ ys := fun e => by subst e; exact hd rfl
      exact ⟨by simp [this], rfl⟩
    · have hd : xs[i] = ys[i] := by simpa using hd
      refine ⟨⟨rfl, i + 1, (by first | (rw [wr64 (by omega) (by omega)]; omega) | (simp only [IntKind.wrap_i64]; omega)), hlt, ?_⟩, (by dsimp only; first | (rw [wr64 (by omega) (by omega)]; omega) | (rw [wr64 (by omega) (by omega), wr64 (by omega) (by omega)]; omega) | (simp only [IntKind.wrap_i64]; omega))⟩
      rw [← List.take_append_getElem hlt, ← List.take_append_getElem (show i < ys.length by omega), hpre, hd]
  · have hlt : ¬ (i : Int) < (xs.length : Int) := of_decide_eq_false hlt
    have : i = xs.length := by omega
    subst this
    rw [List.take_length, List.take_of_length_le (by omega)] at hpre
    exact ⟨by simp [hpre], rfl⟩
/- PLAIN: WHAT A BLOCK IS. -/
def stB (c : Cm) (B : Int) : Int × Bool × Bool := match at_ c B with | some e => (e.1, true, e.2) | none => (0, false, false)
def stepB (s : Int × Bool × Bool) (B : Int) (z : Az) (is : Bool) (vic : Option En) : Int × Bool × Bool :=
  let d1 := if z.1 = 4 ∧ z.2.1 = B / 4 then false else s.2.2
  let s2 := if z.2.1 = B ∧ is = true then (if z.1 = 1 then (z.2.2.1, true, d1 || z.2.2.2) else if z.1 = 2 then (z.2.2.1, s.2.1, d1) else if z.1 = 3 then (0, false, false) else (s.1, s.2.1, d1)) else (s.1, s.2.1, d1)
  if z.1 = 5 ∧ (vic.map fun e => (e.1 : Int)) = some B then (0, false, false) else s2
theorem at_set (c : Cm) (B' : Nat → List Nat) (n : Nat) (v : Option (Int × Bool)) (x : Int) : at_ ⟨B', setE c.E n v⟩ x = if x = n then v else at_ c x := by
  unfold at_ setE
  by_cases h0 : 0 ≤ x
  · rw [if_pos h0, if_pos h0]
    by_cases h : x = n
    · rw [if_pos h]; exact if_pos (by omega)
    · rw [if_neg h]; exact if_neg (by omega)
  · rw [if_neg h0, if_neg h0, if_neg (by omega)]
theorem stB_peek (c : Cm) (B : Int) : peekC c B = ((stB c B).1, (stB c B).2.1) := by
  unfold peekC stB
  cases at_ c B <;> rfl
theorem stepB_idle {s : Int × Bool × Bool} {B d x a : Int} {di is : Bool} {vic : Option En} (h1 : ¬ d = 1) (h2 : ¬ d = 2) (h3 : ¬ d = 3) (h4 : ¬ d = 4) (h5 : ¬ d = 5) : stepB s B (d, x, a, di) is vic = s := by
  show (if d = 5 ∧ _ then _ else (if x = B ∧ is = true then (if d = 1 then _ else if d = 2 then _ else if d = 3 then _ else (s.1, s.2.1, if d = 4 ∧ x = B / 4 then false else s.2.2)) else (s.1, s.2.1, if d = 4 ∧ x = B / 4 then false else s.2.2))) = s
  rw [if_neg (fun h => h5 h.1), if_neg h1, if_neg h2, if_neg h3, if_neg (show ¬ (d = 4 ∧ x = B / 4) from fun h => h4 h.1), ite_self]
section
variable {s : Int × Bool × Bool} {B x a : Int} {di is : Bool} {v : Option En}
theorem step1 : stepB s B (1, x, a, di) is v = if x = B ∧ is = true then (a, true, s.2.2 || di) else s := by
  by_cases h : x = B ∧ is = true <;> simp [stepB, h]
theorem step2 : stepB s B (2, x, a, di) is v = if x = B ∧ is = true then (a, s.2.1, s.2.2) else s := by
  by_cases h : x = B ∧ is = true <;> simp [stepB, h]
theorem step3 : stepB s B (3, x, a, di) is v = if x = B ∧ is = true then (0, false, false) else s := by
  by_cases h : x = B ∧ is = true <;> simp [stepB, h]
theorem step4 : stepB s B (4, x, a, di) false v = (s.1, s.2.1, if x = B / 4 then false else s.2.2) := by simp [stepB]
theorem step5 : stepB s B (5, x, a, di) is v = if (v.map fun e => (e.1 : Int)) = some B then (0, false, false) else s := by
  show (if (5 : Int) = 5 ∧ _ then _ else (if x = B ∧ is = true then (if (5 : Int) = 1 then _ else if (5 : Int) = 2 then _ else if (5 : Int) = 3 then _ else (s.1, s.2.1, if (5 : Int) = 4 ∧ x = B / 4 then false else s.2.2)) else (s.1, s.2.1, if (5 : Int) = 4 ∧ x = B / 4 then false else s.2.2))) = _
  rw [if_neg (show ¬ (5 : Int) = 1 by decide), if_neg (show ¬ (5 : Int) = 2 by decide), if_neg (show ¬ (5 : Int) = 3 by decide), if_neg (show ¬ ((5 : Int) = 4 ∧ x = B / 4) from fun h => absurd h.1 (by decide)), ite_self]
  by_cases hv : (v.map fun e => (e.1 : Int)) = some B
  · rw [if_pos ⟨rfl, hv⟩, if_pos hv]
  · rw [if_neg (fun h => hv h.2), if_neg hv]
end
theorem stB_set (c : Cm) (B' : Nat → List Nat) (n : Nat) (v : Option (Int × Bool)) (B : Int) : stB ⟨B', setE c.E n v⟩ B = if B = n then (match v with | some e => (e.1, true, e.2) | none => (0, false, false)) else stB c B := by
  unfold stB
  rw [at_set]
  by_cases h : B = n
  · rw [if_pos h, if_pos h]
  · rw [if_neg h, if_neg h]
theorem stB_of {c : Cm} {B : Int} {e : Int × Bool} (h : at_ c B = some e) : stB c B = (e.1, true, e.2) := by unfold stB; rw [h]
theorem stB_no {c : Cm} {B : Int} (h : at_ c B = none) : stB c B = (0, false, false) := by unfold stB; rw [h]
theorem step_ok {S : Nat} {c : Cm} (i : Inv S c) (B : Int) (h0 : 0 ≤ B) (z : Az) : stB (actC S c z).2 B = stepB (stB c B) B z (actC S c z).1.2.1 (vicC c) := by
  obtain ⟨d, x, a, di⟩ := z
  by_cases e0 : d = 0
  · subst e0
    rw [stepB_idle (by decide) (by decide) (by decide) (by decide) (by decide), act0]
    have : (getC S c x).E = c.E := by unfold getC; cases at_ c x <;> rfl
    unfold stB at_
    rw [this]
  by_cases e1 : d = 1
  · subst e1
    rw [act1, step1]
    unfold putC
    cases hx : at_ c x with
    | some e =>
      obtain ⟨n, rfl, _, _, he⟩ := at_mem i hx
      simp only [Int.toNat_natCast]
      rw [stB_set]
      by_cases hB : B = n
      · subst hB
        rw [if_pos rfl, if_pos (by simp), stB_of hx, Bool.or_comm]
      · rw [if_neg hB, if_neg (fun h => hB h.1.symm)]
    | none =>
      simp only []
      by_cases hc : 0 ≤ x ∧ x < 64 ∧ (que c.B).length < S
      · rw [if_pos hc]
        obtain ⟨n, rfl⟩ := Int.eq_ofNat_of_zero_le hc.1
        simp only [Int.toNat_natCast]
        rw [stB_set]
        by_cases hB : B = n
        · subst hB
          rw [if_pos rfl, if_pos (by simp), stB_no hx, Bool.false_or]
        · rw [if_neg hB, if_neg (fun h => hB h.1.symm)]
      · rw [if_neg hc, if_neg (fun h => by cases h.2)]
  by_cases e2 : d = 2
  · subst e2
    rw [act2, step2]
    unfold moveC
    cases hx : at_ c x with
    | some e =>
      obtain ⟨n, rfl, _, _, he⟩ := at_mem i hx
      simp only [Int.toNat_natCast]
      rw [stB_set]
      by_cases hB : B = n
      · subst hB
        rw [if_pos rfl, if_pos (by simp), stB_of hx]
      · rw [if_neg hB, if_neg (fun h => hB h.1.symm)]
    | none => rw [if_neg (fun h => by cases h.2)]
  by_cases e3 : d = 3
  · subst e3
    rw [act3, step3]
    unfold dropC
    cases hx : at_ c x with
    | some e =>
      obtain ⟨n, rfl, _, _, he⟩ := at_mem i hx
      simp only [Int.toNat_natCast]
      rw [stB_set]
      by_cases hB : B = n
      · subst hB
        rw [if_pos rfl, if_pos (by simp)]
      · rw [if_neg hB, if_neg (fun h => hB h.1.symm)]
    | none => rw [if_neg (fun h => by cases h.2)]
  by_cases e4 : d = 4
  · subst e4
    rw [act4, step4]
    obtain ⟨n, rfl⟩ := Int.eq_ofNat_of_zero_le h0
    unfold stB
    rw [at_nat, at_nat]
    have e4 : ((n : Int) / 4) = ((n / 4 : Nat) : Int) := by omega
    rw [e4]
    show (match (c.E n).map (fun e => (e.1, e.2 && !decide (((n / 4 : Nat) : Int) = x))) with | some e => (e.1, true, e.2) | none => (0, false, false)) = _
    cases c.E n with
    | none => simp
    | some e =>
      simp only [Option.map_some]
      by_cases hx : x = ((n / 4 : Nat) : Int)
      · rw [if_pos hx, hx]; simp
      · rw [if_neg hx, decide_eq_false (fun h => hx h.symm)]; simp
  by_cases e5 : d = 5
  · subst e5
    cases hv : vicC c with
    | none => rw [act5n hv, step5, if_neg (fun h => by cases h)]
    | some e =>
      rw [act5s hv, step5]
      unfold vicC at hv
      cases hw : vicL c.B with
      | none => rw [hw] at hv; cases hv
      | some n =>
        rw [hw] at hv
        obtain ⟨hq, e', he'⟩ := i.vic hw
        have hv : (c.E n).map (fun e => (n, e.1, e.2)) = some e := hv
        rw [he'] at hv
        have hen : e.1 = n := by rw [← Option.some.inj hv]
        have hdr : dropC c ((n : Nat) : Int) = (true, ⟨del c.B n, setE c.E n none⟩) := by unfold dropC; rw [at_nat, he']; simp
        rw [hen, hdr, Option.map_some, hen]
        show stB ⟨del c.B n, setE c.E n none⟩ B = _
        rw [stB_set]
        by_cases hB : B = n
        · subst hB
          rw [if_pos rfl, if_pos rfl]
        · rw [if_neg hB, if_neg (fun h => hB (Option.some.inj h).symm)]
  · rw [stepB_idle e1 e2 e3 e4 e5, act6 e0 e1 e2 e3 e4 e5]
theorem found_ok {S : Nat} {c : Cm} (i : Inv S c) (B : Int) (h0 : 0 ≤ B) : (dirtyC c (B / 4)).any (fun z => decide ((z.1 : Int) = B)) = (stB c B).2.2 := by
  obtain ⟨n, rfl⟩ := Int.eq_ofNat_of_zero_le h0
  rw [Bool.eq_iff_iff, List.any_eq_true]
  unfold stB
  rw [at_nat]
  have e4 : ((n : Int) / 4) = ((n / 4 : Nat) : Int) := by omega
  constructor
  · rintro ⟨z, hz, hzn⟩
    obtain ⟨m, hm, rfl, hd, _⟩ := mem_dirty.1 hz
    have hmn : m = n := by
      have := of_decide_eq_true hzn
      have : (m : Int) = (n : Int) := this
      omega
    subst hmn
    unfold dirtyB ev at hd
    cases hE : c.E m with
    | none => rw [hE] at hd; cases hd
    | some e => rw [hE] at hd; exact hd
  · intro hh
    cases hE : c.E n with
    | none => rw [hE] at hh; cases hh
    | some e =>
      rw [hE] at hh
      refine ⟨ev c n, mem_dirty.2 ⟨n, (mem_blocks i n).2 ((i.mem n).2 (by rw [hE]; rfl)), rfl, ?_, e4.symm⟩, decide_eq_true rfl⟩
      unfold dirtyB ev
      rw [hE]; exact hh
end Go.Proofs.YtfanjfbenhocnaaGreatDoor.Ca
