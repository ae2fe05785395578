/-
  The contracts of package valid: at, Live, Mark, Unmark, Count, New.
-/
import Derived.Test.YticppjmldlhbiaaDoorWValid
import Derived.Test.YticppjmldlhbiaaDoorGeo
import Derived.Test.YticppjmldlhbiaaDoorBits
import Derived.Test.YticppjmldlhbiaaDoorOnes
import Derived.Test.YticppjmldlhbiaaDoorApp
namespace Go.Proofs.YticppjmldlhbiaaDoor.Valid
open Go.Pl Go.Proofs.YticppjmldlhbiaaDoor.W Go.Proofs.YticppjmldlhbiaaDoor.Geo
theorem at_facts {z p a : Int} (hp : 4 ≤ p) (ha : 0 ≤ a) (h : (atF z p a).2.2 = true) : 0 ≤ (atF z p a).1 ∧ (atF z p a).1 < z - 2 ∧ 0 ≤ (atF z p a).2.1 ∧ (atF z p a).2.1 < p ∧ a = (atF z p a).1 * p + (atF z p a).2.1 + 1 := by
  unfold atF at h ⊢
  split
  · rename_i hc; rw [if_pos hc] at h; cases h
  · rename_i hc
    have h1 : 0 ≤ (a - 1) / p := Int.ediv_nonneg (by omega) (by omega)
    have h2 : 0 ≤ (a - 1) % p := Int.emod_nonneg _ (by omega)
    have h3 : (a - 1) % p < p := Int.emod_lt_of_pos _ (by omega)
    have h4 : p * ((a - 1) / p) + (a - 1) % p = a - 1 := Int.mul_ediv_add_emod _ _
    refine ⟨h1, ?_, h2, h3, ?_⟩
    · refine Int.ediv_lt_of_lt_mul (by omega) ?_
      have : ¬ (z - 2) * p < a := fun hh => hc (.inr hh)
      omega
    · show a = (a - 1) / p * p + (a - 1) % p + 1
      rw [Int.mul_comm]; omega
/-- The set whose block is b: its geometry, its zones' words (in block q). -/
structure VAt (h : Heap) (b q : Nat) (z p B : Nat) (W : Nat → Nat) : Prop where
  hd : ∃ T, Blk h b #[.int .i64 z, .int .i64 p, .int .i64 B, .slice (some ⟨q, 0, none⟩) (z - 2) (z - 2)] T
  ws : ∃ arr T, Blk h q arr T ∧ arr.size = z - 2 ∧ ∀ i, i < z - 2 → arr[i]? = some (.int .u32 (W i))
  ne : b ≠ q
  hz : 11 ≤ z ∧ z ≤ 24
  hp : 4 ≤ p ∧ p ≤ 16
  lt : ∀ i, i < z - 2 → W i < 2 ^ p
theorem VAt.new {h h' : Heap} {b q z p B : Nat} {W : Nat → Nat} (v : VAt h b q z p B W) (n : New h h') : VAt h' b q z p B W := by
  obtain ⟨⟨T, hd⟩, ⟨arr, T', hb, r⟩, r2, r3, r4, r5⟩ := v
  exact ⟨⟨T, hd.new n⟩, ⟨arr, T', hb.new n, r⟩, r2, r3, r4, r5⟩
theorem VAt.only {h h' : Heap} {b q z p B c : Nat} {W : Nat → Nat} (v : VAt h b q z p B W) (n : Only c h h') (h1 : b ≠ c) (h2 : q ≠ c) : VAt h' b q z p B W := by
  obtain ⟨⟨T, hd⟩, ⟨arr, T', hb, r⟩, r2, r3, r4, r5⟩ := v
  exact ⟨⟨T, hd.only n h1⟩, ⟨arr, T', hb.only n h2, r⟩, r2, r3, r4, r5⟩
theorem zero31 : zeroC Tryd.prog 25 = #[.int .u32 0] := by kernel_rfl
theorem vat_ok (b q z p B : Nat) (W : Nat → Nat) (a : Int) (h : Heap) (hv : VAt h b q z p B W) (ha : 0 ≤ a ∧ a < 4294967296) :
    CallsH Tryd.prog 39 [.pointer (some ⟨b, 0, none⟩), .int .u32 a] h fun v h' => New h h' ∧
      ((∃ zn pg : Nat, atF z p a = ((zn : Int), (pg : Int), true) ∧ zn < z - 2 ∧ pg < p ∧ v = .tuple #[.pointer (some ⟨q, zn, none⟩), .int .u32 ((2 ^ pg : Nat) : Int)]) ∨
       ((atF z p a).2.2 = false ∧ ∃ c, h.size ≤ c ∧ (∃ T, Blk h' c #[.int .u32 0] T) ∧ v = .tuple #[.pointer (some ⟨c, 0, none⟩), .int .u32 0])) := by
  refine fun_ok hm' Tryd.func39 (by kernel_rfl) (F39_eq _ _ _ h) ?_
  unfold F39
  obtain ⟨⟨T, hd⟩, hws, hne, hz, hp, hlt⟩ := id hv
  refine ⟨((z : Int), (p : Int), (B : Int)), ⟨by rw [add_mk, add_mk, cellH_blk hd]; rfl, by rw [add_mk, add_mk, cellH_blk hd]; rfl, by rw [add_mk, add_mk, cellH_blk hd]; rfl, trivial⟩, ?_⟩
  refine call_of (at_ok z p B a h (by omega) (by omega) ha) ?_
  rintro v h1 ⟨rfl, n1⟩
  refine ⟨((atF z p a).1, (atF z p a).2.1, (atF z p a).2.2), rfl, ?_⟩
  cases hc : (atF z p a).2.2 with
  | false =>
    refine br_t rfl ?_
    rw [zero31]
    exact new_of fun h2 b2 n2 s2 => ⟨n1.trans n2, .inr ⟨rfl, h1.size, n1.size, ⟨_, b2⟩, rfl⟩⟩
  | true =>
    have f := at_facts (z := z) (p := p) (a := a) (by omega) ha.1 hc
    obtain ⟨zn, hzn⟩ := Int.eq_ofNat_of_zero_le f.1
    obtain ⟨pg, hpg⟩ := Int.eq_ofNat_of_zero_le f.2.2.1
    have e : atF z p a = ((zn : Int), (pg : Int), true) := Prod.ext hzn (Prod.ext hpg hc)
    rw [e] at f ⊢
    dsimp only at f ⊢
    refine br_f rfl (ld_of (c := .slice) (some ⟨q, 0, none⟩, z - 2, z - 2) (by rw [add_mk, cellH_blk (hd.new n1)]; rfl) ?_)
    refine ⟨⟨⟨by omega, by dsimp only; omega⟩, rfl⟩, ?_⟩
    have ck : ∀ {F : Prop}, F → ckB (decide (0 ≤ (pg : Int))) F := fun hF => by rw [decide_eq_true (by omega : (0 : Int) ≤ (pg : Int))]; exact hF
    refine ck ⟨n1, .inl ⟨zn, pg, rfl, by omega, by omega, ?_⟩⟩
    have h2p : (2 : Nat) ^ pg < 2 ^ 32 := Nat.pow_lt_pow_right (by omega) (by omega)
    have e2 : IntKind.wrap .u32 ((1 : Int) * 2 ^ (min ((pg : Int)).toNat 32)) = ((2 ^ pg : Nat) : Int) := by
      rw [Int.toNat_natCast, Nat.min_eq_left (by omega), Int.one_mul]
      have : (2 : Int) ^ pg = ((2 ^ pg : Nat) : Int) := by simp
      rw [this]
      exact wr32_nat h2p
    simp only [add_mk, Int.toNat_natCast, Nat.mul_one, Nat.zero_add]
    rw [← e2]; rfl
theorem ptr_of {a : Addr} {F : Addr → Prop} (h : F a) : ptrW (some a) F := h
/-- Is an address marked? -/
def liveB (z p : Nat) (W : Nat → Nat) (a : Int) : Bool := (atF z p a).2.2 && (W (atF z p a).1.toNat).testBit (atF z p a).2.1.toNat
def updW (W : Nat → Nat) (i v : Nat) : Nat → Nat := fun j => if j = i then v else W j
theorem VAt.word {h : Heap} {b q z p B : Nat} {W : Nat → Nat} (v : VAt h b q z p B W) {i : Nat} (hi : i < z - 2) : cellH h ⟨q, i, none⟩ = some (.int .u32 (W i)) := by
  obtain ⟨arr, T, hb, _, hw⟩ := v.ws
  rw [cellH_blk hb]; exact hw i hi
theorem VAt.w32 {h : Heap} {b q z p B : Nat} {W : Nat → Nat} (v : VAt h b q z p B W) {i : Nat} (hi : i < z - 2) : W i < 4294967296 :=
  Nat.lt_of_lt_of_le (v.lt i hi) (Nat.pow_le_pow_right (n := 2) (by omega) (show p ≤ 32 by have := v.hp; omega))
theorem pow32 {k : Nat} (h : k < 16) : 2 ^ k < 4294967296 := Nat.pow_lt_pow_right (n := 32) (by omega) (by omega)
theorem live_ok (b q z p B : Nat) (W : Nat → Nat) (a : Int) (h : Heap) (hv : VAt h b q z p B W) (ha : 0 ≤ a ∧ a < 4294967296) :
    CallsH Tryd.prog 13 [.pointer (some ⟨b, 0, none⟩), .int .u32 a] h fun v h' => v = .bool (liveB z p W a) ∧ New h h' := by
  refine fun_ok hm' Tryd.func13 (by kernel_rfl) (F13_eq _ _ _ h) ?_
  unfold F13
  have hp := hv.hp
  refine call_of (vat_ok b q z p B W a h hv ha) ?_
  rintro v h1 ⟨n1, ⟨zn, pg, e, hz, hpg, rfl⟩ | ⟨e, c, hc, ⟨T, bc⟩, rfl⟩⟩
  · refine ⟨(some ⟨q, zn, none⟩, ((2 ^ pg : Nat) : Int)), rfl, ld_of (c := .int .u32) (W zn : Int) ((hv.new n1).word hz) ⟨?_, n1⟩⟩
    rw [and32 (hv.w32 hz) (pow32 (by omega))]
    have : liveB z p W a = (W zn).testBit pg := by simp [liveB, e]
    rw [this]
    congr 1
    rw [Bool.eq_iff_iff]
    have := and_pow (a := W zn) (k := pg)
    cases hb : (W zn).testBit pg <;> simp [hb] at this ⊢ <;> omega
  · refine ⟨(some ⟨c, 0, none⟩, (0 : Int)), rfl, ld_of (c := .int .u32) (0 : Int) (by rw [cellH_blk bc]; rfl) ⟨?_, n1⟩⟩
    simp [liveB, e, IntKind.wrap, IntKind.bits, IntKind.signed]
theorem VAt.put {h h' : Heap} {b q z p B i w : Nat} {W : Nat → Nat} {arr : Array Value} {T : TypeId} (v : VAt h b q z p B W) (hi : i < z - 2) (hw : w < 2 ^ p) (hb : Blk h q arr T) (hb' : Blk h' q (arr.setIfInBounds i (.int .u32 (w : Int))) T) (ho : Only q h h') : VAt h' b q z p B (updW W i w) := by
  obtain ⟨⟨T1, hd⟩, ⟨arr1, T', hb1, hs, hr⟩, r2, r3, r4, r5⟩ := v
  obtain rfl := hb1.inj hb
  refine ⟨⟨T1, hd.only ho r2⟩, ⟨_, _, hb', by simp [hs], fun j hj => ?_⟩, r2, r3, r4, fun j hj => ?_⟩
  · by_cases e : j = i
    · subst e; rw [Array.getElem?_setIfInBounds_self_of_lt (by omega)]; simp [updW]
    · rw [Array.getElem?_setIfInBounds_ne (fun h => e h.symm), hr j hj]; simp [updW, e]
  · by_cases e : j = i
    · subst e; simp [updW]; exact hw
    · simp [updW, e]; exact r5 j hj
/-- The words behind a mark. -/
def markW (z p : Nat) (W : Nat → Nat) (a : Int) : Nat → Nat := if (atF z p a).2.2 = true then updW W (atF z p a).1.toNat (W (atF z p a).1.toNat ||| 2 ^ (atF z p a).2.1.toNat) else W
theorem mark_ok (b q z p B : Nat) (W : Nat → Nat) (a : Int) (h : Heap) (hv : VAt h b q z p B W) (ha : 0 ≤ a ∧ a < 4294967296) :
    CallsH Tryd.prog 9 [.pointer (some ⟨b, 0, none⟩), .int .u32 a] h fun v h' => v = .bool ((atF z p a).2.2 && !liveB z p W a) ∧ VAt h' b q z p B (markW z p W a) ∧ Upd q h h' := by
  refine fun_ok hm' Tryd.func9 (by kernel_rfl) (F9_eq _ _ _ h) ?_
  unfold F9
  have hp := hv.hp
  have hqlt : q < h.size := by obtain ⟨arr, T, hb, _⟩ := hv.ws; exact hb.lt
  have hblt : b < h.size := by obtain ⟨T, hb⟩ := hv.hd; exact hb.lt
  refine call_of (vat_ok b q z p B W a h hv ha) ?_
  rintro v h1 ⟨n1, ⟨zn, pg, e, hz, hpg, rfl⟩ | ⟨e, c, hc, ⟨T, bc⟩, rfl⟩⟩
  · have hv1 := hv.new n1
    have hw := hv1.word hz
    have h2 : 2 ^ pg < 2 ^ p := Nat.pow_lt_pow_right (by omega) hpg
    have el : liveB z p W a = (W zn).testBit pg := by simp [liveB, e]
    have em : markW z p W a = updW W zn (W zn ||| 2 ^ pg) := by simp [markW, e]
    refine ⟨(some ⟨q, zn, none⟩, ((2 ^ pg : Nat) : Int)), rfl, ?_⟩
    refine cut_of (br_t (by have := Nat.two_pow_pos pg; simp only [bne_iff_ne, ne_eq]; omega) (ld_of (c := .int .u32) (W zn : Int) hw fun _ => ld_of (c := .int .u32) (W zn : Int) hw ?_))
    dsimp only
    rw [or32 (hv.w32 hz) (pow32 (by omega)), and32 (hv.w32 hz) (pow32 (by omega))]
    obtain ⟨arr, T, hb, hs, hr⟩ := id hv1.ws
    refine ptr_of (st_blk (o := zn) hb (by omega) fun h2' b2 o2 => ⟨?_, ?_, n1.upd.trans o2.upd⟩)
    · rw [el, e]
      congr 1
      rw [Bool.eq_iff_iff]
      have := and_pow (a := W zn) (k := pg)
      cases hb : (W zn).testBit pg <;> simp [hb] at this ⊢ <;> omega
    · rw [em]; exact hv1.put hz (Nat.or_lt_two_pow (hv.lt zn hz) h2) hb b2 o2
  · have el : liveB z p W a = false := by simp [liveB, e]
    have em : markW z p W a = W := by simp [markW, e]
    refine ⟨(some ⟨c, 0, none⟩, (0 : Int)), rfl, ?_⟩
    refine cut_of (br_f (by simp) fun _ => ld_of (c := .int .u32) (0 : Int) (by rw [cellH_blk bc]; rfl) (st_blk bc (by simp) fun h2 b2 o2 => ⟨?_, ?_, (o2.upd.new n1 hc).upd⟩))
    · rw [e]; rfl
    · rw [em]; exact (hv.new n1).only o2 (by omega) (by omega)
/-- The words behind an unmark. -/
def unW (z p : Nat) (W : Nat → Nat) (a : Int) : Nat → Nat := if (atF z p a).2.2 = true then updW W (atF z p a).1.toNat (W (atF z p a).1.toNat &&& (4294967295 - 2 ^ (atF z p a).2.1.toNat)) else W
theorem unmark_ok (b q z p B : Nat) (W : Nat → Nat) (a : Int) (h : Heap) (hv : VAt h b q z p B W) (ha : 0 ≤ a ∧ a < 4294967296) :
    CallsH Tryd.prog 11 [.pointer (some ⟨b, 0, none⟩), .int .u32 a] h fun v h' => v = .bool (liveB z p W a) ∧ VAt h' b q z p B (unW z p W a) ∧ Upd q h h' := by
  refine fun_ok hm' Tryd.func11 (by kernel_rfl) (F11_eq _ _ _ h) ?_
  unfold F11
  have hp := hv.hp
  have hqlt : q < h.size := by obtain ⟨arr, T, hb, _⟩ := hv.ws; exact hb.lt
  have hblt : b < h.size := by obtain ⟨T, hb⟩ := hv.hd; exact hb.lt
  refine call_of (vat_ok b q z p B W a h hv ha) ?_
  rintro v h1 ⟨n1, ⟨zn, pg, e, hz, hpg, rfl⟩ | ⟨e, c, hc, ⟨T, bc⟩, rfl⟩⟩
  · have hv1 := hv.new n1
    have hw := hv1.word hz
    have el : liveB z p W a = (W zn).testBit pg := by simp [liveB, e]
    have em : unW z p W a = updW W zn (W zn &&& (4294967295 - 2 ^ pg)) := by simp [unW, e]
    refine ⟨(some ⟨q, zn, none⟩, ((2 ^ pg : Nat) : Int)), rfl, ?_⟩
    refine ld_of (c := .int .u32) (W zn : Int) hw (ld_of (c := .int .u32) (W zn : Int) hw ?_)
    dsimp only
    rw [andNot32 (hv.w32 hz) (pow32 (by omega)), and32 (hv.w32 hz) (pow32 (by omega))]
    obtain ⟨arr, T, hb, hs, hr⟩ := id hv1.ws
    refine ptr_of (st_blk (o := zn) hb (by omega) fun h2' b2 o2 => ⟨?_, ?_, n1.upd.trans o2.upd⟩)
    · rw [el]
      congr 1
      rw [Bool.eq_iff_iff]
      have := and_pow (a := W zn) (k := pg)
      cases hb : (W zn).testBit pg <;> simp [hb] at this ⊢ <;> omega
    · rw [em]; exact hv1.put hz (Nat.lt_of_le_of_lt Nat.and_le_left (hv.lt zn hz)) hb b2 o2
  · have el : liveB z p W a = false := by simp [liveB, e]
    have em : unW z p W a = W := by simp [unW, e]
    refine ⟨(some ⟨c, 0, none⟩, (0 : Int)), rfl, ?_⟩
    refine ld_of (c := .int .u32) (0 : Int) (by rw [cellH_blk bc]; rfl) (ld_of (c := .int .u32) (0 : Int) (by rw [cellH_blk bc]; rfl) (ptr_of (st_blk (o := 0) bc (by simp) fun h2 b2 o2 => ⟨?_, ?_, (o2.upd.new n1 hc).upd⟩)))
    · rw [el]; simp [IntKind.wrap, IntKind.bits, IntKind.signed]
    · rw [em]; exact (hv.new n1).only o2 (by omega) (by omega)
/-- How many pages of a zone are marked. -/
def cntW (z : Nat) (W : Nat → Nat) (i : Int) : Nat := if 0 ≤ i ∧ i < (z - 2 : Nat) then Ones.popN (W i.toNat) 32 else 0
theorem count_ok (b q z p B : Nat) (W : Nat → Nat) (i : Int) (h : Heap) (hv : VAt h b q z p B W) :
    CallsH Tryd.prog 16 [.pointer (some ⟨b, 0, none⟩), .int .i64 i] h fun v h' => v = .int .i64 (cntW z W i : Int) ∧ h' = h := by
  refine fun_ok hm' Tryd.func16 (by kernel_rfl) (F16_eq _ _ _ h) ?_
  unfold F16
  obtain ⟨T, hd⟩ := hv.hd
  have hs : cellH h ((⟨b, 0, none⟩ : Addr).add 3) = some (.slice (some ⟨q, 0, none⟩) (z - 2) (z - 2)) := by rw [add_mk, cellH_blk hd]; rfl
  refine cut_of (br_of (fun h0 => ?_) fun h0 => ld_of (c := .slice) (some ⟨q, 0, none⟩, z - 2, z - 2) hs (br_of (fun h1 => ?_) fun h1 _ => ?_))
  · have : cntW z W i = 0 := if_neg (by simp at h0; omega)
    rw [this]; exact ⟨rfl, rfl⟩
  · have : cntW z W i = 0 := if_neg (by simp at h1; omega)
    rw [this]; exact ⟨rfl, rfl⟩
  have h0 : 0 ≤ i := by simpa using h0
  obtain ⟨n, rfl⟩ := Int.eq_ofNat_of_zero_le h0
  have h1 : n < z - 2 := by simp at h1; omega
  refine ld_of (c := .slice) (some ⟨q, 0, none⟩, z - 2, z - 2) hs ⟨⟨⟨by omega, by dsimp only; omega⟩, rfl⟩, ?_⟩
  simp only [add_mk, Int.toNat_natCast, Nat.mul_one, Nat.zero_add]
  refine ld_of (c := .int .u32) (W n : Int) (hv.word h1) (call_of (Ones.ones_ok (W n) (hv.w32 h1) h) ?_)
  rintro v h' ⟨rfl, hh⟩
  subst h'
  have : cntW z W (n : Int) = Ones.popN (W n) 32 := if_pos ⟨h0, by omega⟩
  rw [this]
  exact ⟨((Ones.popN (W n) 32 : Nat) : Int), rfl, by trivial, by trivial⟩
def totW (z : Nat) (W : Nat → Nat) : Nat → Nat
  | 0 => 0
  | n + 1 => totW z W n + cntW z W (n : Int)
theorem cntW_le (z : Nat) (W : Nat → Nat) (i : Int) : cntW z W i ≤ 32 := by
  unfold cntW; split
  · exact Ones.popN_le _ _
  · omega
theorem totW_le (z : Nat) (W : Nat → Nat) : ∀ n, totW z W n ≤ 32 * n
  | 0 => Nat.le_refl _
  | n + 1 => by have := totW_le z W n; have := cntW_le z W (n : Int); simp only [totW]; omega
theorem total_ok (b q z p B : Nat) (W : Nat → Nat) (h : Heap) (hv : VAt h b q z p B W) :
    CallsH Tryd.prog 15 [.pointer (some ⟨b, 0, none⟩)] h fun v h' => v = .int .i64 (totW z W (z - 2) : Int) ∧ h' = h := by
  refine fun_ok hm' Tryd.func15 (by kernel_rfl) (F15_eq _ _ h) ?_
  unfold F15
  obtain ⟨T, hd⟩ := hv.hd
  have hz := hv.hz
  refine ld_of (c := .slice) (some ⟨q, 0, none⟩, z - 2, z - 2) (by rw [add_mk, cellH_blk hd]; rfl) ?_
  refine ⟨fun (s : Int × Int) h' => h' = h ∧ ∃ i : Nat, s = ((totW z W i : Int), (i : Int)) ∧ i ≤ z - 2, fun (s : Int × Int) _ => (((z - 2 : Nat) : Int) - s.2).toNat, ⟨rfl, 0, rfl, by omega⟩, ?_⟩
  rintro ⟨s0, s⟩ j h' ⟨hh, i, hs, hi⟩
  subst h'
  injection hs with hs1 hs2
  subst hs1; subst hs2
  have ht := totW_le z W i
  have hc := cntW_le z W (i : Int)
  refine br_of (fun hlt => ?_) (fun hlt => ?_)
  · have hlt : i < z - 2 := by simp at hlt; omega
    refine callW_of (count_ok b q z p B W (i : Int) h hv) ?_
    rintro v h' ⟨rfl, hh⟩
    subst h'
    refine ⟨(cntW z W (i : Int) : Int), rfl, ?_⟩
    dsimp only
    rw [wr64 (n := (totW z W i : Int) + (cntW z W (i : Int) : Int)) (by omega) (by omega), wr64 (n := (i : Int) + 1) (by omega) (by omega)]
    exact ⟨⟨rfl, i + 1, rfl, by omega⟩, by omega⟩
  · have hi : i = z - 2 := by simp at hlt; omega
    subst hi
    exact ⟨rfl, rfl⟩
def uI (xs : List Int) : List Value := xs.map fun x => Value.int .u32 x
def vI (xs : List Int) : List Value := xs.map fun x => Value.int .i64 x
/-- The marked pages of a zone, of those ahead of page n. -/
def ofL (z p : Nat) (W : Nat → Nat) (zone : Int) (n : Nat) : List Int := ((List.range n).map fun (g : Nat) => ofF z p zone (g : Int)).filter fun a => liveB z p W a
theorem ofL_succ (z p : Nat) (W : Nat → Nat) (zone : Int) (n : Nat) : ofL z p W zone (n + 1) = ofL z p W zone n ++ (if liveB z p W (ofF z p zone (n : Int)) = true then [ofF z p zone (n : Int)] else []) := by
  simp only [ofL, List.range_succ, List.map_append, List.filter_append, List.map_cons, List.map_nil, List.filter_cons, List.filter_nil]
theorem ofL_len (z p : Nat) (W : Nat → Nat) (zone : Int) : ∀ n, (ofL z p W zone n).length ≤ n
  | 0 => Nat.le_refl _
  | n + 1 => by
    have := ofL_len z p W zone n
    rw [ofL_succ]; split <;> simp <;> omega
theorem ofF_range {z p : Nat} (hz : 11 ≤ z ∧ z ≤ 24) (hp : 4 ≤ p ∧ p ≤ 16) (zone page : Int) : 0 ≤ ofF z p zone page ∧ ofF z p zone page < 4294967296 := by
  unfold ofF; split
  · rename_i hc
    have hm : 0 ≤ zone * (p : Int) ∧ zone * (p : Int) ≤ 22 * 16 := ⟨Int.mul_nonneg (by omega) (by omega), Int.mul_le_mul (by omega) (by omega) (by omega) (by omega)⟩
    omega
  · omega
theorem ap38 : apB Tryd.prog 42 25 1 4 = true := by kernel_rfl
theorem ap36 : apB Tryd.prog 49 3 1 8 = true := by kernel_rfl
theorem vof_ok (b q z p B : Nat) (W : Nat → Nat) (zone : Int) (h : Heap) (hv : VAt h b q z p B W) :
    CallsH Tryd.prog 19 [.pointer (some ⟨b, 0, none⟩), .int .i64 zone] h fun v h' => ∃ a c, v = .slice a (ofL z p W zone p).length c ∧ OwnH h' h.size 25 1 a (ofL z p W zone p).length c (uI (ofL z p W zone p)) ∧ New h h' := by
  refine fun_ok hm' Tryd.func19 (by kernel_rfl) (F19_eq _ _ _ h) ?_
  unfold F19
  obtain ⟨T, hd⟩ := hv.hd
  have hz := hv.hz
  have hp := hv.hp
  refine ld_of (c := .int .i64) (p : Int) (by rw [add_mk, add_mk, cellH_blk hd]; rfl) ?_
  refine ⟨fun (s : (Option Addr × Nat × Nat) × Int) h' => ∃ i : Nat, s.2 = i ∧ i ≤ p ∧ s.1.2.1 = (ofL z p W zone i).length ∧ OwnH h' h.size 25 1 s.1.1 s.1.2.1 s.1.2.2 (uI (ofL z p W zone i)) ∧ New h h',
    fun (s : (Option Addr × Nat × Nat) × Int) _ => ((p : Int) - s.2).toNat, ⟨0, rfl, by omega, rfl, OwnH.nil _ _ _ _, New.refl h⟩, ?_⟩
  rintro ⟨⟨a, n, c⟩, s⟩ j h1 ⟨i, hs, hi, hn, ow, n1⟩
  simp only [] at hs hn ow ⊢
  subst hs; subst hn
  have hv1 := hv.new n1
  have hd1 := hd.new n1
  have hl := ofL_len z p W zone i
  refine br_of (fun hlt => ?_) (fun hlt => ?_)
  · have hlt : i < p := by simp at hlt; omega
    refine ⟨((z : Int), (p : Int), (B : Int)), ⟨by rw [add_mk, add_mk, cellH_blk hd1]; rfl, by rw [add_mk, add_mk, cellH_blk hd1]; rfl, by rw [add_mk, add_mk, cellH_blk hd1]; rfl, trivial⟩, ?_⟩
    refine call_of (of_ok z p B zone (i : Int) h1 (by omega) (by omega)) ?_
    rintro v h2 ⟨rfl, n2⟩
    refine ⟨(ofF z p zone (i : Int) : Int), rfl, call_of (live_ok b q z p B W _ h2 (hv1.new n2) (ofF_range hz hp zone (i : Int))) ?_⟩
    rintro v h3 ⟨rfl, n3⟩
    have n13 := n1.trans (n2.trans n3)
    refine ⟨liveB z p W (ofF z p zone (i : Int)), rfl, ?_⟩
    rw [wr64 (by omega) (by omega)]
    refine br_of (fun hb => ?_) (fun hb => ?_)
    · have e := ofL_succ z p W zone i
      rw [if_pos hb] at e
      refine push1 ap38 ((ow.grow n2).grow n3) rfl (by omega) (by omega) n13.size ?_
      intro a' c' h4 o4 nn4 _
      refine ⟨⟨i + 1, rfl, by omega, by rw [e]; simp, ?_, nn4 h n13 (Nat.le_refl _)⟩, by omega⟩
      rw [e]; simpa [uI] using o4
    · have e := ofL_succ z p W zone i
      rw [if_neg (by rw [hb]; simp), List.append_nil] at e
      exact ⟨⟨i + 1, rfl, by omega, by rw [e], by rw [e]; exact (ow.grow n2).grow n3, n13⟩, by omega⟩
  · have hi : i = p := by simp at hlt; omega
    subst hi
    exact ⟨a, c, rfl, ow, n1⟩
/-- The zones that count none, of those ahead of zone n. -/
def bareL (W : Nat → Nat) (n : Nat) : List Int := ((List.range n).filter fun i => W i == 0).map fun (i : Nat) => (i : Int)
theorem bareL_succ (W : Nat → Nat) (n : Nat) : bareL W (n + 1) = bareL W n ++ (if W n = 0 then [(n : Int)] else []) := by
  simp only [bareL, List.range_succ, List.filter_append, List.map_append, List.filter_cons, List.filter_nil]
  by_cases h : W n = 0 <;> simp [h]
theorem bareL_len (W : Nat → Nat) : ∀ n, (bareL W n).length ≤ n
  | 0 => Nat.le_refl _
  | n + 1 => by
    have := bareL_len W n
    rw [bareL_succ]; split <;> simp <;> omega
theorem bare_ok (b q z p B : Nat) (W : Nat → Nat) (h : Heap) (hv : VAt h b q z p B W) :
    CallsH Tryd.prog 21 [.pointer (some ⟨b, 0, none⟩)] h fun v h' => ∃ a c, v = .slice a (bareL W (z - 2)).length c ∧ OwnH h' h.size 3 1 a (bareL W (z - 2)).length c (vI (bareL W (z - 2))) ∧ New h h' := by
  refine fun_ok hm' Tryd.func21 (by kernel_rfl) (F21_eq _ _ h) ?_
  unfold F21
  obtain ⟨T, hd⟩ := hv.hd
  have hz := hv.hz
  refine ld_of (c := .slice) (some ⟨q, 0, none⟩, z - 2, z - 2) (by rw [add_mk, cellH_blk hd]; rfl) ?_
  refine ⟨fun (s : (Option Addr × Nat × Nat) × Int) h' => ∃ i : Nat, s.2 = i ∧ i ≤ z - 2 ∧ s.1.2.1 = (bareL W i).length ∧ OwnH h' h.size 3 1 s.1.1 s.1.2.1 s.1.2.2 (vI (bareL W i)) ∧ New h h',
    fun (s : (Option Addr × Nat × Nat) × Int) _ => (((z - 2 : Nat) : Int) - s.2).toNat, ⟨0, rfl, by omega, rfl, OwnH.nil _ _ _ _, New.refl h⟩, ?_⟩
  rintro ⟨⟨a, n, c⟩, s⟩ j h1 ⟨i, hs, hi, hn, ow, n1⟩
  simp only [] at hs hn ow ⊢
  subst hs; subst hn
  have hl := bareL_len W i
  refine br_of (fun hlt => ?_) (fun hlt => ?_)
  · have hlt : i < z - 2 := by simp at hlt; omega
    refine ptr_of ⟨⟨by omega, rfl⟩, ?_⟩
    simp only [add_mk, Int.toNat_natCast, Nat.mul_one, Nat.zero_add]
    refine ld_of (c := .int .u32) (W i : Int) ((hv.new n1).word hlt) ?_
    rw [wr64 (by omega) (by omega)]
    have e := bareL_succ W i
    refine br_of (fun hb => ?_) (fun hb => ?_)
    · have hb : W i = 0 := by simp at hb; omega
      rw [if_pos hb] at e
      refine push1 ap36 ow rfl (by omega) (by omega) n1.size ?_
      intro a' c' h4 o4 nn4 _
      refine ⟨⟨i + 1, rfl, by omega, by rw [e]; simp, ?_, nn4 h n1 (Nat.le_refl _)⟩, by omega⟩
      rw [e]; simpa [vI] using o4
    · have hb : ¬ W i = 0 := by simp at hb; omega
      rw [if_neg hb, List.append_nil] at e
      exact ⟨⟨i + 1, rfl, by omega, by rw [e], by rw [e]; exact ow, n1⟩, by omega⟩
  · have hi : i = z - 2 := by simp at hlt; omega
    subst hi
    exact ⟨a, c, rfl, ow, n1⟩
theorem size31 : sizeN Tryd.prog 25 = 1 := by kernel_rfl
theorem bytes31 : bytesN Tryd.prog 25 = 4 := by kernel_rfl
theorem new_no (z p B : Int) (h : Heap) (hr : rightB z p B = false) :
    CallsH Tryd.prog 6 [.agg #[.int .i64 z, .int .i64 p, .int .i64 B]] h fun v h' => (∃ e, v = .tuple #[.pointer none, e]) ∧ New h h' := by
  refine fun_ok hm' Tryd.func6 (by kernel_rfl) (F6_eq _ _ _ _ h) ?_
  unfold F6
  refine new_of fun h2 b2 n2 s2 => ?_
  refine ⟨(z, p, B), ⟨by rw [add_mk, cellH_blk b2]; rfl, by rw [add_mk, cellH_blk b2]; rfl, by rw [add_mk, cellH_blk b2]; rfl, trivial⟩, ?_⟩
  refine call_of (right_ok z p B h2) ?_
  rintro v h3 ⟨rfl, n3⟩
  exact ⟨rightB z p B, rfl, br_t (by rw [hr]; rfl) ⟨⟨_, rfl⟩, n2.trans n3⟩⟩
theorem new_ok (z p B : Nat) (h : Heap) (hr : rightB z p B = true) :
    CallsH Tryd.prog 6 [.agg #[.int .i64 z, .int .i64 p, .int .i64 B]] h fun v h' => ∃ b q, h.size ≤ b ∧ h.size ≤ q ∧ v = .tuple #[.pointer (some ⟨b, 0, none⟩), .nilIface] ∧ VAt h' b q z p B (fun _ => 0) ∧ New h h' := by
  refine fun_ok hm' Tryd.func6 (by kernel_rfl) (F6_eq _ _ _ _ h) ?_
  unfold F6
  have hf := right_facts hr
  refine new_of fun h2 b2 n2 s2 => ?_
  have c0 : ∀ {h'}, New h2 h' → cellH h' ((⟨h.size, 0, none⟩ : Addr).add 0) = some (.int .i64 z) := fun hn => by rw [add_mk, cellH_blk (b2.new hn)]; rfl
  have c1 : ∀ {h'}, New h2 h' → cellH h' ((⟨h.size, 0, none⟩ : Addr).add 1) = some (.int .i64 p) := fun hn => by rw [add_mk, cellH_blk (b2.new hn)]; rfl
  have c2 : ∀ {h'}, New h2 h' → cellH h' ((⟨h.size, 0, none⟩ : Addr).add 2) = some (.int .i64 B) := fun hn => by rw [add_mk, cellH_blk (b2.new hn)]; rfl
  refine ⟨((z : Int), (p : Int), (B : Int)), ⟨c0 (New.refl _), c1 (New.refl _), c2 (New.refl _), trivial⟩, ?_⟩
  refine call_of (right_ok z p B h2) ?_
  rintro v h3 ⟨rfl, n3⟩
  refine ⟨rightB z p B, rfl, br_f (by rw [hr]; rfl) ?_⟩
  refine ⟨((z : Int), (p : Int), (B : Int)), ⟨c0 n3, c1 n3, c2 n3, trivial⟩, ⟨((z : Int), (p : Int), (B : Int)), ⟨c0 n3, c1 n3, c2 n3, trivial⟩, ?_⟩⟩
  refine call_of (log_ok z p B h3 (by omega) (by omega)) ?_
  rintro v h4 ⟨rfl, n4⟩
  refine ⟨((z : Int) - 2 : Int), rfl, ⟨?_, n4.ext⟩⟩
  have e : (z : Int) - 2 = ((z - 2 : Nat) : Int) := by omega
  rw [e]
  refine mk_of size31 zero31 (by rw [bytes31]; omega) (by omega) fun h5 b5 n5 s5 => new_of fun h6 b6 n6 s6 => ?_
  have s23 := n3.size
  have s34 := n4.size
  refine ⟨h5.size, h4.size, by omega, by omega, rfl, ⟨⟨_, b6⟩, ⟨_, _, b5.new n6, by simp, fun i hi => by simp [hi]⟩, by omega, by omega, by omega, fun i hi => Nat.two_pow_pos p⟩, (((n2.trans n3).trans n4).trans n5).trans n6⟩
end Go.Proofs.YticppjmldlhbiaaDoor.Valid
