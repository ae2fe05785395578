/-
  The contracts of package lru: New, in, first, Insert, Remove, Touch, Victim, each function once.
-/
import Derived.Test.YtfanjfbenhocnaaGreatDoorWLru
import Derived.Test.YtfanjfbenhocnaaGreatDoorHeap
import Derived.Test.YtfanjfbenhocnaaGreatDoorLruP
namespace Go.Proofs.YtfanjfbenhocnaaGreatDoor.Lru
open Go.Pl Go.Pl.Lru Go.Proofs.YtfanjfbenhocnaaGreatDoor.W
theorem hm' : Tryz.prog.follows .mixedOrders = true := by kernel_rfl
structure RkA (arr : Array Value) (nx bk rw m : Nat → Nat) (S : Nat) : Prop where
  size : arr.size = 201
  nx : ∀ i, i < 66 → arr[i]? = some (.int .i64 (nx i))
  bk : ∀ i, i < 66 → arr[66 + i]? = some (.int .i64 (bk i))
  rw : ∀ i, i < 66 → arr[132 + i]? = some (.int .i64 (rw i))
  m : ∀ r, r < 2 → arr[198 + r]? = some (.int .i64 (m r))
  s : arr[200]? = some (.int .i64 S)
def RkAt (h : Heap) (b : Nat) (nx bk rw m : Nat → Nat) (S : Nat) : Prop := ∃ arr T, Blk h b arr T ∧ RkA arr nx bk rw m S
section
variable {h : Heap} {b : Nat} {nx bk rw m : Nat → Nat} {S : Nat}
theorem get_up {arr : Array Value} {f : Nat → Nat} {o i j v : Nat} (hs : o + i < arr.size) (hf : arr[o + j]? = some (.int .i64 (f j))) : (arr.setIfInBounds (o + i) (.int .i64 v))[o + j]? = some (.int .i64 (up f i v j : Nat)) := by
  by_cases e : j = i
  · subst e; rw [up_same, Array.getElem?_setIfInBounds_self_of_lt hs]
  · rw [up_ne _ _ e, Array.getElem?_setIfInBounds_ne (by omega)]; exact hf
theorem RkA.nx_ {arr : Array Value} (a : RkA arr nx bk rw m S) {i : Nat} (hi : i < 66) (v : Nat) : RkA (arr.setIfInBounds i (.int .i64 v)) (up nx i v) bk rw m S := by
  have hz := a.size
  refine ⟨by simp [hz], fun j hj => ?_, fun j hj => ?_, fun j hj => ?_, fun r hr => ?_, ?_⟩
  · have := get_up (arr := arr) (f := nx) (o := 0) (i := i) (j := j) (v := v) (by omega) (by simpa using a.nx j hj)
    simpa using this
  · rw [Array.getElem?_setIfInBounds_ne (by omega)]; exact a.bk j hj
  · rw [Array.getElem?_setIfInBounds_ne (by omega)]; exact a.rw j hj
  · rw [Array.getElem?_setIfInBounds_ne (by omega)]; exact a.m r hr
  · rw [Array.getElem?_setIfInBounds_ne (by omega)]; exact a.s
theorem RkA.bk_ {arr : Array Value} (a : RkA arr nx bk rw m S) {i : Nat} (hi : i < 66) (v : Nat) : RkA (arr.setIfInBounds (66 + i) (.int .i64 v)) nx (up bk i v) rw m S := by
  have hz := a.size
  refine ⟨by simp [hz], fun j hj => ?_, fun j hj => ?_, fun j hj => ?_, fun r hr => ?_, ?_⟩
  · rw [Array.getElem?_setIfInBounds_ne (by omega)]; exact a.nx j hj
  · exact get_up (by omega) (a.bk j hj)
  · rw [Array.getElem?_setIfInBounds_ne (by omega)]; exact a.rw j hj
  · rw [Array.getElem?_setIfInBounds_ne (by omega)]; exact a.m r hr
  · rw [Array.getElem?_setIfInBounds_ne (by omega)]; exact a.s
theorem RkA.rw_ {arr : Array Value} (a : RkA arr nx bk rw m S) {i : Nat} (hi : i < 66) (v : Nat) : RkA (arr.setIfInBounds (132 + i) (.int .i64 v)) nx bk (up rw i v) m S := by
  have hz := a.size
  refine ⟨by simp [hz], fun j hj => ?_, fun j hj => ?_, fun j hj => ?_, fun r hr => ?_, ?_⟩
  · rw [Array.getElem?_setIfInBounds_ne (by omega)]; exact a.nx j hj
  · rw [Array.getElem?_setIfInBounds_ne (by omega)]; exact a.bk j hj
  · exact get_up (by omega) (a.rw j hj)
  · rw [Array.getElem?_setIfInBounds_ne (by omega)]; exact a.m r hr
  · rw [Array.getElem?_setIfInBounds_ne (by omega)]; exact a.s
theorem RkA.m_ {arr : Array Value} (a : RkA arr nx bk rw m S) {i : Nat} (hi : i < 2) (v : Nat) : RkA (arr.setIfInBounds (198 + i) (.int .i64 v)) nx bk rw (up m i v) S := by
  have hz := a.size
  refine ⟨by simp [hz], fun j hj => ?_, fun j hj => ?_, fun j hj => ?_, fun r hr => ?_, ?_⟩
  · rw [Array.getElem?_setIfInBounds_ne (by omega)]; exact a.nx j hj
  · rw [Array.getElem?_setIfInBounds_ne (by omega)]; exact a.bk j hj
  · rw [Array.getElem?_setIfInBounds_ne (by omega)]; exact a.rw j hj
  · exact get_up (by omega) (a.m r hr)
  · rw [Array.getElem?_setIfInBounds_ne (by omega)]; exact a.s
theorem st_nx {i v : Nat} {F : Heap → Prop} (hx : RkAt h b nx bk rw m S) (hi : i < 66) (hF : ∀ h', RkAt h' b (up nx i v) bk rw m S → Only b h h' → F h') : stW ⟨b, i, none⟩ (.int .i64 v) F h := by
  obtain ⟨arr, T, hb, a⟩ := hx
  exact st_blk hb (by rw [a.size]; omega) fun h' hb' ho => hF h' ⟨_, T, hb', a.nx_ hi v⟩ ho
theorem st_bk {i v : Nat} {F : Heap → Prop} (hx : RkAt h b nx bk rw m S) (hi : i < 66) (hF : ∀ h', RkAt h' b nx (up bk i v) rw m S → Only b h h' → F h') : stW ⟨b, 66 + i, none⟩ (.int .i64 v) F h := by
  obtain ⟨arr, T, hb, a⟩ := hx
  exact st_blk hb (by rw [a.size]; omega) fun h' hb' ho => hF h' ⟨_, T, hb', a.bk_ hi v⟩ ho
theorem st_rw {i v : Nat} {F : Heap → Prop} (hx : RkAt h b nx bk rw m S) (hi : i < 66) (hF : ∀ h', RkAt h' b nx bk (up rw i v) m S → Only b h h' → F h') : stW ⟨b, 132 + i, none⟩ (.int .i64 v) F h := by
  obtain ⟨arr, T, hb, a⟩ := hx
  exact st_blk hb (by rw [a.size]; omega) fun h' hb' ho => hF h' ⟨_, T, hb', a.rw_ hi v⟩ ho
theorem st_m {i v : Nat} {F : Heap → Prop} (hx : RkAt h b nx bk rw m S) (hi : i < 2) (hF : ∀ h', RkAt h' b nx bk rw (up m i v) S → Only b h h' → F h') : stW ⟨b, 198 + i, none⟩ (.int .i64 v) F h := by
  obtain ⟨arr, T, hb, a⟩ := hx
  exact st_blk hb (by rw [a.size]; omega) fun h' hb' ho => hF h' ⟨_, T, hb', a.m_ hi v⟩ ho
theorem ld_nx {i : Nat} {F : Int → Prop} (hx : RkAt h b nx bk rw m S) (hi : i < 66) (hF : F (nx i)) : ldW (.int .i64) ⟨b, i, none⟩ F h := by
  obtain ⟨arr, T, hb, a⟩ := hx; exact ld_of (c := .int .i64) (nx i : Int) (by rw [cellH_blk hb]; exact a.nx i hi) hF
theorem ld_bk {i : Nat} {F : Int → Prop} (hx : RkAt h b nx bk rw m S) (hi : i < 66) (hF : F (bk i)) : ldW (.int .i64) ⟨b, 66 + i, none⟩ F h := by
  obtain ⟨arr, T, hb, a⟩ := hx; exact ld_of (c := .int .i64) (bk i : Int) (by rw [cellH_blk hb]; exact a.bk i hi) hF
theorem ld_rw {i : Nat} {F : Int → Prop} (hx : RkAt h b nx bk rw m S) (hi : i < 66) (hF : F (rw i)) : ldW (.int .i64) ⟨b, 132 + i, none⟩ F h := by
  obtain ⟨arr, T, hb, a⟩ := hx; exact ld_of (c := .int .i64) (rw i : Int) (by rw [cellH_blk hb]; exact a.rw i hi) hF
theorem ld_m {i : Nat} {F : Int → Prop} (hx : RkAt h b nx bk rw m S) (hi : i < 2) (hF : F (m i)) : ldW (.int .i64) ⟨b, 198 + i, none⟩ F h := by
  obtain ⟨arr, T, hb, a⟩ := hx; exact ld_of (c := .int .i64) (m i : Int) (by rw [cellH_blk hb]; exact a.m i hi) hF
theorem ld_s {F : Int → Prop} (hx : RkAt h b nx bk rw m S) (hF : F S) : ldW (.int .i64) ⟨b, 200, none⟩ F h := by
  obtain ⟨arr, T, hb, a⟩ := hx; exact ld_of (c := .int .i64) (S : Int) (by rw [cellH_blk hb]; exact a.s) hF
theorem RkAt.only {h' : Heap} {c : Nat} (hx : RkAt h b nx bk rw m S) (ho : Only c h h') (hne : b ≠ c) : RkAt h' b nx bk rw m S := by
  obtain ⟨arr, T, hb, ha⟩ := hx; exact ⟨arr, T, hb.only ho hne, ha⟩
theorem RkAt.new {h' : Heap} (hx : RkAt h b nx bk rw m S) (ho : New h h') : RkAt h' b nx bk rw m S := by
  obtain ⟨arr, T, hb, ha⟩ := hx; exact ⟨arr, T, hb.new ho, ha⟩
theorem RkAt.upd {h' : Heap} {c : Nat} (hx : RkAt h b nx bk rw m S) (ho : Upd c h h') (hne : b ≠ c) : RkAt h' b nx bk rw m S := by
  obtain ⟨arr, T, hb, ha⟩ := hx; exact ⟨arr, T, hb.upd ho hne, ha⟩
end
/-- The ranking whose block is b has S slots, and the rows Ls. -/
def RkOk (h : Heap) (b S : Nat) (Ls : Nat → List Nat) : Prop := ∃ nx bk rw m, RkAt h b nx bk rw m S ∧ Rk nx bk rw S Ls ∧ 1 ≤ S ∧ ∀ r, r < 2 → m r = (Ls r).length
theorem RkOk.only {h h' : Heap} {b c S : Nat} {Ls : Nat → List Nat} (hx : RkOk h b S Ls) (ho : Only c h h') (hne : b ≠ c) : RkOk h' b S Ls := by
  obtain ⟨nx, bk, rw, m, h1, r⟩ := hx; exact ⟨nx, bk, rw, m, h1.only ho hne, r⟩
theorem RkOk.new {h h' : Heap} {b S : Nat} {Ls : Nat → List Nat} (hx : RkOk h b S Ls) (ho : New h h') : RkOk h' b S Ls := by
  obtain ⟨nx, bk, rw, m, h1, r⟩ := hx; exact ⟨nx, bk, rw, m, h1.new ho, r⟩
theorem RkOk.upd {h h' : Heap} {b c S : Nat} {Ls : Nat → List Nat} (hx : RkOk h b S Ls) (ho : Upd c h h') (hne : b ≠ c) : RkOk h' b S Ls := by
  obtain ⟨nx, bk, rw, m, h1, r⟩ := hx; exact ⟨nx, bk, rw, m, h1.upd ho hne, r⟩
theorem RkOk.lt {h : Heap} {b S : Nat} {Ls : Nat → List Nat} (hx : RkOk h b S Ls) : b < h.size := by
  obtain ⟨_, _, _, _, ⟨arr, T, hb, _⟩, _⟩ := hx; exact hb.lt
theorem end_ok (r : Nat) (h : Heap) (hr : r < 2) : CallsH Tryz.prog 61 [.int .i64 r] h fun v h' => v = .int .i64 ((64 + r : Nat) : Int) ∧ h' = h := by
  refine fun_ok hm' Tryz.func61 (by kernel_rfl) (F61_eq _ _ h) ?_
  unfold F61
  rw [wr64 (by omega) (by omega)]
  exact ⟨by rw [Int.natCast_add]; rfl, rfl⟩
theorem in_ok (b : Nat) (x : Int) (h : Heap) (S : Nat) (Ls : Nat → List Nat) (hx : RkOk h b S Ls) :
    CallsH Tryz.prog 64 [.pointer (some ⟨b, 0, none⟩), .int .i64 x] h fun v h' => v = .bool (inI Ls x) ∧ h' = h := by
  refine fun_ok hm' Tryz.func64 (by kernel_rfl) (F64_eq _ _ _ h) ?_
  obtain ⟨nx, bk, rw, m, hat, hrk, _⟩ := hx
  unfold F64
  simp only [add_mk, Nat.zero_add]
  refine br_of (fun h0 => ?_) (fun h0 => ?_)
  · have h0 : 0 ≤ x := by simpa using h0
    obtain ⟨n, rfl⟩ := Int.eq_ofNat_of_zero_le h0
    refine ld_s hat (br_of (fun hs => ?_) (fun hs => ?_))
    · have hs : n < S := by simpa using hs
      have := hrk.le
      refine ⟨⟨by omega, rfl⟩, ?_⟩
      simp only [Int.toNat_natCast, Nat.mul_one]
      refine ld_rw hat (by omega) ⟨?_, trivial⟩
      rw [← hrk.in_rw hs]; simp [inI]
    · have hs : ¬ n < S := by simpa using hs
      refine ⟨?_, trivial⟩
      have : inL Ls n = false := by
        cases hh : inL Ls n with
        | false => rfl
        | true => exact absurd (hrk.in_small hh) hs
      simp [inI, this]
  · have h0 : ¬ 0 ≤ x := by simpa using h0
    exact ⟨by simp [inI, h0], trivial⟩
theorem first_ok (b n r : Nat) (h : Heap) (S : Nat) (Ls : Nat → List Nat) (hx : RkOk h b S Ls) (hn : n < S) (hr : r < 2) (hout : inL Ls n = false) :
    CallsH Tryz.prog 62 [.pointer (some ⟨b, 0, none⟩), .int .i64 n, .int .i64 r] h fun v h' => v = .tuple #[] ∧ RkOk h' b S (upL Ls r (n :: Ls r)) ∧ Only b h h' := by
  refine fun_ok hm' Tryz.func62 (by kernel_rfl) (F62_eq _ _ _ _ h) ?_
  obtain ⟨nx, bk, rw, m, hat, hrk, h1, hm⟩ := hx
  have hle := hrk.le
  have hout' : ∀ q, q < 2 → n ∉ Ls q := fun q hq hh => by
    have := inL_iff.2 ⟨q, hq, hh⟩; rw [hout] at this; cases this
  have hfirst := hrk.first hn hr hout'
  unfold F62
  simp only [add_mk, Nat.zero_add]
  refine call_of (end_ok r h hr) ?_
  rintro v h' ⟨rfl, hh⟩
  subst h'
  refine ⟨((64 + r : Nat) : Int), rfl, ?_⟩
  have hnx : nx (64 + r) < 66 := by
    rcases (link_mem (hrk.link r hr)).1 with e | e
    · omega
    · have := hrk.small hr e; omega
  refine ⟨⟨by omega, rfl⟩, ?_⟩
  simp only [Int.toNat_natCast, Nat.mul_one]
  refine ld_nx hat (by omega) ⟨⟨by omega, rfl⟩, st_nx hat (by omega) fun h2 a2 o2 => ⟨⟨by omega, rfl⟩, st_bk a2 (by omega) fun h3 a3 o3 => ⟨⟨by omega, rfl⟩, st_nx a3 (by omega) fun h4 a4 o4 => ⟨⟨by omega, rfl⟩, ?_⟩⟩⟩⟩
  simp only [Int.toNat_natCast]
  refine st_bk a4 hnx fun h5 a5 o5 => ⟨⟨by omega, rfl⟩, st_rw a5 (by omega) fun h6 a6 o6 => ⟨⟨by omega, rfl⟩, ld_m a6 hr ⟨⟨by omega, rfl⟩, ?_⟩⟩⟩
  have hlen := hrk.len hr
  have hmr := hm r hr
  have e : IntKind.wrap .i64 ((m r : Int) + (1 : Int)) = ((m r + 1 : Nat) : Int) := by rw [wr64 (by omega) (by omega)]; rfl
  rw [e]
  refine st_m a6 hr fun h7 a7 o7 => ⟨by trivial, ⟨_, _, _, _, a7, hfirst, h1, fun q hq => ?_⟩, ((((o2.trans o3).trans o4).trans o5).trans o6).trans o7⟩
  by_cases e : q = r
  · subst e; rw [up_same]; simp [upL, hmr]
  · rw [up_ne _ _ e]; simp only [upL, if_neg e]; exact hm q hq
/-- What Insert does. -/
def insL (S : Nat) (Ls : Nat → List Nat) (x : Int) : Bool × (Nat → List Nat) :=
  if 0 ≤ x ∧ x < S ∧ inI Ls x = false then (true, upL Ls 0 (x.toNat :: Ls 0)) else (false, Ls)
theorem insert_ok (b : Nat) (x : Int) (h : Heap) (S : Nat) (Ls : Nat → List Nat) (hx : RkOk h b S Ls) :
    CallsH Tryz.prog 45 [.pointer (some ⟨b, 0, none⟩), .int .i64 x] h fun v h' => v = .bool (insL S Ls x).1 ∧ RkOk h' b S (insL S Ls x).2 ∧ Only b h h' := by
  refine fun_ok hm' Tryz.func45 (by kernel_rfl) (F45_eq _ _ _ h) ?_
  obtain ⟨nx, bk, rw, m, hat, hrk, hS⟩ := id hx
  unfold F45
  simp only [add_mk, Nat.zero_add]
  refine br_of (fun h0 => ?_) (fun h0 => ?_)
  · have h0 : x < 0 := by simpa using h0
    have : insL S Ls x = (false, Ls) := if_neg (by omega)
    rw [this]; exact ⟨rfl, hx, Only.refl _ _⟩
  have h0 : 0 ≤ x := by simp at h0; exact h0
  refine ld_s hat (br_of (fun h1 => ?_) (fun h1 => ?_))
  · have h1 : (S : Int) ≤ x := by simpa using h1
    have : insL S Ls x = (false, Ls) := if_neg (by omega)
    rw [this]; exact ⟨rfl, hx, Only.refl _ _⟩
  have h1 : x < S := by simp at h1; exact h1
  refine call_of (in_ok b x h S Ls hx) ?_
  rintro v h' ⟨rfl, hh⟩
  subst h'
  refine ⟨inI Ls x, rfl, br_of (fun h2 => ?_) (fun h2 => ?_)⟩
  · have : insL S Ls x = (false, Ls) := if_neg (by rw [h2]; simp)
    rw [this]; exact ⟨rfl, hx, Only.refl _ _⟩
  · have e : insL S Ls x = (true, upL Ls 0 (x.toNat :: Ls 0)) := if_pos ⟨h0, h1, h2⟩
    obtain ⟨n, rfl⟩ := Int.eq_ofNat_of_zero_le h0
    refine call_of (first_ok b n 0 h S Ls hx (by omega) (by omega) (by simpa [inI] using h2)) ?_
    rintro v h' ⟨rfl, hx', ho⟩
    refine ⟨(), rfl, ?_⟩
    rw [e]; exact ⟨rfl, hx', ho⟩
theorem remove_ok (b : Nat) (x : Int) (h : Heap) (S : Nat) (Ls : Nat → List Nat) (hx : RkOk h b S Ls) :
    CallsH Tryz.prog 47 [.pointer (some ⟨b, 0, none⟩), .int .i64 x] h fun v h' => v = .bool (inI Ls x) ∧ RkOk h' b S (if inI Ls x = true then del Ls x.toNat else Ls) ∧ Only b h h' := by
  refine fun_ok hm' Tryz.func47 (by kernel_rfl) (F47_eq _ _ _ h) ?_
  obtain ⟨nx, bk, rw, m, hat, hrk, h1, hm⟩ := id hx
  unfold F47
  simp only [add_mk, Nat.zero_add]
  refine call_of (in_ok b x h S Ls hx) ?_
  rintro v h' ⟨rfl, hh⟩
  subst h'
  refine ⟨inI Ls x, rfl, br_of (fun hi => ?_) (fun hi => ?_)⟩
  · have hi : inI Ls x = false := by simpa using hi
    rw [hi]; exact ⟨rfl, hx, Only.refl _ _⟩
  have hi : inI Ls x = true := by simpa using hi
  rw [if_pos hi]
  have hx0 : 0 ≤ x ∧ inL Ls x.toNat = true := by simpa [inI] using hi
  obtain ⟨n, rfl⟩ := Int.eq_ofNat_of_zero_le hx0.1
  obtain ⟨r, hr, hin⟩ := inL_iff.1 hx0.2
  simp only [Int.toNat_natCast] at hin ⊢
  have hle := hrk.le
  have hn : n < S := ((hrk.row r hr n).1 hin).1
  obtain ⟨hrem, hnx, hbk, hrw, hlen, hoth⟩ := hrk.remove hr hin
  refine ⟨⟨by omega, rfl⟩, ?_⟩
  simp only [Nat.mul_one]
  refine ld_nx hat (by omega) ⟨⟨by omega, rfl⟩, ld_bk hat (by omega) ⟨⟨by omega, rfl⟩, ?_⟩⟩
  simp only [Int.toNat_natCast]
  refine st_nx hat hbk fun h2 a2 o2 => ⟨⟨by omega, rfl⟩, st_bk a2 hnx fun h3 a3 o3 => ⟨⟨by omega, rfl⟩, ld_rw a3 (by omega) ?_⟩⟩
  rw [hrw]
  refine ⟨⟨by omega, rfl⟩, ?_⟩
  simp only [Int.toNat_natCast]
  refine ld_m a3 hr ⟨⟨by omega, rfl⟩, ?_⟩
  have hlr := hrk.len hr
  have hmr := hm r hr
  have e : IntKind.wrap .i64 ((m r : Int) - (1 : Int)) = (((Ls r).length - 1 : Nat) : Int) := by rw [wr64 (by omega) (by omega)]; omega
  rw [e]
  refine st_m a3 hr fun h4 a4 o4 => ⟨⟨by omega, rfl⟩, st_rw a4 (by omega) fun h5 a5 o5 => ⟨by rw [hi], ⟨_, _, _, _, a5, hrem, h1, fun q hq => ?_⟩, ((o2.trans o3).trans o4).trans o5⟩⟩
  by_cases e : q = r
  · subst e; rw [up_same]; omega
  · rw [up_ne _ _ e, hoth q hq e]; exact hm q hq
theorem in_del (Ls : Nat → List Nat) (n : Nat) : inL (del Ls n) n = false := by simp [inL, del]
/-- What Touch does. -/
def touL (S : Nat) (Ls : Nat → List Nat) (n : Nat) : Nat → List Nat :=
  let L1 := upL (del Ls n) 1 (n :: del Ls n 1)
  if S / 2 < (L1 1).length then upL (del L1 ((L1 1).getLastD 65)) 0 ((L1 1).getLastD 65 :: del L1 ((L1 1).getLastD 65) 0) else L1
theorem getLastD_mem {l : List Nat} {d : Nat} (h : l ≠ []) : l.getLastD d ∈ l := by
  cases l with
  | nil => exact absurd rfl h
  | cons a l => rw [List.getLastD_cons]; cases l with
    | nil => simp
    | cons b l => simp only [List.getLastD_cons]; exact List.mem_cons_of_mem _ (List.getLastD_mem_cons ..)
theorem touch_ok (b : Nat) (x : Int) (h : Heap) (S : Nat) (Ls : Nat → List Nat) (hx : RkOk h b S Ls) :
    CallsH Tryz.prog 43 [.pointer (some ⟨b, 0, none⟩), .int .i64 x] h fun v h' => v = .bool (inI Ls x) ∧ RkOk h' b S (if inI Ls x = true then touL S Ls x.toNat else Ls) ∧ Only b h h' := by
  refine fun_ok hm' Tryz.func43 (by kernel_rfl) (F43_eq _ _ _ h) ?_
  unfold F43
  simp only [add_mk, Nat.zero_add]
  refine call_of (remove_ok b x h S Ls hx) ?_
  rintro v h1 ⟨rfl, hx1, o1⟩
  refine ⟨inI Ls x, rfl, br_of (fun hi => ?_) (fun hi => ?_)⟩
  · have hi : inI Ls x = false := by simpa using hi
    rw [hi] at hx1 ⊢; exact ⟨rfl, hx1, o1⟩
  have hi : inI Ls x = true := by simpa using hi
  rw [if_pos hi] at hx1 ⊢
  have hx0 : 0 ≤ x ∧ inL Ls x.toNat = true := by simpa [inI] using hi
  obtain ⟨n, rfl⟩ := Int.eq_ofNat_of_zero_le hx0.1
  simp only [Int.toNat_natCast] at hx0 hx1 ⊢
  have hn : n < S := by obtain ⟨_, _, _, _, _, hrk, _⟩ := hx; exact hrk.in_small hx0.2
  refine call_of (first_ok b n 1 h1 S (del Ls n) hx1 hn (by omega) (in_del Ls n)) ?_
  rintro v h2 ⟨rfl, hx2, o2⟩
  generalize hL : upL (del Ls n) 1 (n :: del Ls n 1) = L1 at hx2
  have hT : touL S Ls n = if S / 2 < (L1 1).length then upL (del L1 ((L1 1).getLastD 65)) 0 ((L1 1).getLastD 65 :: del L1 ((L1 1).getLastD 65) 0) else L1 := by rw [← hL]; rfl
  obtain ⟨nx, bk, rw', m, hat, hrk, hS, hm⟩ := id hx2
  have hle := hrk.le
  have hm1 := hm 1 (by omega)
  refine ⟨(), rfl, ⟨⟨by decide, rfl⟩, ?_⟩⟩
  refine ld_m (i := 1) hat (by omega) (ld_s hat ?_)
  have e : IntKind.wrap .i64 (Int.tdiv (S : Int) (2 : Int)) = ((S / 2 : Nat) : Int) := by
    rw [Int.tdiv_eq_ediv_of_nonneg (by omega), wr64 (by omega) (by omega)]; omega
  rw [e]
  refine br_of (fun hg => ?_) (fun hg => ?_)
  · have hg : S / 2 < (L1 1).length := by simp at hg; omega
    rw [hT, if_pos hg]
    refine ⟨((64 + 1 : Nat) : Int), ⟨fun h' he => end_ok 1 h' (by omega), ⟨by decide, rfl⟩, ?_⟩⟩
    refine ld_bk (i := 65) hat (by omega) ?_
    have hb : bk 65 = (L1 1).getLastD 65 := (hrk.ends (r := 1) (by omega)).1
    rw [hb]
    have hne : L1 1 ≠ [] := by intro h0; rw [h0] at hg; simp at hg
    have hmem : (L1 1).getLastD 65 ∈ L1 1 := getLastD_mem hne
    generalize (L1 1).getLastD 65 = z at hmem ⊢
    have hz : z < S := ((hrk.row 1 (by omega) z).1 hmem).1
    have hin : inI L1 (z : Int) = true := by simp [inI, inL, hmem]
    refine call_of (remove_ok b z h2 S L1 hx2) ?_
    rintro v h3 ⟨rfl, hx3, o3⟩
    rw [if_pos hin] at hx3
    simp only [Int.toNat_natCast] at hx3
    refine ⟨inI L1 z, rfl, ?_⟩
    refine call_of (first_ok b z 0 h3 S (del L1 z) hx3 hz (by omega) (in_del L1 z)) ?_
    rintro v h4 ⟨rfl, hx4, o4⟩
    exact ⟨(), rfl, by rw [hi], hx4, ((o1.trans o2).trans o3).trans o4⟩
  · have hg : ¬ S / 2 < (L1 1).length := by simp at hg; omega
    rw [hT, if_neg hg]
    exact ⟨by rw [hi], hx2, o1.trans o2⟩
/-- Who goes first. -/
def vicL (Ls : Nat → List Nat) : Option Nat := if Ls 0 ≠ [] then some ((Ls 0).getLastD 0) else if Ls 1 ≠ [] then some ((Ls 1).getLastD 0) else none
theorem getLastD_any {l : List Nat} {d e : Nat} (h : l ≠ []) : l.getLastD d = l.getLastD e := by cases l with
  | nil => exact absurd rfl h
  | cons a l => simp only [List.getLastD_cons]
theorem victim_ok (b : Nat) (h : Heap) (S : Nat) (Ls : Nat → List Nat) (hx : RkOk h b S Ls) :
    CallsH Tryz.prog 40 [.pointer (some ⟨b, 0, none⟩)] h fun v h' => v = .tuple #[.int .i64 (((vicL Ls).getD 0 : Nat) : Int), .bool (vicL Ls).isSome] ∧ h' = h := by
  refine fun_ok hm' Tryz.func40 (by kernel_rfl) (F40_eq _ _ h) ?_
  obtain ⟨nx, bk, rw', m, hat, hrk, hS, hm⟩ := hx
  unfold F40
  simp only [add_mk, Nat.zero_add]
  refine ⟨fun (s : Int) h' => h' = h ∧ ∃ r : Nat, s = r ∧ r ≤ 2 ∧ ∀ q, q < r → Ls q = [], fun (s : Int) _ => (2 - s).toNat, ⟨by trivial, 0, rfl, by omega, fun q hq => by omega⟩, ?_⟩
  rintro s j h' ⟨hh, r, rfl, hr2, hpre⟩
  subst h'
  refine br_of (fun hlt => ?_) (fun hlt => ?_)
  · have hr : r < 2 := by simp at hlt; omega
    refine ⟨⟨by omega, rfl⟩, ?_⟩
    simp only [Int.toNat_natCast, Nat.mul_one]
    refine ld_m hat hr (br_of (fun h0 => ?_) (fun h0 => ?_))
    · have hne : Ls r ≠ [] := by intro e; rw [hm r hr, e] at h0; simp at h0
      refine ⟨((64 + r : Nat) : Int), ⟨fun h' he => end_ok r h' hr, ⟨by omega, rfl⟩, ?_⟩⟩
      simp only [Int.toNat_natCast]
      refine ld_bk hat (by omega) ?_
      rw [(hrk.ends hr).1]
      have hv : vicL Ls = some ((Ls r).getLastD (64 + r)) := by
        have : r = 0 ∨ r = 1 := by omega
        rcases this with rfl | rfl
        · rw [vicL, if_pos hne, getLastD_any hne]
        · rw [vicL, if_neg (by simp [hpre 0 (by omega)]), if_pos hne, getLastD_any hne]
      rw [hv]; exact ⟨rfl, by trivial⟩
    · have he : Ls r = [] := by
        have := hm r hr
        cases hl : Ls r with
        | nil => rfl
        | cons a l => rw [hl] at this; simp at this; simp [this] at h0
      rw [wr64 (by omega) (by omega)]
      exact ⟨⟨by trivial, r + 1, by omega, by omega, fun q hq => by
        by_cases e : q = r
        · subst e; exact he
        · exact hpre q (by omega)⟩, by omega⟩
  · have hr : r = 2 := by simp at hlt; omega
    subst hr
    have hv : vicL Ls = none := by simp [vicL, hpre 0 (by omega), hpre 1 (by omega)]
    rw [hv]; exact ⟨rfl, by trivial⟩
end Go.Proofs.YtfanjfbenhocnaaGreatDoor.Lru
