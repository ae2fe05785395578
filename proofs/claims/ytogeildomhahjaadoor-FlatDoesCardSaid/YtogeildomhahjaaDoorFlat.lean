/-
  The contracts of package flat.
-/
import Derived.Test.YtogeildomhahjaaDoorWFlat
import Derived.Test.YtogeildomhahjaaDoorAs
import Derived.Test.YtogeildomhahjaaDoorOwn
namespace Go.Proofs.YtogeildomhahjaaDoor.Flat
open Go.Pl Go.Proofs.YtogeildomhahjaaDoor.W Go.Proofs.YtogeildomhahjaaDoor.As
def mapL (xs : List Int) (m : Nat) : List Value := xs.map (Value.int .u8) ++ [.int .i64 (m : Int)]
/-- The map whose block is b: its bytes, and how many blocks it has. -/
structure MAt (h : Heap) (b : Nat) (xs : List Int) (m : Nat) : Prop where
  blk : Blk h b (mapL xs m).toArray 104
  len : xs.length = 1024
  hm : 1 ≤ m ∧ m ≤ 64
theorem MAt.new {h h' : Heap} {b m : Nat} {xs : List Int} (a : MAt h b xs m) (n : New h h') : MAt h' b xs m := ⟨a.blk.new n, a.len, a.hm⟩
theorem MAt.upd {h h' : Heap} {b c m : Nat} {xs : List Int} (a : MAt h b xs m) (n : Upd c h h') (hc : b ≠ c) : MAt h' b xs m := ⟨a.blk.upd n hc, a.len, a.hm⟩
theorem MAt.many {h : Heap} {b m : Nat} {xs : List Int} (a : MAt h b xs m) : cellH h ((⟨b, 0, none⟩ : Addr).add 1024) = some (.int .i64 (m : Int)) := by
  rw [add_mk, cellH_blk a.blk, Nat.zero_add]
  simp [mapL, a.len]
theorem repZ (m : Nat) : repL 1024 [Value.int .u8 0] [.int .i64 (m : Int)] = (mapL (List.replicate 1024 0) m).toArray := by
  unfold repL mapL
  rw [List.flatten_replicate_singleton, List.map_replicate]
theorem new_no (m : Int) (h : Heap) (hm : ¬ (1 ≤ m ∧ m ≤ 64)) : CallsH Tryd.prog 24 [.int .i64 m] h fun v h' => v = .tuple #[.pointer none, errV 1] ∧ h' = h := by
  refine fun_ok hm' Tryd.func24 (by kernel_rfl) (F24_eq _ _ h) ?_
  unfold F24
  refine cut_q (ts := [.sc .bool]) (fun (t : Bool) h' => t = true ∧ h' = h) ?_ ?_
  · rintro t h' ⟨rfl, hh⟩ _; subst h'; exact ⟨rfl, rfl⟩
  · intro K hK
    refine br_of (fun _ => hK _ _ ⟨rfl, rfl⟩) fun h0 => hK _ _ ⟨?_, rfl⟩
    simp at h0; simp; omega
theorem new_ok (m : Nat) (h : Heap) (hm : 1 ≤ m ∧ m ≤ 64) : CallsH Tryd.prog 24 [.int .i64 (m : Int)] h fun v h' => v = .tuple #[.pointer (some ⟨h.size, 0, none⟩), errV 0] ∧ MAt h' h.size (List.replicate 1024 0) m ∧ New h h' := by
  refine fun_ok hm' Tryd.func24 (by kernel_rfl) (F24_eq _ _ h) ?_
  unfold F24
  refine cut_q (ts := [.sc .bool]) (fun (t : Bool) h' => t = false ∧ h' = h) ?_ ?_
  · rintro t h' ⟨rfl, hh⟩ _; subst h'
    rw [repZ]
    refine br_f rfl (new_of fun h1 b1 n1 s1 => ⟨rfl, ⟨b1, List.length_replicate, hm⟩, n1⟩)
  · intro K hK
    exact br_f (by simp; omega) (hK _ _ ⟨by simp; omega, rfl⟩)
theorem blocks_ok (b m : Nat) (xs : List Int) (h : Heap) (a : MAt h b xs m) : CallsH Tryd.prog 36 [.pointer (some ⟨b, 0, none⟩)] h fun v h' => v = .int .i64 (m : Int) ∧ h' = h := by
  refine fun_ok hm' Tryd.func36 (by kernel_rfl) (F36_eq _ _ h) ?_
  unfold F36
  exact ld_of (c := .int .i64) (m : Int) a.many ⟨rfl, rfl⟩
/-- Are there such blocks? -/
def isB (m from_ many : Int) : Bool := decide (0 ≤ from_ ∧ 0 ≤ many ∧ from_ ≤ m ∧ many ≤ m - from_)
def isE (m from_ many : Int) : Int := if isB m from_ many = true then 0 else 1
theorem within_ok (b m : Nat) (xs : List Int) (f n : Int) (h : Heap) (a : MAt h b xs m) : CallsH Tryd.prog 52 [.pointer (some ⟨b, 0, none⟩), .int .i64 f, .int .i64 n] h fun v h' => v = errV (isE m f n) ∧ h' = h := by
  refine fun_ok hm' Tryd.func52 (by kernel_rfl) (F52_eq _ _ _ _ h) ?_
  unfold F52
  have hm := a.hm
  have no : ¬ (0 ≤ f ∧ 0 ≤ n ∧ f ≤ m ∧ n ≤ m - f) → isE m f n = 1 := fun hh => by unfold isE isB; rw [decide_eq_false hh]; rfl
  have yes : (0 ≤ f ∧ 0 ≤ n ∧ f ≤ m ∧ n ≤ m - f) → isE m f n = 0 := fun hh => by unfold isE isB; rw [decide_eq_true hh]; rfl
  refine cut_q (ts := []) (fun _ h' => h' = h ∧ 0 ≤ f ∧ 0 ≤ n) ?_ ?_
  · rintro _ h' ⟨hh, h0, h1⟩ _; subst h'
    refine ld_of (c := .int .i64) (m : Int) a.many (br_of (fun h2 => br_t h2 ⟨?_, rfl⟩) fun h2 => ld_of (c := .int .i64) (m : Int) a.many ?_)
    · rw [no (by simp at h2; omega)]; rfl
    · have h2 : f ≤ m := by simp at h2; omega
      rw [wr64 (by omega) (by omega)]
      refine br_of (fun h3 => ⟨?_, rfl⟩) fun h3 => ⟨?_, rfl⟩
      · rw [no (by simp at h3; omega)]; rfl
      · rw [yes (by simp at h3; omega)]; rfl
  · intro K hK
    refine br_of (fun h0 => br_t h0 ⟨?_, rfl⟩) fun h0 => br_of (fun h1 => ⟨?_, rfl⟩) fun h1 => hK () h ⟨rfl, ?_, ?_⟩
    · rw [no (by simp at h0; omega)]; rfl
    · rw [no (by simp at h1; omega)]; rfl
    · simp at h0; omega
    · simp at h1; omega
theorem ap8 : apB Tryd.prog 25 5 1 1 = true := by kernel_rfl
theorem zb : zeroC Tryd.prog 101 = Array.replicate 16 (.int .u8 0) := by kernel_rfl
/-- The bytes of blocks. -/
def bytesOf (xs : List Int) (f n : Nat) : List Int := (xs.drop (16 * f)).take (16 * n)
theorem read_no (b m : Nat) (xs : List Int) (f n : Int) (h : Heap) (a : MAt h b xs m) (hf : isB m f n = false) :
    CallsH Tryd.prog 26 [.pointer (some ⟨b, 0, none⟩), .int .i64 f, .int .i64 n] h fun v h' => v = .tuple #[.slice none 0 0, errV 1] ∧ h' = h := by
  refine fun_ok hm' Tryd.func26 (by kernel_rfl) (F26_eq _ _ _ _ h) ?_
  unfold F26
  refine call_of (within_ok b m xs f n h a) ?_
  rintro v h' ⟨rfl, hh⟩; subst h'
  have e : isE m f n = 1 := by unfold isE; rw [hf]; rfl
  rw [e]
  exact ⟨errV 1, rfl, errV_if 1, br_t rfl ⟨rfl, rfl⟩⟩
theorem read_ok (b m : Nat) (xs : List Int) (f n : Nat) (h : Heap) (a : MAt h b xs m) (hf : f + n ≤ m) :
    CallsH Tryd.prog 26 [.pointer (some ⟨b, 0, none⟩), .int .i64 (f : Int), .int .i64 (n : Int)] h fun v h' => ∃ s, v = .tuple #[s, errV 0] ∧ Fresh .u8 5 h h' s (bytesOf xs f n) := by
  refine fun_ok hm' Tryd.func26 (by kernel_rfl) (F26_eq _ _ _ _ h) ?_
  unfold F26
  have hm := a.hm
  have hlen := a.len
  refine call_of (within_ok b m xs f n h a) ?_
  rintro v h' ⟨rfl, hh⟩; subst h'
  have e : isE m f n = 0 := by unfold isE isB; rw [decide_eq_true (by omega)]; rfl
  rw [e]
  refine ⟨errV 0, rfl, errV_if 0, br_f rfl ?_⟩
  rw [wr64 (by omega) (by omega)]
  refine ⟨⟨by omega, by omega, by omega, by omega⟩, ?_⟩
  have ec : ((f : Int) + (n : Int)).toNat - ((f : Int)).toNat = n := by omega
  rw [ec]
  have esz : (mapL xs m).toArray.size = 1025 := by simp [mapL, hlen]
  refine ⟨fun (s : (Option Addr × Nat × Nat) × Int) h' => ∃ i : Nat, s.2 = i ∧ i ≤ n ∧ s.1.2.1 = (bytesOf xs f i).length ∧ OwnH h' h.size 5 1 s.1.1 (bytesOf xs f i).length s.1.2.2 ((bytesOf xs f i).map (Value.int .u8)) ∧ New h h', fun (s : (Option Addr × Nat × Nat) × Int) _ => ((n : Int) - s.2).toNat, ⟨0, rfl, by omega, by simp [bytesOf], by simpa [bytesOf] using OwnH.nil h h.size 5 1, New.refl h⟩, ?_⟩
  rintro ⟨⟨aa, l, c⟩, s⟩ j h1 ⟨i, hs, hi, hl, ow, n1⟩
  simp only [] at hs hl ow ⊢
  subst hs; subst hl
  have bl : ∀ i, i ≤ n → (bytesOf xs f i).length = 16 * i := fun i hi => by simp [bytesOf, hlen]; omega
  refine br_of (fun hlt => ?_) (fun hlt => ?_)
  · have hlt : i < n := by simp at hlt; omega
    have eb : sliceBase (some ((⟨b, 0, none⟩ : Addr).add 0)) ((f : Int)).toNat (64 : Int).toNat 16 = some ⟨b, 16 * f, none⟩ := by
      unfold sliceBase
      rw [if_neg (by omega)]
      simp only [Option.map, add_mk, Int.toNat_natCast]
      congr 2; omega
    rw [eb]
    refine ptr_of ⟨⟨by omega, rfl⟩, ?_⟩
    rw [add_mk, Int.toNat_natCast]
    refine ldRaw_blk (a.new n1).blk (by rw [esz]; omega) ?_
    have ed : (((mapL xs m).toArray.toList.drop (16 * f + i * 16)).take 16) = ((xs.drop (16 * (f + i))).take 16).map (Value.int .u8) := by
      simp only [mapL]
      rw [show 16 * f + i * 16 = 16 * (f + i) by omega, List.drop_append_of_le_length (by simp [hlen]; omega), List.take_append_of_le_length (by simp [hlen]; omega)]
      simp
    simp only [ed, zb]
    have hel : ((xs.drop (16 * (f + i))).take 16).length = 16 := by simp [hlen]; omega
    refine new_stRaw (n := 16) (by simpa using hel) (by simp) ints_one fun h2 b2 n2 s2 => ⟨⟨by omega, by omega, by omega, by omega⟩, ?_⟩
    have b2 : Blk h2 h1.size (((xs.drop (16 * (f + i))).take 16).map (Value.int .u8)).toArray 101 := by simpa using b2
    have es : sliceBase (some (⟨h1.size, 0, none⟩ : Addr)) (0 : Int).toNat (16 : Int).toNat 1 = some ⟨h1.size, 0, none⟩ := rfl
    rw [es]
    have bli := bl i hi
    refine ap_ints ap8 (ow.grow n2) (Ar.blk b2) hel.symm (fun h => by cases h) (by rw [bli]; omega) (by omega) (by have := n1.size; have := n2.size; omega) ?_
    intro a3 c3 h3 o3 u3
    have ee : bytesOf xs f (i + 1) = bytesOf xs f i ++ (xs.drop (16 * (f + i))).take 16 := by
      simp only [bytesOf]
      rw [show 16 * (i + 1) = 16 * i + 16 by omega, List.take_add, List.drop_drop, show 16 * f + 16 * i = 16 * (f + i) by omega]
    rw [wr64 (by omega) (by omega), ← ee]
    refine ⟨⟨i + 1, by simp, by omega, rfl, by rw [← ee] at o3; exact o3, u3.grow (n1.trans n2) fun g hg => ((ow.grow n2).blk_ge g hg).1⟩, by simp; omega⟩
  · have hi : i = n := by simp at hlt; omega
    subst hi
    exact ⟨_, rfl, aa, c, rfl, ow, n1⟩
/-- Numbers laid over others, from place o on. -/
def putL (xs : List Int) (o : Nat) (ys : List Int) : List Int := xs.take o ++ ys ++ xs.drop (o + ys.length)
theorem putL_len {xs ys : List Int} {o : Nat} (h : o + ys.length ≤ xs.length) : (putL xs o ys).length = xs.length := by simp [putL]; omega
theorem putL_get {xs ys : List Int} {o : Nat} (h : o + ys.length ≤ xs.length) (i : Nat) : (putL xs o ys)[i]? = if o ≤ i ∧ i < o + ys.length then ys[i - o]? else xs[i]? := by
  have hl : (xs.take o).length = o := by simp; omega
  unfold putL
  rw [List.append_assoc]
  by_cases h1 : i < o
  · rw [if_neg (by omega), List.getElem?_append_left (by omega), List.getElem?_take_of_lt h1]
  · rw [List.getElem?_append_right (by omega), hl]
    by_cases h2 : i < o + ys.length
    · rw [if_pos (by omega), List.getElem?_append_left (by omega)]
    · rw [if_neg (by omega), List.getElem?_append_right (by omega), List.getElem?_drop]
      congr 1; omega
theorem putL_nil (xs : List Int) (o : Nat) : putL xs o [] = xs := by simp [putL]
theorem putL_more {xs ys zs : List Int} {o : Nat} (h : o + (ys.length + zs.length) ≤ xs.length) : putL (putL xs o ys) (o + ys.length) zs = putL xs o (ys ++ zs) := by
  apply List.ext_getElem?
  intro i
  rw [putL_get (by rw [putL_len (by omega)]; omega), putL_get (xs := xs) (ys := ys) (by omega), putL_get (by simp; omega)]
  simp only [List.length_append]
  by_cases h1 : o + ys.length ≤ i ∧ i < o + ys.length + zs.length
  · rw [if_pos h1, if_pos (by omega), List.getElem?_append_right (by omega)]
    congr 1; omega
  · rw [if_neg h1]
    by_cases h2 : o ≤ i ∧ i < o + ys.length
    · rw [if_pos h2, if_pos (by omega), List.getElem?_append_left (by omega)]
    · rw [if_neg h2, if_neg (by omega)]
theorem putL_setsA {xs ys : List Int} {o m : Nat} (h : o + ys.length ≤ xs.length) : setsA (mapL xs m).toArray o (ys.map (Value.int .u8)) = (mapL (putL xs o ys) m).toArray := by
  have := setsA_ints (k := .u8) (pre := xs.take o) (mid := (xs.drop o).take ys.length) (post := xs.drop (o + ys.length)) (ys := ys) (tail := [.int .i64 (m : Int)]) (by simp; omega)
  have e : xs.take o ++ (xs.drop o).take ys.length ++ xs.drop (o + ys.length) = xs := by
    rw [List.append_assoc, ← List.drop_drop, List.take_append_drop, List.take_append_drop]
  have el : (xs.take o).length = o := by simp; omega
  rw [e, el] at this
  exact this
theorem MAt.put {h h' : Heap} {b m o : Nat} {xs ys : List Int} (a : MAt h b xs m) (ho : o + ys.length ≤ 1024) (hb : Blk h' b (setsA (mapL xs m).toArray o (ys.map (Value.int .u8))) 104) : MAt h' b (putL xs o ys) m := by
  have hl := a.len
  rw [putL_setsA (by omega)] at hb
  exact ⟨hb, by rw [putL_len (by omega)]; exact hl, a.hm⟩
theorem mapL_size {xs : List Int} {m : Nat} (h : xs.length = 1024) : (mapL xs m).toArray.size = 1025 := by simp [mapL, h]
/-- How many blocks a write's first steps are. -/
def firstN (steps len : Int) : Int := mm2 true (mm2 false steps (len / 16)) 0
theorem firstN_nat (steps : Int) (len : Nat) : ∃ k : Nat, firstN steps (len : Int) = (k : Int) ∧ k ≤ len / 16 := by
  rw [firstN, mm2_min, mm2_max]; exact ⟨(max (min steps ((len : Int) / 16)) 0).toNat, by omega, by omega⟩
theorem sl16 : Tryd.prog.underlying 25 = some (.slice 5) := by kernel_rfl
theorem sz8 : (Tryd.prog.info? 5).map (·.size) = some 1 := by kernel_rfl
theorem first_ok (b m : Nat) (xs : List Int) (f : Nat) (a : Option Addr) (c : Nat) (ys : List Int) (steps : Int) (h : Heap) (at_ : MAt h b xs m) (r : Ar .u8 h a ys) (hne : ys ≠ [] → blkOf a ≠ some b) (hlc : ys.length ≤ c) (hc : c ≤ 9223372036854775807) (hfit : f + ys.length / 16 ≤ 64) :
    CallsH Tryd.prog 34 [.pointer (some ⟨b, 0, none⟩), .int .i64 (f : Int), .slice a ys.length c, .int .i64 steps] h fun v h' => ∃ k : Nat, firstN steps ys.length = (k : Int) ∧ k ≤ ys.length / 16 ∧ v = .int .i64 (k : Int) ∧ MAt h' b (putL xs (16 * f) (ys.take (16 * k))) m ∧ Upd b h h' := by
  refine fun_ok hm' Tryd.func34 (by kernel_rfl) (F34_eq _ _ _ _ _ _ _ h) ?_
  unfold F34
  obtain ⟨k, hk, hkl⟩ := firstN_nat steps ys.length
  have ek : mm2 true (mm2 false steps (IntKind.wrap .i64 (Int.tdiv ((ys.length : Nat) : Int) 16))) 0 = (k : Int) := by
    rw [← hk]; unfold firstN
    rw [Int.tdiv_eq_ediv_of_nonneg (by omega), wr64 (by omega) (by omega)]
  rw [ek]
  refine ⟨fun (s : Int) h' => ∃ i : Nat, s = i ∧ i ≤ k ∧ MAt h' b (putL xs (16 * f) (ys.take (16 * i))) m ∧ Upd b h h', fun (s : Int) _ => ((k : Int) - s).toNat, ⟨0, rfl, by omega, by rw [Nat.mul_zero, List.take_zero, putL_nil]; exact at_, Upd.refl b h⟩, ?_⟩
  rintro s j h1 ⟨i, rfl, hi, a1, u1⟩
  have hlen := at_.len
  refine br_of (fun hlt => ?_) (fun hlt => ?_)
  · have hlt : i < k := by simp at hlt; omega
    rw [wr64 (n := (f : Int) + (i : Int)) (by omega) (by omega), wr64 (n := 16 * (i : Int)) (by omega) (by omega), wr64 (n := 16 * (i : Int) + 16) (by omega) (by omega), wr64 (n := (i : Int) + 1) (by omega) (by omega)]
    refine ⟨⟨by omega, rfl⟩, ⟨by omega, by omega, by omega, by omega⟩, ⟨by omega, by omega, by omega, by omega⟩, ?_⟩
    have e1 : sliceBase (some (Addr.add (Addr.add ⟨b, 0, none⟩ 0) (Int.toNat ((f : Int) + (i : Int)) * 16))) (0 : Int).toNat (16 : Int).toNat 1 = some ⟨b, 16 * f + 16 * i, none⟩ := by
      unfold sliceBase
      rw [if_neg (by decide)]
      simp only [Option.map, add_mk]
      congr 2; omega
    have e2 : (16 : Int).toNat - (0 : Int).toNat = 16 := rfl
    have e3 : (16 * (i : Int) + 16).toNat - (16 * (i : Int)).toNat = 16 := by omega
    have e4 : ((c : Nat) : Int).toNat = c := by omega
    have e5 : (16 * (i : Int)).toNat = 16 * i := by omega
    rw [e1, e2, e3, e4, e5]
    have r1 : Ar .u8 h1 a ys := r.upd' u1 hne
    have r2 := (r1.drop (16 * i) c (.inl (by omega))).take 16
    have hl2 : ((ys.drop (16 * i)).take 16).length = 16 := by simp; omega
    refine cp_ints sl16 sz8 a1.blk (by rw [mapL_size a1.len]; omega) r2 hl2.symm fun h2 b2 o2 => ?_
    rw [List.take_take, Nat.min_self] at b2
    have htl : (ys.take (16 * i)).length = 16 * i := by simp; omega
    have a2 := a1.put (o := 16 * f + 16 * i) (ys := (ys.drop (16 * i)).take 16) (by omega) b2
    have em : putL (putL xs (16 * f) (ys.take (16 * i))) (16 * f + 16 * i) ((ys.drop (16 * i)).take 16) = putL xs (16 * f) (ys.take (16 * (i + 1))) := by
      have := putL_more (xs := xs) (ys := ys.take (16 * i)) (zs := (ys.drop (16 * i)).take 16) (o := 16 * f) (by omega)
      rw [htl] at this
      rw [this, ← List.take_add, show 16 * i + 16 = 16 * (i + 1) by omega]
    rw [em] at a2
    exact ⟨⟨i + 1, by omega, by omega, a2, u1.trans o2.upd⟩, by dsimp only; omega⟩
  · have hi : i = k := by simp at hlt; omega
    subst hi
    exact ⟨i, hk, hkl, rfl, a1, u1⟩
def writeE (m f : Int) (len : Nat) : Int := if len % 16 = 0 ∧ isB m f ((len / 16 : Nat) : Int) = true then 0 else 1
theorem firstN_all (len : Nat) : firstN (len : Int) (len : Int) = ((len / 16 : Nat) : Int) := by
  rw [firstN, mm2_min, mm2_max]; omega
/-- What a write leaves. -/
def wrL (m : Nat) (xs : List Int) (f : Int) (ys : List Int) : List Int := if writeE m f ys.length = 0 then putL xs (16 * f.toNat) ys else xs
theorem isB_spec {m : Nat} {f n : Int} (h : isB m f n = true) : 0 ≤ f ∧ 0 ≤ n ∧ f + n ≤ m := by
  have := of_decide_eq_true h; omega
theorem write_ok (b m : Nat) (xs : List Int) (f : Int) (a : Option Addr) (c : Nat) (ys : List Int) (h : Heap) (at_ : MAt h b xs m) (r : Ar .u8 h a ys) (hne : ys ≠ [] → blkOf a ≠ some b) (hlc : ys.length ≤ c) (hc : c ≤ 9223372036854775807) :
    CallsH Tryd.prog 28 [.pointer (some ⟨b, 0, none⟩), .int .i64 f, .slice a ys.length c] h fun v h' => v = errV (writeE m f ys.length) ∧ MAt h' b (wrL m xs f ys) m ∧ Upd b h h' := by
  refine fun_ok hm' Tryd.func28 (by kernel_rfl) (F28_eq _ _ _ _ _ _ h) ?_
  unfold F28
  have hm := at_.hm
  have no : writeE m f ys.length = 1 → wrL m xs f ys = xs := fun hh => by unfold wrL; rw [hh]; rfl
  refine br_of (fun h0 => ?_) fun h0 => ?_
  · have e : writeE m f ys.length = 1 := by unfold writeE; rw [if_neg]; rintro ⟨h1, _⟩; rw [Int.tmod_eq_emod_of_nonneg (by omega)] at h0; simp at h0; omega
    rw [e, no e]; exact ⟨rfl, at_, Upd.refl b h⟩
  have h0 : ys.length % 16 = 0 := by rw [Int.tmod_eq_emod_of_nonneg (by omega)] at h0; simp at h0; omega
  have ed : IntKind.wrap .i64 (Int.tdiv ((ys.length : Nat) : Int) 16) = ((ys.length / 16 : Nat) : Int) := by rw [Int.tdiv_eq_ediv_of_nonneg (by omega), wr64 (by omega) (by omega)]; omega
  rw [ed]
  refine call_of (within_ok b m xs f _ h at_) ?_
  rintro v h' ⟨rfl, hh⟩; subst h'
  refine ⟨errV (isE m f ((ys.length / 16 : Nat) : Int)), rfl, errV_if _, ?_⟩
  cases hB : isB m f ((ys.length / 16 : Nat) : Int) with
  | false =>
    have e : writeE m f ys.length = 1 := by unfold writeE; rw [if_neg (by rw [hB]; simp)]
    have e1 : isE m f ((ys.length / 16 : Nat) : Int) = 1 := by unfold isE; rw [hB]; rfl
    rw [e, no e, e1]
    exact br_t rfl ⟨rfl, at_, Upd.refl b h⟩
  | true =>
    have e : writeE m f ys.length = 0 := by unfold writeE; rw [if_pos ⟨h0, hB⟩]
    have e1 : isE m f ((ys.length / 16 : Nat) : Int) = 0 := by unfold isE; rw [hB]; rfl
    have ⟨hf0, _, hfn⟩ := isB_spec hB
    obtain ⟨fn, rfl⟩ := Int.eq_ofNat_of_zero_le hf0
    have ew : wrL m xs (fn : Int) ys = putL xs (16 * fn) ys := by unfold wrL; rw [e, if_pos rfl, Int.toNat_natCast]
    rw [e, ew, e1]
    refine br_f rfl (call_of (first_ok b m xs fn a c ys ys.length h at_ r hne hlc hc (by omega)) ?_)
    rintro v h1 ⟨k, hk, hkl, rfl, a1, u1⟩
    rw [firstN_all] at hk
    have : k = ys.length / 16 := by omega
    subst this
    rw [List.take_of_length_le (by omega)] at a1
    exact ⟨((ys.length / 16 : Nat) : Int), rfl, rfl, a1, u1⟩
theorem zbv : zeroV Tryd.prog 101 = some (.agg (Array.replicate 16 (.int .u8 0))) := by kernel_rfl
theorem slblk : Tryd.prog.underlying 105 = some (.slice 101) := by kernel_rfl
theorem zc16 {i : Nat} (hi : i < 16) : (Value.agg (Array.replicate 16 (.int .u8 0))).cells[i]? = some (.int .u8 0) := by simp [Value.cells, hi]
/-- What a trim leaves. -/
def trL (m : Nat) (xs : List Int) (f n : Int) : List Int := if isE m f n = 0 then putL xs (16 * f.toNat) (List.replicate (16 * n.toNat) 0) else xs
theorem trim_ok (b m : Nat) (xs : List Int) (f n : Int) (h : Heap) (at_ : MAt h b xs m) :
    CallsH Tryd.prog 30 [.pointer (some ⟨b, 0, none⟩), .int .i64 f, .int .i64 n] h fun v h' => v = errV (isE m f n) ∧ MAt h' b (trL m xs f n) m ∧ Upd b h h' := by
  refine fun_ok hm' Tryd.func30 (by kernel_rfl) (F30_eq _ _ _ _ h) ?_
  unfold F30
  have hm := at_.hm
  have hlen := at_.len
  refine call_of (within_ok b m xs f n h at_) ?_
  rintro v h' ⟨rfl, hh⟩; subst h'
  refine ⟨errV (isE m f n), rfl, errV_if _, ?_⟩
  cases hB : isB m f n with
  | false =>
    have e1 : isE m f n = 1 := by unfold isE; rw [hB]; rfl
    have e2 : trL m xs f n = xs := by unfold trL; rw [e1]; rfl
    rw [e1, e2]; exact br_t rfl ⟨rfl, at_, Upd.refl b h⟩
  | true =>
    have e1 : isE m f n = 0 := by unfold isE; rw [hB]; rfl
    have ⟨hf0, hn0, hfn⟩ := isB_spec hB
    obtain ⟨f, rfl⟩ := Int.eq_ofNat_of_zero_le hf0
    obtain ⟨n, rfl⟩ := Int.eq_ofNat_of_zero_le hn0
    have e2 : trL m xs (f : Int) (n : Int) = putL xs (16 * f) (List.replicate (16 * n) 0) := by unfold trL; rw [e1, if_pos rfl, Int.toNat_natCast, Int.toNat_natCast]
    rw [e1, e2]
    refine br_f rfl ?_
    rw [wr64 (by omega) (by omega)]
    refine ⟨⟨by omega, by omega, by omega, by omega⟩, ?_⟩
    have ec : ((f : Int) + (n : Int)).toNat - ((f : Int)).toNat = n := by omega
    rw [ec]
    have ez : zerosL (Value.agg (Array.replicate 16 (.int .u8 0))).cells n = (List.replicate (16 * n) (0 : Int)).map (Value.int .u8) := by
      rw [zerosL_all (v := .int .u8 0) (fun i hi => zc16 (by simpa [Value.cells] using hi))]
      simp [Value.cells, Nat.mul_comm]
    have hsz : (Value.agg (Array.replicate 16 (.int .u8 0))).cells.size = 16 := by simp [Value.cells]
    have one : ∀ v ∈ (Value.agg (Array.replicate 16 (.int .u8 0))).cells.toList, v.oneCell' = true := by
      intro v hv; simp [Value.cells] at hv; subst hv; rfl
    by_cases h64 : f = 64
    · have n0 : n = 0 := by omega
      subst h64; subst n0
      have eb : sliceBase (some ((⟨b, 0, none⟩ : Addr).add 0)) (((64 : Nat) : Int)).toNat (64 : Int).toNat 16 = some ⟨b, 0, none⟩ := rfl
      rw [eb]
      refine cl_blk slblk zbv one at_.blk (by rw [mapL_size hlen, hsz]; omega) fun h1 b1 o1 => ⟨rfl, ?_, o1.upd⟩
      rw [Nat.mul_zero, List.replicate_zero, putL_nil]
      have : zerosL (Value.agg (Array.replicate 16 (.int .u8 0))).cells 0 = [] := by rw [ez]; rfl
      rw [this] at b1
      exact ⟨b1, hlen, at_.hm⟩
    · have eb : sliceBase (some ((⟨b, 0, none⟩ : Addr).add 0)) ((f : Int)).toNat (64 : Int).toNat 16 = some ⟨b, 16 * f, none⟩ := by
        unfold sliceBase
        rw [if_neg (by omega)]
        simp only [Option.map, add_mk, Int.toNat_natCast]
        congr 2; omega
      rw [eb]
      refine cl_blk slblk zbv one at_.blk (by rw [mapL_size hlen, hsz]; omega) fun h1 b1 o1 => ⟨rfl, ?_, o1.upd⟩
      rw [ez] at b1
      exact at_.put (by simp; omega) b1
theorem mapL_one {xs : List Int} {m : Nat} : ∀ v ∈ mapL xs m, v.oneCell' = true := by
  intro v hv
  rcases List.mem_append.1 hv with hv | hv
  · exact ints_one v hv
  · simp at hv; subst hv; rfl
theorem zmap : (zeroC Tryd.prog 104).size = 1025 := by kernel_rfl
theorem copy_ok (b m : Nat) (xs : List Int) (h : Heap) (at_ : MAt h b xs m) :
    CallsH Tryd.prog 32 [.pointer (some ⟨b, 0, none⟩)] h fun v h' => v = .pointer (some ⟨h.size, 0, none⟩) ∧ MAt h' h.size xs m ∧ New h h' := by
  refine fun_ok hm' Tryd.func32 (by kernel_rfl) (F32_eq _ _ h) ?_
  unfold F32
  have hl : (mapL xs m).length = 1025 := by simp [mapL, at_.len]
  refine ldRaw_blk at_.blk (by rw [mapL_size at_.len]; omega) ?_
  have ed : ((mapL xs m).toArray.toList.drop 0).take 1025 = mapL xs m := by
    rw [List.drop_zero]; exact List.take_of_length_le (by simp [hl])
  simp only [ed]
  refine new_stRaw (n := 1025) (by simpa using hl) zmap (by simpa using mapL_one) fun h1 b1 n1 s1 => ⟨rfl, ⟨by simpa using b1, at_.len, at_.hm⟩, n1⟩
/-- A row of bytes that was handed back. -/
structure Row (h0 h : Heap) (a : Option Addr) (c : Nat) (xs : List Int) : Prop where
  ar : Ar .u8 h a xs
  ge : ∀ g, blkOf a = some g → h0.size ≤ g ∧ g < h.size
  cap : xs.length ≤ c
theorem Row.new {h0 h h' : Heap} {a : Option Addr} {c : Nat} {xs : List Int} (r : Row h0 h a c xs) (n : New h h') : Row h0 h' a c xs := ⟨r.ar.new n, fun g hg => ⟨(r.ge g hg).1, Nat.lt_of_lt_of_le (r.ge g hg).2 n.size⟩, r.cap⟩
theorem Row.upd {h0 h h' : Heap} {a : Option Addr} {b c : Nat} {xs : List Int} (r : Row h0 h a c xs) (n : Upd b h h') (hb : b < h0.size) : Row h0 h' a c xs :=
  ⟨r.ar.upd n (fun e => by have := (r.ge b e).1; omega), fun g hg => ⟨(r.ge g hg).1, Nat.lt_of_lt_of_le (r.ge g hg).2 n.size⟩, r.cap⟩
/-- The row stays where a block turns that is newer than it. -/
theorem Row.upd' {h0 h h' : Heap} {a : Option Addr} {b c : Nat} {xs : List Int} (r : Row h0 h a c xs) (n : Upd b h h') (hb : ∀ g, blkOf a = some g → g ≠ b) : Row h0 h' a c xs :=
  ⟨r.ar.upd n (fun e => hb b e rfl), fun g hg => ⟨(r.ge g hg).1, Nat.lt_of_lt_of_le (r.ge g hg).2 n.size⟩, r.cap⟩
theorem Row.of {h h' : Heap} {s : Value} {xs : List Int} (f : Fresh .u8 5 h h' s xs) : ∃ a c, s = .slice a xs.length c ∧ Row h h' a c xs ∧ New h h' := by
  obtain ⟨a, c, rfl, ow, n⟩ := f
  refine ⟨a, c, rfl, ⟨Ar.own ow, ow.blk_ge, ?_⟩, n⟩
  rcases ow.row.2 with ⟨_, h1, _⟩ | ⟨g, cur, _, _, _, h1, _⟩
  · omega
  · exact h1
theorem readA (b m : Nat) (xs : List Int) (f n : Nat) (h : Heap) (a : MAt h b xs m) (hf : f + n ≤ m) :
    CallsH Tryd.prog 26 [.pointer (some ⟨b, 0, none⟩), .int .i64 (f : Int), .int .i64 (n : Int)] h fun v h' => ∃ a c, v = .tuple #[.slice a (bytesOf xs f n).length c, errV 0] ∧ Row h h' a c (bytesOf xs f n) ∧ New h h' :=
  (read_ok b m xs f n h a hf).mono fun v h' ⟨s, hv, fr⟩ => by
    obtain ⟨a, c, rfl, r, n⟩ := Row.of fr
    exact ⟨a, c, hv, r, n⟩
theorem bytesOf_len {xs : List Int} {f n : Nat} (hl : xs.length = 1024) (hf : f + n ≤ 64) : (bytesOf xs f n).length = 16 * n := by simp [bytesOf, hl]; omega
theorem bytesOf_get {xs : List Int} {f n i : Nat} (_hl : xs.length = 1024) (_hf : f + n ≤ 64) (hi : i < 16 * n) : (bytesOf xs f n)[i]? = xs[16 * f + i]? := by
  unfold bytesOf
  rw [List.getElem?_take_of_lt hi, List.getElem?_drop]
/-- What was written is read. -/
theorem bytesOf_put {xs ys : List Int} {f : Nat} (hl : xs.length = 1024) (h16 : ys.length % 16 = 0) (hf : f + ys.length / 16 ≤ 64) : bytesOf (putL xs (16 * f) ys) f (ys.length / 16) = ys := by
  have hp : (putL xs (16 * f) ys).length = 1024 := by rw [putL_len (by omega)]; exact hl
  apply List.ext_getElem?
  intro i
  by_cases hi : i < ys.length
  · rw [bytesOf_get hp hf (by omega), putL_get (by omega), if_pos (by omega)]
    congr 1; omega
  · rw [List.getElem?_eq_none (by rw [bytesOf_len hp hf]; omega), List.getElem?_eq_none (by omega)]
theorem bytesOf_ahead {xs ys : List Int} {f m : Nat} (hl : xs.length = 1024) (hm : m ≤ 64) (hf : 16 * f + ys.length ≤ 16 * m) : (bytesOf (putL xs (16 * f) ys) 0 m).take (16 * f) = (bytesOf xs 0 m).take (16 * f) := by
  have hp : (putL xs (16 * f) ys).length = 1024 := by rw [putL_len (by omega)]; exact hl
  apply List.ext_getElem?
  intro i
  rw [List.getElem?_take, List.getElem?_take]
  split
  · rw [bytesOf_get hp (by omega) (by omega), bytesOf_get hl (by omega) (by omega), putL_get (by omega), if_neg (by omega)]
  · rfl
theorem bytesOf_behind {xs ys : List Int} {f m : Nat} (hl : xs.length = 1024) (hm : m ≤ 64) (hf : 16 * f + ys.length ≤ 16 * m) : (bytesOf (putL xs (16 * f) ys) 0 m).drop (16 * f + ys.length) = (bytesOf xs 0 m).drop (16 * f + ys.length) := by
  have hp : (putL xs (16 * f) ys).length = 1024 := by rw [putL_len (by omega)]; exact hl
  apply List.ext_getElem?
  intro i
  rw [List.getElem?_drop, List.getElem?_drop]
  by_cases hi : 16 * f + ys.length + i < 16 * m
  · rw [bytesOf_get hp (by omega) hi, bytesOf_get hl (by omega) hi, putL_get (by omega), if_neg (by omega)]
  · rw [List.getElem?_eq_none (by rw [bytesOf_len hp (by omega)]; omega), List.getElem?_eq_none (by rw [bytesOf_len hl (by omega)]; omega)]
/-- Parts that are apart may be laid in either order. -/
theorem putL_comm {xs ys zs : List Int} {o p : Nat} (h1 : o + ys.length ≤ xs.length) (h2 : p + zs.length ≤ xs.length) (ha : o + ys.length ≤ p ∨ p + zs.length ≤ o) : putL (putL xs o ys) p zs = putL (putL xs p zs) o ys := by
  apply List.ext_getElem?
  intro i
  have e1 := putL_len h1; have e2 := putL_len h2
  rw [putL_get (by omega), putL_get h1, putL_get (by omega), putL_get h2]
  by_cases c1 : p ≤ i ∧ i < p + zs.length
  · rw [if_pos c1, if_neg (by omega), if_pos c1]
  · rw [if_neg c1, if_neg c1]
theorem putL_twice {xs ys : List Int} {o : Nat} (h1 : o + ys.length ≤ xs.length) : putL (putL xs o ys) o ys = putL xs o ys := by
  apply List.ext_getElem?
  intro i
  have e1 := putL_len h1
  rw [putL_get (by omega), putL_get h1]
  split <;> rfl
theorem putL_over {xs ys zs : List Int} {o : Nat} (h1 : o + ys.length ≤ xs.length) (hl : zs.length = ys.length) : putL (putL xs o ys) o zs = putL xs o zs := by
  apply List.ext_getElem?
  intro i
  have e1 := putL_len h1
  rw [putL_get (by omega), putL_get h1, putL_get (by omega), hl]
  split <;> rfl
theorem wrL_len {m : Nat} {xs : List Int} {f : Int} {ys : List Int} (hl : xs.length = 1024) (hm : m ≤ 64) : (wrL m xs f ys).length = 1024 := by
  unfold wrL; split
  · rename_i hE
    unfold writeE at hE
    split at hE
    · rename_i hB
      have := isB_spec hB.2
      rw [putL_len (by omega)]; exact hl
    · cases hE
  · exact hl
theorem writeE_spec {m : Nat} {f : Int} {len : Nat} (h : writeE m f len = 0) : len % 16 = 0 ∧ 0 ≤ f ∧ f + ((len / 16 : Nat) : Int) ≤ m := by
  unfold writeE at h
  split at h
  · rename_i hB; have := isB_spec hB.2; exact ⟨hB.1, by omega, by omega⟩
  · cases h
theorem writeE_of {m : Nat} {f : Int} {len : Nat} (h : len % 16 = 0 ∧ 0 ≤ f ∧ f + ((len / 16 : Nat) : Int) ≤ m) : writeE m f len = 0 := by
  unfold writeE
  rw [if_pos ⟨h.1, decide_eq_true (by omega)⟩]
theorem writeE_or (m f : Int) (len : Nat) : writeE m f len = 0 ∨ writeE m f len = 1 := by unfold writeE; split <;> simp
end Go.Proofs.YtogeildomhahjaaDoor.Flat
