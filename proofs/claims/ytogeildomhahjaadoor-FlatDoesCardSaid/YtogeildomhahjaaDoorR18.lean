/-
  The contracts of the reference of flat.
-/
import Derived.Test.YtogeildomhahjaaDoorWR18
import Derived.Test.YtogeildomhahjaaDoorFlat
namespace Go.Proofs.YtogeildomhahjaaDoor.R18
open Go.Pl Go.Proofs.YtogeildomhahjaaDoor.W Go.Proofs.YtogeildomhahjaaDoor.As Go.Proofs.YtogeildomhahjaaDoor.Flat
/-- The reference's map at block rb: its row of bytes. -/
structure RAt (h : Heap) (rb : Nat) (a : Option Addr) (c : Nat) (xs : List Int) : Prop where
  blk : Blk h rb #[.slice a xs.length c] 67
  ar : Ar .u8 h a xs
  cap : xs.length ≤ c
  ne : blkOf a ≠ some rb
theorem RAt.new {h h' : Heap} {rb c : Nat} {a : Option Addr} {xs : List Int} (r : RAt h rb a c xs) (n : New h h') : RAt h' rb a c xs := ⟨r.blk.new n, r.ar.new n, r.cap, r.ne⟩
theorem RAt.upd {h h' : Heap} {rb b c : Nat} {a : Option Addr} {xs : List Int} (r : RAt h rb a c xs) (n : Upd b h h') (h1 : rb ≠ b) (h2 : blkOf a ≠ some b) : RAt h' rb a c xs := ⟨r.blk.upd n h1, r.ar.upd n h2, r.cap, r.ne⟩
/-- Where a row lies that came behind: where the old one lay, or in a new block. -/
def Near (h h' : Heap) (a a' : Option Addr) : Prop := ∀ g, blkOf a' = some g → (blkOf a = some g ∨ h.size ≤ g) ∧ (blkOf a ≠ some g → g < h'.size)
theorem ld {h : Heap} {rb c : Nat} {a : Option Addr} {xs : List Int} (r : RAt h rb a c xs) {F : (Option Addr × Nat × Nat) → Prop} (hF : F (a, xs.length, c)) : ldW .slice (Addr.add ⟨rb, 0, none⟩ 0) F h :=
  ld_of (c := .slice) (a, xs.length, c) (by rw [add_mk, cellH_blk r.blk]; rfl) hF
theorem new_no (m : Int) (h : Heap) (hm : ¬ (1 ≤ m ∧ m ≤ 64)) : CallsH Tryd.prog 25 [.int .i64 m] h fun v h' => v = .tuple #[.pointer none, .int .i64 1] ∧ h' = h := by
  refine fun_ok hm' Tryd.func25 (by kernel_rfl) (F25_eq _ _ h) ?_
  unfold F25
  refine cut_of (br_of (fun _ => ⟨rfl, rfl⟩) fun h0 => br_of (fun _ => ⟨rfl, rfl⟩) fun h1 => ?_)
  simp at h0 h1; omega
theorem new_ok (m : Nat) (h : Heap) (hm : 1 ≤ m ∧ m ≤ 64) : CallsH Tryd.prog 25 [.int .i64 (m : Int)] h fun v h' => ∃ a c, v = .tuple #[.pointer (some ⟨h.size, 0, none⟩), .int .i64 0] ∧ RAt h' h.size a c (List.replicate (16 * m) 0) ∧ New h h' ∧ ∀ g, blkOf a = some g → h.size < g := by
  refine fun_ok hm' Tryd.func25 (by kernel_rfl) (F25_eq _ _ h) ?_
  unfold F25
  refine cut_of (br_f (by simp; omega) (br_f (by simp; omega) fun _ => new_of fun h1 b1 n1 s1 => ?_))
  rw [wr64 (n := 16 * (m : Int)) (by omega) (by omega)]
  refine ⟨fun (s : Int) h' => ∃ (i : Nat) (a : Option Addr) (c : Nat), s = i ∧ i ≤ 16 * m ∧ Blk h' h.size #[.slice a i c] 67 ∧ OwnH h' h1.size 5 1 a i c ((List.replicate i (0 : Int)).map (Value.int .u8)) ∧ Upd h.size h1 h', fun (s : Int) _ => (16 * (m : Int) - s).toNat, ⟨0, none, 0, rfl, by omega, b1, OwnH.nil _ _ _ _, Upd.refl _ _⟩, ?_⟩
  rintro s j h2 ⟨i, a, c, rfl, hi, b2, ow, u2⟩
  refine br_of (fun hlt => ?_) (fun hlt => ?_)
  · have hlt : i < 16 * m := by simp at hlt; omega
    refine ld_of (c := .slice) (a, i, c) (by rw [add_mk, cellH_blk b2]; rfl) ?_
    refine pushA ap8 ow (by omega) (by omega) u2.size ?_
    intro a3 c3 h3 o3 ab
    have b3 := b2.abo ab (by omega)
    have hg := o3.blk_ge
    have u3 : Upd h.size h1 h3 := ⟨by have := u2.size; have := ab.size; omega, fun k hk hne => (ab.same k hk (by have := u2.size; omega)).trans (u2.same k hk hne)⟩
    rw [wr64 (by omega) (by omega)]
    refine st_blk (o := 0) b3 (by simp) fun h4 b4 o4 => ⟨⟨i + 1, a3, c3, by omega, by omega, b4, ?_, u3.trans o4.upd⟩, (by first | omega | (dsimp only; omega) | (simp only []; omega))⟩
    have := o3.upd o4.upd (fun e => by have := (hg _ e).1; omega)
    have er : List.replicate i (0 : Int) ++ [0] = List.replicate (i + 1) 0 := (List.replicate_succ' ..).symm
    rw [er] at this; exact this
  · have hi : i = 16 * m := by simp at hlt; omega
    subst hi
    have hl : (List.replicate (16 * m) (0 : Int)).length = 16 * m := by simp
    refine ⟨a, c, rfl, ⟨by rw [hl]; exact b2, Ar.own ow, ?_, fun e => by have := (ow.blk_ge _ e).1; omega⟩, u2.new n1 (Nat.le_refl _), fun g hg => by have := (ow.blk_ge g hg).1; omega⟩
    rw [hl]
    rcases ow.row.2 with ⟨_, h1, _⟩ | ⟨g, cur, _, _, _, h1, _⟩
    · omega
    · exact h1
theorem is_ok (rb m : Nat) (a : Option Addr) (c : Nat) (xs : List Int) (f n : Int) (h : Heap) (r : RAt h rb a c xs) (hl : xs.length = 16 * m) (hm : 1 ≤ m ∧ m ≤ 64) :
    CallsH Tryd.prog 33 [.pointer (some ⟨rb, 0, none⟩), .int .i64 f, .int .i64 n] h fun v h' => v = .bool (isB m f n) ∧ h' = h := by
  refine fun_ok hm' Tryd.func33 (by kernel_rfl) (F33_eq _ _ _ _ h) ?_
  unfold F33
  refine ld r ?_
  have ed : IntKind.wrap .i64 (Int.tdiv ((xs.length : Nat) : Int) 16) = (m : Int) := by rw [Int.tdiv_eq_ediv_of_nonneg (by omega), wr64 (by omega) (by omega)]; omega
  rw [ed]
  unfold isB
  refine br_of (fun h0 => br_of (fun h1 => br_of (fun h2 => ?_) fun h2 => ?_) fun h1 => ?_) fun h0 => ?_
  · simp at h0 h1 h2
    rw [wr64 (by omega) (by omega)]
    refine ⟨?_, rfl⟩
    congr 1; simp [h0, h1, h2]
  · refine ⟨?_, rfl⟩; congr 1; simp at h0 h1 h2; simp; omega
  · refine ⟨?_, rfl⟩; congr 1; simp at h0 h1; simp; omega
  · refine ⟨?_, rfl⟩; congr 1; simp at h0; simp; omega
/-- A row that is copied: appended to an empty one. -/
theorem t0 (a : Option Addr) (c : Nat) : sliceBase a (0 : Int).toNat c 1 = a := by
  unfold sliceBase; split
  · rfl
  · cases a <;> rfl
theorem read_no (rb m : Nat) (a : Option Addr) (c : Nat) (xs : List Int) (f n : Int) (h : Heap) (r : RAt h rb a c xs) (hl : xs.length = 16 * m) (hm : 1 ≤ m ∧ m ≤ 64) (hB : isB m f n = false) :
    CallsH Tryd.prog 27 [.pointer (some ⟨rb, 0, none⟩), .int .i64 f, .int .i64 n] h fun v h' => v = .tuple #[.slice none 0 0, .int .i64 1] ∧ h' = h := by
  refine fun_ok hm' Tryd.func27 (by kernel_rfl) (F27_eq _ _ _ _ h) ?_
  unfold F27
  refine call_of (is_ok rb m a c xs f n h r hl hm) ?_
  rintro v h' ⟨rfl, hh⟩; subst h'
  rw [hB]
  exact ⟨false, rfl, br_t rfl ⟨rfl, rfl⟩⟩
theorem read_ok (rb m : Nat) (a : Option Addr) (c : Nat) (xs : List Int) (f n : Nat) (h : Heap) (r : RAt h rb a c xs) (hl : xs.length = 16 * m) (hm : 1 ≤ m ∧ m ≤ 64) (hf : f + n ≤ m) :
    CallsH Tryd.prog 27 [.pointer (some ⟨rb, 0, none⟩), .int .i64 (f : Int), .int .i64 (n : Int)] h fun v h' => ∃ s, v = .tuple #[s, .int .i64 0] ∧ Fresh .u8 5 h h' s (bytesOf xs f n) := by
  refine fun_ok hm' Tryd.func27 (by kernel_rfl) (F27_eq _ _ _ _ h) ?_
  unfold F27
  refine call_of (is_ok rb m a c xs f n h r hl hm) ?_
  rintro v h' ⟨rfl, hh⟩; subst h'
  have hB : isB m (f : Int) (n : Int) = true := decide_eq_true (by omega)
  rw [hB]
  have hc := r.cap
  refine ⟨true, rfl, br_f rfl (new_of fun h1 b1 n1 s1 => ld (r.new n1) ?_)⟩
  dsimp only
  rw [wr64 (n := (f : Int) + (n : Int)) (by omega) (by omega), wr64 (n := 16 * (f : Int)) (by omega) (by omega), wr64 (n := 16 * ((f : Int) + (n : Int))) (by omega) (by omega)]
  refine ⟨⟨by omega, by omega, by omega, by omega⟩, ?_⟩
  have e1 : (16 * (f : Int)).toNat = 16 * f := by omega
  have e2 : (16 * ((f : Int) + (n : Int))).toNat - 16 * f = 16 * n := by omega
  simp only [e1, e2, Int.toNat_natCast]
  have hbl : (bytesOf xs f n).length = 16 * n := by simp [bytesOf, hl]; omega
  have ow := OwnH.of_blk (base := h.size) (n := 0) (size := 1) b1 (by omega) rfl (by simp [maxLen])
  have rr : Ar .u8 h1 (sliceBase a (16 * f) c 1) (bytesOf xs f n) := ((r.new n1).ar.drop (16 * f) c (by omega)).take _
  refine ap_ints ap8 (xs := []) ow rr hbl.symm (fun e => ?_) (by omega) (by omega) (by omega) ?_
  · rcases Nat.eq_zero_or_pos n with h0 | h0
    · omega
    · exfalso
      have hlt : 16 * f < xs.length := by omega
      obtain ⟨b', o', e', _⟩ := r.ar.cell hlt
      subst e'
      unfold sliceBase at e; split at e <;> cases e
  intro a' c' h2 o2 u2
  have e0 : ([] ++ bytesOf xs f n : List Int) = bytesOf xs f n := rfl
  rw [e0] at o2
  have n2 : New h h2 := u2.grow n1 fun g hg => by injection hg with hg; change h.size = g at hg; omega
  exact ⟨_, rfl, a', c', rfl, o2, n2⟩
/-- A row made of a copied one. -/
theorem cp0 {h h1 : Heap} {b : Option Addr} {m cb : Nat} {ys : List Int} (b1 : Blk h1 h.size #[] 5) (n1 : New h h1) (r : Ar .u8 h1 b ys) (hm : m = ys.length) (hb : b = none → m = 0) (hle : m ≤ 1000000)
    {F : Option Addr → Nat → Nat → Heap → Prop} (hF : ∀ a' c' h2, OwnH h2 h.size 5 1 a' ys.length c' (ys.map (Value.int .u8)) → New h h2 → Abo h.size h1 h2 → F a' ys.length c' h2) :
    apW Tryd.prog #[25, 25] #[.slice (some ⟨h.size, 0, none⟩) 0 0, .slice b m cb] F h1 := by
  have ow := OwnH.of_blk (base := h.size) (n := 0) (size := 1) b1 (by omega) rfl (by simp [maxLen])
  refine ap_ints ap8 (xs := []) ow r hm hb (by omega) (by omega) n1.size ?_
  intro a' c' h2 o2 u2
  have ab : Abo h.size h1 h2 := u2.abo fun g hg => by injection hg with hg; change h.size = g at hg; omega
  exact hF a' c' h2 o2 (Abo.from n1 ab (Nat.le_refl _)) ab
theorem none_of {h : Heap} {k : IntKind} {a : Option Addr} {xs : List Int} (r : Ar k h a xs) {lo m : Nat} {sz : Nat} (hl : sliceBase a lo m sz = none) : xs.length = 0 := by
  rcases Nat.eq_zero_or_pos xs.length with h0 | h0
  · exact h0
  · obtain ⟨b', o', e', _⟩ := r.cell h0
    subst e'
    unfold sliceBase at hl; split at hl <;> cases hl
theorem first_ok (rb m : Nat) (a : Option Addr) (c : Nat) (xs : List Int) (f : Nat) (b : Option Addr) (cb : Nat) (ys : List Int) (steps : Int) (h : Heap) (r : RAt h rb a c xs) (hl : xs.length = 16 * m) (hm : 1 ≤ m ∧ m ≤ 64) (rb_ : Ar .u8 h b ys) (hne : ys ≠ [] → blkOf b ≠ some rb) (hlc : ys.length ≤ cb) (hc : cb ≤ 9223372036854775807) (hfit : f + ys.length / 16 ≤ m) :
    CallsH Tryd.prog 35 [.pointer (some ⟨rb, 0, none⟩), .int .i64 (f : Int), .slice b ys.length cb, .int .i64 steps] h fun v h' => ∃ (k : Nat) (a' : Option Addr) (c' : Nat), firstN steps ys.length = (k : Int) ∧ k ≤ ys.length / 16 ∧ v = .int .i64 (k : Int) ∧ RAt h' rb a' c' (putL xs (16 * f) (ys.take (16 * k))) ∧ Upd rb h h' ∧ (∀ g, blkOf a' = some g → blkOf a = some g ∨ h.size ≤ g) := by
  refine fun_ok hm' Tryd.func35 (by kernel_rfl) (F35_eq _ _ _ _ _ _ _ h) ?_
  unfold F35
  obtain ⟨k, hk, hkl⟩ := firstN_nat steps ys.length
  have hkv : (k : Int) = max (min steps ((ys.length : Int) / 16)) 0 := by rw [← hk, firstN, mm2_min, mm2_max]
  refine ⟨fun (s : Int) h' => ∃ (i : Nat) (a' : Option Addr) (c' : Nat), s = i ∧ i ≤ k ∧ RAt h' rb a' c' (putL xs (16 * f) (ys.take (16 * i))) ∧ Upd rb h h' ∧ (∀ g, blkOf a' = some g → blkOf a = some g ∨ h.size ≤ g), fun (s : Int) _ => ((k : Int) - s).toNat, ⟨0, a, c, rfl, by omega, by rw [Nat.mul_zero, List.take_zero, putL_nil]; exact r, Upd.refl rb h, fun g hg => .inl hg⟩, ?_⟩
  rintro s j h1 ⟨i, a1, c1, rfl, hi, r1, u1, hnear⟩
  have ed : IntKind.wrap .i64 (Int.tdiv ((ys.length : Nat) : Int) 16) = ((ys.length / 16 : Nat) : Int) := by rw [Int.tdiv_eq_ediv_of_nonneg (by omega), wr64 (by omega) (by omega)]; omega
  rw [ed]
  have hrl := r.blk.lt
  refine cut_q (ts := []) (fun _ h' => h' = h1 ∧ i < k) ?_ ?_
  rotate_left
  · intro K hK
    refine br_of (fun h0 => br_of (fun h2 => hK () _ ⟨rfl, by simp at h0 h2; omega⟩) fun h2 => ?_) fun h0 => ?_
    · have : i = k := by simp at h0 h2; omega
      subst this; exact ⟨i, a1, c1, hk, hkl, rfl, r1, u1, hnear⟩
    · have : i = k := by simp at h0; omega
      subst this; exact ⟨i, a1, c1, hk, hkl, rfl, r1, u1, hnear⟩
  rintro _ h' ⟨hh, hlt⟩ _; subst h'
  generalize hX : putL xs (16 * f) (ys.take (16 * i)) = X at r1
  have htl : (ys.take (16 * i)).length = 16 * i := by simp; omega
  have hXl : X.length = 16 * m := by rw [← hX, putL_len (by omega)]; exact hl
  have hcap := r1.cap
  refine ld r1 ?_
  dsimp only
  rw [wr64 (n := (f : Int) + (i : Int)) (by omega) (by omega), wr64 (n := 16 * ((f : Int) + (i : Int))) (by omega) (by omega), wr64 (n := 16 * (i : Int)) (by omega) (by omega), wr64 (n := 16 * (i : Int) + 16) (by omega) (by omega), wr64 (n := 16 * ((f : Int) + (i : Int)) + 16) (by omega) (by omega), wr64 (n := (i : Int) + 1) (by omega) (by omega)]
  refine ⟨⟨by omega, by omega, by omega, by omega⟩, ⟨by omega, by omega, by omega, by omega⟩, ?_⟩
  have e1 : (16 * ((f : Int) + (i : Int))).toNat = 16 * f + 16 * i := by omega
  have e2 : (16 * (i : Int)).toNat = 16 * i := by omega
  have e3 : (16 * (i : Int) + 16).toNat - 16 * i = 16 := by omega
  have e4 : (0 : Int).toNat = 0 := rfl
  simp only [e1, e2, e3, e4, Int.toNat_natCast, Nat.sub_zero]
  have et : sliceBase a1 0 c1 1 = a1 := t0 a1 c1
  rw [et]
  refine new_of fun h2 b2 n2 s2 => ?_
  have arP : Ar .u8 h1 a1 (X.take (16 * f + 16 * i)) := r1.ar.take _
  have hPl : (X.take (16 * f + 16 * i)).length = 16 * f + 16 * i := by simp; omega
  refine cp0 b2 n2 (arP.new n2) hPl.symm (fun e => ?_) (by omega) ?_
  · subst e
    rcases Nat.eq_zero_or_pos X.length with h0 | h0
    · omega
    · obtain ⟨_, _, e', _⟩ := r1.ar.cell h0; cases e'
  intro a3 c3 h3 o3 n3 _
  have arB : Ar .u8 h1 (sliceBase b (16 * i) cb 1) ((ys.drop (16 * i)).take 16) := ((rb_.upd' u1 hne).drop (16 * i) cb (by omega)).take 16
  have hBl : ((ys.drop (16 * i)).take 16).length = 16 := by simp; omega
  have hown3 := own_len o3
  refine ap_ints ap8 o3 (arB.new n3) hBl.symm (fun e => by have := none_of (rb_.upd' u1 hne) e; omega) (by omega) (by omega) n3.size ?_
  intro a4 c4 h4 o4 u4
  have ab4 : Abo h1.size h3 h4 := u4.abo fun g hg => (o3.blk_ge g hg).1
  have n4 : New h1 h4 := Abo.from n3 ab4 (Nat.le_refl _)
  refine ld (r1.new n4) ?_
  dsimp only
  refine ⟨⟨by omega, by omega, by omega, by omega⟩, ?_⟩
  have e5 : (16 * ((f : Int) + (i : Int)) + 16).toNat = 16 * f + 16 * i + 16 := by omega
  simp only [e5, Int.toNat_natCast]
  have arS : Ar .u8 h1 (sliceBase a1 (16 * f + 16 * i + 16) c1 1) (X.drop (16 * f + 16 * i + 16)) := r1.ar.drop _ _ (by omega)
  have hSl : (X.drop (16 * f + 16 * i + 16)).length = X.length - (16 * f + 16 * i + 16) := by simp
  have hown4 := own_len o4
  refine ap_ints ap8 o4 (arS.new n4) hSl.symm (fun e => by have := none_of r1.ar e; omega) (by simp only [List.length_append]; omega) (by omega) n4.size ?_
  intro a5 c5 h5 o5 u5
  have ab5 : Abo h1.size h4 h5 := u5.abo fun g hg => (o4.blk_ge g hg).1
  have n5 : New h1 h5 := Abo.from n4 ab5 (Nat.le_refl _)
  refine st_blk (o := 0) (r1.blk.new n5) (by simp) fun h6 b6 o6 => ?_
  have hrb1 := r1.blk.lt
  have eZ : X.take (16 * f + 16 * i) ++ (ys.drop (16 * i)).take 16 ++ X.drop (16 * f + 16 * i + 16) = putL xs (16 * f) (ys.take (16 * (i + 1))) := by
    have := putL_more (xs := xs) (ys := ys.take (16 * i)) (zs := (ys.drop (16 * i)).take 16) (o := 16 * f) (by omega)
    rw [htl, ← List.take_add, show 16 * i + 16 = 16 * (i + 1) by omega, hX] at this
    rw [← this]; unfold putL; rw [hBl]
  rw [eZ] at o5 b6
  refine ⟨⟨i + 1, a5, c5, by omega, by omega, ⟨b6, (Ar.own o5).upd o6.upd ?_, o5.cap, ?_⟩, (u1.trans n5.upd).trans o6.upd, fun g hg => .inr (by have := (o5.blk_ge g hg).1; have := u1.size; omega)⟩, (by first | omega | (dsimp only; omega) | (simp only []; omega))⟩
  · intro e; have := (o5.blk_ge _ e).1; omega
  · intro e; have := (o5.blk_ge _ e).1; omega
theorem write_ok (rb m : Nat) (a : Option Addr) (c : Nat) (xs : List Int) (f : Int) (b : Option Addr) (cb : Nat) (ys : List Int) (h : Heap) (r : RAt h rb a c xs) (hl : xs.length = 16 * m) (hm : 1 ≤ m ∧ m ≤ 64) (rb_ : Ar .u8 h b ys) (hne : ys ≠ [] → blkOf b ≠ some rb) (hlc : ys.length ≤ cb) (hc : cb ≤ 9223372036854775807) :
    CallsH Tryd.prog 29 [.pointer (some ⟨rb, 0, none⟩), .int .i64 f, .slice b ys.length cb] h fun v h' => ∃ (a' : Option Addr) (c' : Nat), v = .int .i64 (writeE m f ys.length) ∧ RAt h' rb a' c' (wrL m xs f ys) ∧ Upd rb h h' ∧ (∀ g, blkOf a' = some g → blkOf a = some g ∨ h.size ≤ g) := by
  refine fun_ok hm' Tryd.func29 (by kernel_rfl) (F29_eq _ _ _ _ _ _ h) ?_
  unfold F29
  have no : writeE m f ys.length = 1 → wrL m xs f ys = xs := fun hh => by unfold wrL; rw [hh]; rfl
  have ed : IntKind.wrap .i64 (Int.tdiv ((ys.length : Nat) : Int) 16) = ((ys.length / 16 : Nat) : Int) := by rw [Int.tdiv_eq_ediv_of_nonneg (by omega), wr64 (by omega) (by omega)]; omega
  rw [ed]
  refine cut_of (br_of (fun h0 => ?_) fun h0 => ?_)
  · have e : writeE m f ys.length = 1 := by unfold writeE; rw [if_neg]; rintro ⟨h1, _⟩; rw [Int.tmod_eq_emod_of_nonneg (by omega)] at h0; simp at h0; omega
    rw [e, no e]; exact ⟨a, c, rfl, r, Upd.refl _ h, fun g hg => .inl hg⟩
  have h0 : ys.length % 16 = 0 := by rw [Int.tmod_eq_emod_of_nonneg (by omega)] at h0; simp at h0; omega
  refine call_of (is_ok rb m a c xs f _ h r hl hm) ?_
  rintro v h' ⟨rfl, hh⟩; subst h'
  refine ⟨isB m f ((ys.length / 16 : Nat) : Int), rfl, ?_⟩
  cases hB : isB m f ((ys.length / 16 : Nat) : Int) with
  | false =>
    have e : writeE m f ys.length = 1 := by unfold writeE; rw [if_neg (by rw [hB]; simp)]
    rw [e, no e]
    exact br_t rfl ⟨a, c, rfl, r, Upd.refl _ h, fun g hg => .inl hg⟩
  | true =>
    have e : writeE m f ys.length = 0 := by unfold writeE; rw [if_pos ⟨h0, hB⟩]
    have ⟨hf0, _, hfn⟩ := isB_spec hB
    obtain ⟨fn, rfl⟩ := Int.eq_ofNat_of_zero_le hf0
    have ew : wrL m xs (fn : Int) ys = putL xs (16 * fn) ys := by unfold wrL; rw [e, if_pos rfl, Int.toNat_natCast]
    rw [e, ew]
    refine br_f rfl fun _ => (call_of (first_ok rb m a c xs fn b cb ys ((ys.length / 16 : Nat) : Int) h r hl hm rb_ hne hlc hc (by omega)) ?_)
    rintro v h1 ⟨k, a1, c1, hk, hkl, rfl, r1, u1, hn⟩
    have : k = ys.length / 16 := by rw [firstN, mm2_min, mm2_max] at hk; omega
    subst this
    rw [List.take_of_length_le (by omega)] at r1
    exact ⟨((ys.length / 16 : Nat) : Int), rfl, a1, c1, rfl, r1, u1, hn⟩
theorem trim_ok (rb m : Nat) (a : Option Addr) (c : Nat) (xs : List Int) (f n : Int) (h : Heap) (r : RAt h rb a c xs) (hl : xs.length = 16 * m) (hm : 1 ≤ m ∧ m ≤ 64) :
    CallsH Tryd.prog 31 [.pointer (some ⟨rb, 0, none⟩), .int .i64 f, .int .i64 n] h fun v h' => ∃ (a' : Option Addr) (c' : Nat), v = .int .i64 (isE m f n) ∧ RAt h' rb a' c' (trL m xs f n) ∧ Upd rb h h' ∧ (∀ g, blkOf a' = some g → blkOf a = some g ∨ h.size ≤ g) := by
  refine fun_ok hm' Tryd.func31 (by kernel_rfl) (F31_eq _ _ _ _ h) ?_
  unfold F31
  refine call_of (is_ok rb m a c xs f n h r hl hm) ?_
  rintro v h' ⟨rfl, hh⟩; subst h'
  refine ⟨isB m f n, rfl, ?_⟩
  cases hB : isB m f n with
  | false =>
    have e1 : isE m f n = 1 := by unfold isE; rw [hB]; rfl
    have e2 : trL m xs f n = xs := by unfold trL; rw [e1]; rfl
    rw [e1, e2]; exact br_t rfl ⟨a, c, rfl, r, Upd.refl _ h, fun g hg => .inl hg⟩
  | true =>
    have e1 : isE m f n = 0 := by unfold isE; rw [hB]; rfl
    have ⟨hf0, hn0, hfn⟩ := isB_spec hB
    obtain ⟨f, rfl⟩ := Int.eq_ofNat_of_zero_le hf0
    obtain ⟨n, rfl⟩ := Int.eq_ofNat_of_zero_le hn0
    have e2 : trL m xs (f : Int) (n : Int) = putL xs (16 * f) (List.replicate (16 * n) 0) := by unfold trL; rw [e1, if_pos rfl, Int.toNat_natCast, Int.toNat_natCast]
    rw [e1, e2]
    refine br_f rfl (new_of fun h1 b1 n1 s1 => ld (r.new n1) ?_)
    dsimp only
    have hrl := r.blk.lt
    refine cp0 b1 n1 (r.new n1).ar rfl (fun e => ?_) (by omega) ?_
    · subst e
      rcases Nat.eq_zero_or_pos xs.length with h0 | h0
      · exact h0
      · obtain ⟨_, _, e', _⟩ := r.ar.cell h0; cases e'
    intro a2 c2 h2 o2 n2 _
    rw [wr64 (n := (f : Int) + (n : Int)) (by omega) (by omega), wr64 (n := 16 * (f : Int)) (by omega) (by omega), wr64 (n := 16 * ((f : Int) + (n : Int))) (by omega) (by omega)]
    refine ⟨fun (s : Int) h' => ∃ i : Nat, s = ((16 * f + i : Nat) : Int) ∧ i ≤ 16 * n ∧ OwnH h' h.size 5 1 a2 xs.length c2 ((putL xs (16 * f) (List.replicate i 0)).map (Value.int .u8)) ∧ New h h', fun (s : Int) _ => (16 * ((f : Int) + (n : Int)) - s).toNat, ⟨0, by omega, by omega, by rw [List.replicate_zero, putL_nil]; exact o2, n2⟩, ?_⟩
    rintro s j h3 ⟨i, rfl, hi, o3, n3⟩
    refine br_of (fun hlt => ?_) (fun hlt => ?_)
    · have hlt : i < 16 * n := by simp at hlt; omega
      have ow3 := Ar.own o3
      have hpl : (putL xs (16 * f) (List.replicate i (0 : Int))).length = xs.length := by rw [putL_len (by simp; omega)]
      obtain ⟨_, ⟨_, h0, _⟩ | ⟨g, cur, rfl, hge, hb, hnc, hcs, htk⟩⟩ := o3.row
      · omega
      refine ptr_of ⟨⟨by omega, rfl⟩, ?_⟩
      simp only [add_mk, Int.toNat_natCast, Nat.mul_one, Nat.zero_add]
      refine st_blk hb (by omega) fun h4 b4 o4 => ?_
      rw [wr64 (by omega) (by omega)]
      refine ⟨⟨i + 1, by omega, by omega, ?_, o4.upd.new n3 hge⟩, (by first | omega | (dsimp only; omega) | (simp only []; omega))⟩
      refine ⟨by simp; rw [putL_len (by simp; omega)], .inr ⟨g, c2, _, rfl, hge, b4, hnc, ?_, by simpa using hcs, ?_⟩⟩
      · rcases o3.2 with ⟨h1, _⟩ | ⟨_, _, _, h1, _, _, _, hm, _⟩
        · cases h1
        · injection h1 with _ _ h1; rw [h1]; exact hm
      · apply List.ext_getElem?
        intro q
        have hq : (cur.toList.take (xs.length * 1))[q]? = ((putL xs (16 * f) (List.replicate i (0 : Int))).map (Value.int .u8))[q]? := by rw [htk]
        rw [List.getElem?_map, putL_get (by simp; omega)] at hq ⊢
        simp only [List.length_replicate] at hq ⊢
        rw [List.getElem?_take] at hq ⊢
        rw [Nat.mul_one] at hq ⊢
        by_cases hql : q < xs.length
        · rw [if_pos hql] at hq ⊢
          by_cases he : 16 * f + i = q
          · subst he
            rw [if_pos (by omega), List.getElem?_replicate_of_lt (by omega), Array.getElem?_toList, Array.getElem?_setIfInBounds_self_of_lt (by omega)]
            rfl
          · rw [Array.getElem?_toList, Array.getElem?_setIfInBounds_ne he, ← Array.getElem?_toList, hq]
            by_cases h1 : 16 * f ≤ q ∧ q < 16 * f + i
            · rw [if_pos h1, if_pos (by omega), List.getElem?_replicate_of_lt (by omega), List.getElem?_replicate_of_lt (by omega)]
            · rw [if_neg h1, if_neg (by omega)]
        · rw [if_neg hql, if_neg (by omega), List.getElem?_eq_none (by omega)]; rfl
    · have hi : i = 16 * n := by simp at hlt; omega
      subst hi
      refine st_blk (o := 0) (r.blk.new n3) (by simp) fun h4 b4 o4 => ?_
      have hpl : (putL xs (16 * f) (List.replicate (16 * n) (0 : Int))).length = xs.length := by rw [putL_len (by simp; omega)]
      refine ⟨a2, c2, rfl, ⟨by rw [hpl]; exact b4, (Ar.own o3).upd o4.upd ?_, by rw [hpl]; exact o3.cap, ?_⟩, n3.upd.trans o4.upd, fun g hg => .inr (o3.blk_ge g hg).1⟩
      · intro e; have := (o3.blk_ge _ e).1; omega
      · intro e; have := (o3.blk_ge _ e).1; omega
end Go.Proofs.YtogeildomhahjaaDoor.R18
