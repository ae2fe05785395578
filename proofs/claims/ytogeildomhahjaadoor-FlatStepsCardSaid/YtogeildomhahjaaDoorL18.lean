/-
  What awake, FlatSteps and FlatApart of layer 18 come to.
-/
import Derived.Test.YtogeildomhahjaaDoorWL18
import Derived.Test.YtogeildomhahjaaDoorFlat
import Derived.Test.YtogeildomhahjaaDoorSame3
namespace Go.Proofs.YtogeildomhahjaaDoor.L18
open Go.Pl Go.Proofs.YtogeildomhahjaaDoor.W Go.Proofs.YtogeildomhahjaaDoor.As Go.Proofs.YtogeildomhahjaaDoor.Flat
theorem size5 : sizeN Tryd.prog 5 = 1 := by kernel_rfl
theorem zero5 : zeroC Tryd.prog 5 = #[.int .u8 0] := by kernel_rfl
theorem bytes5 : bytesN Tryd.prog 5 = 1 := by kernel_rfl
def z1024 : List Int := List.replicate 1024 0
/-- The bytes that awake writes. -/
def awB : List Int := 5 :: List.replicate 15 0 ++ 6 :: List.replicate 15 0
theorem rep32 : ((Array.replicate 32 (Value.int .u8 0)).setIfInBounds 0 (.int .u8 5)).setIfInBounds 16 (.int .u8 6) = (awB.map (Value.int .u8)).toArray := by kernel_rfl
theorem awX2 : bytesOf (wrL 3 z1024 1 awB) 2 1 = 6 :: List.replicate 15 0 := by decide +kernel
theorem awX3 : bytesOf (trL 3 (wrL 3 z1024 1 awB) 2 1) 2 1 = List.replicate 16 0 := by decide +kernel
theorem ix0 {h : Heap} {a : Option Addr} {x : Int} {xs : List Int} (r : Ar .u8 h a (x :: xs)) {n : Nat} (hn : 0 < n) {F : Int → Prop} (hF : F x) :
    ptrW a (fun p => idxW (0 : Int) n true (ldW (.int .u8) (Addr.add p (Int.toNat (0 : Int) * 1)) F h)) := ix_ld (i := 0) r (by simp) hn hF
theorem awake_ok (h : Heap) (hg : Laid h) : CallsH Tryd.prog 22 [] h fun v h' => v = .bool true ∧ New h h' := by
  refine fun_ok hm' Tryd.func22 (by kernel_rfl) (F22_eq _ h) ?_
  unfold F22
  refine call_of (new_ok 3 h (by omega)) ?_
  rintro v h1 ⟨rfl, m1, n1⟩
  have hbl := m1.blk.lt
  generalize hB : h.size = B at *
  refine ⟨(some ⟨B, 0, none⟩, errV 0), rfl, cut_of (br_f rfl ⟨errV_if 0, br_f rfl fun _ => ?_⟩)⟩
  refine mk_of (n := 32) size5 zero5 (by rw [bytes5]; omega) (by omega) fun h2 b2 n2 s2 => ptr_of ⟨⟨by omega, rfl⟩, ?_⟩
  refine st_blk (o := 0) b2 (by simp) fun h3 b3 o3 => ptr_of ⟨⟨by omega, rfl⟩, st_blk (o := 16) b3 (by simp) fun h4 b4 o4 => ?_⟩
  rw [rep32] at b4
  have n14 : New h1 h4 := (o3.upd.trans o4.upd).new n2 (Nat.le_refl _)
  have ar4 : Ar .u8 h4 (some ⟨h1.size, 0, none⟩) awB := Ar.blk b4
  have hne : blkOf (some (⟨h1.size, 0, none⟩ : Addr)) ≠ some B := fun e => by injection e with e; change h1.size = B at e; omega
  have m4 := m1.new n14
  refine call_of (write_ok B 3 z1024 1 _ 32 awB h4 m4 ar4 (fun _ => hne) (by decide) (by omega)) ?_
  rintro v h5 ⟨rfl, m5, u5⟩
  refine ⟨errV (writeE 3 1 awB.length), rfl, call_of (readA B 3 _ 2 1 h5 m5 (by omega)) ?_⟩
  rintro v h6 ⟨a6, c6, rfl, r6, n6⟩
  rw [awX2] at r6 ⊢
  refine ⟨((a6, 16, c6), errV 0), rfl, call_of (read_no B 3 _ 2 2 h6 (m5.new n6) (by decide)) ?_⟩
  rintro v h' ⟨rfl, hh⟩; subst h'
  refine ⟨((none, 0, 0), errV 1), rfl, call_of (copy_ok B 3 _ h6 (m5.new n6)) ?_⟩
  rintro v h7 ⟨rfl, k7, n7⟩
  have hB6 : B < h6.size := by have := n14.size; have := u5.size; have := n6.size; omega
  refine ⟨some ⟨h6.size, 0, none⟩, rfl, br_f rfl (call_of (trim_ok B 3 _ 2 1 h7 ((m5.new n6).new n7)) ?_)⟩
  rintro v h8 ⟨rfl, m8, u8⟩
  have k8 := k7.upd u8 (by omega)
  have r8 := (r6.new n7).upd u8 (by have := n14.size; have := u5.size; omega)
  have ar8 := ((ar4.upd u5 hne).new (n6.trans n7)).upd u8 hne
  refine ⟨errV (isE 3 2 1), rfl, call_of (readA B 3 _ 2 1 h8 m8 (by omega)) ?_⟩
  rintro v h9 ⟨a9, c9, rfl, r9, n9⟩
  rw [awX3] at r9 ⊢
  refine ⟨((a9, 16, c9), errV 0), rfl, call_of (readA h6.size 3 _ 2 1 h9 (k8.new n9) (by omega)) ?_⟩
  rintro v h10 ⟨a10, c10, rfl, r10, n10⟩
  rw [awX2] at r10 ⊢
  have n810 := n9.trans n10
  have n08 : New h h8 := by
    refine ⟨by have := n1.size; have := n14.size; have := u5.size; have := n6.size; have := n7.size; have := u8.size; omega, fun k hk => ?_⟩
    have h1s := n1.size; have h2s := n14.size; have h3s := u5.size; have h4s := n6.size; have h5s := n7.size
    rw [u8.same k (by omega) (by omega), n7.same k (by omega), n6.same k (by omega), u5.same k (by omega) (by omega), n14.same k (by omega), n1.same k hk]
  refine ⟨((a10, 16, c10), errV 0), rfl, errV_if _, br_t rfl ⟨errV_if 0, br_t rfl (br_t rfl (ix0 ((r8.new n810).ar) (show 0 < 16 by omega) (br_t rfl (call_of (code_err 1 h10 (hg.new (n08.trans n810))) ?_))))⟩⟩
  rintro v h11 ⟨rfl, n11⟩
  have n811 := n810.trans n11
  refine ⟨(1 : Int), rfl, br_t rfl ⟨errV_if _, br_t rfl ⟨errV_if 0, br_t rfl (br_t rfl (ix0 ((r9.new (n10.trans n11)).ar) (show 0 < 16 by omega) (br_t rfl ⟨errV_if 0, br_t rfl (br_t rfl (ix0 ((r10.new n11).ar) (show 0 < 16 by omega) (br_t rfl ?_)))⟩)))⟩⟩⟩
  refine call_of (blocks_ok B 3 _ h11 (m8.new n811)) ?_
  rintro v h' ⟨rfl, hh⟩; subst h'
  refine ⟨(3 : Int), rfl, br_t rfl (call_of (first_ok B 3 _ 0 _ 32 awB 1 h11 (m8.new n811) (ar8.new n811) (fun _ => hne) (by decide) (by omega) (by decide)) ?_)⟩
  rintro v h12 ⟨k, hk, _, rfl, m12, u12⟩
  have hk1 : k = 1 := by have : firstN 1 (awB.length : Nat) = 1 := by decide +kernel
                         omega
  subst hk1
  refine ⟨(1 : Int), rfl, br_t rfl ⟨⟨by omega, by omega, by omega, by omega⟩, ?_⟩⟩
  have ar12 := ((ar8.new n811).upd u12 hne).drop 1 32 (.inl (by omega))
  have hsb : blkOf (sliceBase (some (⟨h1.size, 0, none⟩ : Addr)) (1 : Int).toNat ((32 : Nat) : Int).toNat 1) ≠ some B := hne
  refine call_of (write_ok B 3 _ 0 _ 31 (awB.drop 1) h12 m12 ar12 (fun _ => hsb) (by decide) (by omega)) ?_
  rintro v h13 ⟨rfl, m13, u13⟩
  have n013 : New h h13 := by
    have n011 := n08.trans n811
    exact (u12.trans u13).new n011 (by omega)
  refine ⟨errV (writeE 3 0 (awB.drop 1).length), rfl, call_of (code_err (writeE 3 0 (awB.drop 1).length) h13 (hg.new n013)) ?_⟩
  rintro v h14 ⟨rfl, n14'⟩
  exact ⟨writeE 3 0 (awB.drop 1).length, rfl, rfl, n013.trans n14'⟩
theorem int_of {h : Heap} {k : IntKind} {v : Value} {n : Int} (r : ReadsV h (.int k) v n) : v = .int k n ∧ (Lit.int k n).wf = true := by
  obtain ⟨cs, hcs, e1, w⟩ := r
  simp only at hcs; subst hcs; injection e1 with e1; exact ⟨e1, w⟩
/-- A map that stands since h, and what became of it. -/
theorem z_len : z1024.length = 1024 := List.length_replicate
theorem isE_all {m : Nat} : isB m 0 (m : Int) = true := decide_eq_true (by omega)
theorem bo0 (xs : List Int) (m : Nat) : bytesOf xs 0 m = xs.take (16 * m) := by simp [bytesOf]
theorem steps_law (h : Heap) (v0 v1 v2 v3 v4 : Value) (bl : Int) (was : List Int) (f : Int) (ys : List Int) (st : Int) (r0 : ReadsV h (.int .i64) v0 bl) (r1 : ReadsV h (.slice (.int .u8)) v1 was) (r2 : ReadsV h (.int .i64) v2 f) (r3 : ReadsV h (.slice (.int .u8)) v3 ys) (r4 : ReadsV h (.int .i64) v4 st) (hg : Laid h) :
    CallsH Tryd.prog 6 [v0, v1, v2, v3, v4] h fun v h' => v = .bool true ∧ New h h' := by
  obtain ⟨rfl, _⟩ := int_of r0
  obtain ⟨aw, cw, rfl, hlw, hcw, _, arw, _⟩ := Ar.reads r1
  obtain ⟨rfl, _⟩ := int_of r2
  obtain ⟨ab, cb, rfl, hlb, hcb, _, arb, _⟩ := Ar.reads r3
  obtain ⟨rfl, _⟩ := int_of r4
  have hmx : (maxLen : Nat) ≤ 9223372036854775807 := by simp [maxLen]
  refine fun_ok hm' Tryd.func6 (by kernel_rfl) (F6_eq bl aw was.length cw f ab ys.length cb st _ h) ?_
  unfold F6
  refine call_of (awake_ok h hg) ?_
  rintro v h1 ⟨rfl, n1⟩
  refine ⟨true, rfl, br_f rfl ?_⟩
  by_cases hbl : ¬ (1 ≤ bl ∧ bl ≤ 64)
  · refine call_of (new_no bl h1 hbl) ?_
    rintro v h' ⟨rfl, hh⟩; subst h'
    exact ⟨(none, errV 1), rfl, cut_of (br_t rfl ⟨rfl, n1⟩)⟩
  have hbl : 1 ≤ bl ∧ bl ≤ 64 := Classical.not_not.1 hbl
  obtain ⟨m, rfl⟩ := Int.eq_ofNat_of_zero_le (show 0 ≤ bl by omega)
  have hm : 1 ≤ m ∧ m ≤ 64 := by omega
  refine call_of (new_ok m h1 hm) ?_
  rintro v h2 ⟨rfl, m2, n2⟩
  have n02 := n1.trans n2
  have hB : h.size ≤ h1.size := n1.size
  have hBlt := m2.blk.lt
  generalize h1.size = B at *
  refine ⟨(some ⟨B, 0, none⟩, errV 0), rfl, cut_of (br_f rfl (br_of (fun _ => ⟨rfl, n02⟩) fun hl1 => br_of (fun _ => ⟨rfl, n02⟩) fun hl2 _ => ?_))⟩
  have hl1 : ys.length ≤ 1200 := by simp at hl1; omega
  have hl2 : was.length ≤ 1200 := by simp at hl2; omega
  refine call_of (write_ok B m z1024 0 aw cw was h2 m2 (arw.new n02) ((arw.new (New.refl h)).ne hB) hlw (by omega)) ?_
  rintro v h3 ⟨rfl, m3, u3⟩
  have hX := wrL_len (m := m) (xs := z1024) (f := 0) (ys := was) z_len hm.2
  generalize wrL m z1024 0 was = X at m3 hX
  have n03 : New h h3 := u3.new n02 hB
  refine ⟨_, rfl, call_of (readA B m X 0 m h3 m3 (by omega)) ?_⟩
  rintro v h4 ⟨a4, c4, rfl, r4, n4⟩
  have hbo := bytesOf_len (f := 0) (n := m) hX (by omega)
  refine ⟨((a4, (bytesOf X 0 m).length, c4), errV 0), rfl, call_of (copy_ok B m X h4 (m3.new n4)) ?_⟩
  rintro v h5 ⟨rfl, k5, n5⟩
  refine ⟨some ⟨h4.size, 0, none⟩, rfl, call_of (copy_ok B m X h5 ((m3.new n4).new n5)) ?_⟩
  rintro v h6 ⟨rfl, k6, n6⟩
  refine ⟨some ⟨h5.size, 0, none⟩, rfl, call_of (copy_ok B m X h6 (((m3.new n4).new n5).new n6)) ?_⟩
  rintro v h7 ⟨rfl, k7, n7⟩
  have s3 := u3.size; have s4 := n4.size; have s5 := n5.size; have s6 := n6.size; have s7 := n7.size; have sz3 := n03.size
  have l5 := k5.blk.lt; have l6 := k6.blk.lt; have l7 := k7.blk.lt
  have n57 := n6.trans n7
  have n07 := ((n03.trans n4).trans n5).trans n57
  have k5 := k5.new n57
  have k6 := k6.new n7
  have r47 := (r4.new n5).new n57
  refine ⟨some ⟨h6.size, 0, none⟩, rfl, call_of (write_ok h4.size m X f ab cb ys h7 k5 (arb.new n07) (arb.ne (by omega)) hlb (by omega)) ?_⟩
  rintro v h8 ⟨rfl, k8, u8⟩
  have n08 : New h h8 := u8.new n07 (by omega)
  have s8 := u8.size
  have r48 : ∀ {hh}, Upd h4.size h7 hh → Row h3 hh a4 c4 (bytesOf X 0 m) := fun u => ⟨r47.ar.upd u (fun e => by have := (r4.ge _ e).2; omega), fun g hg' => ⟨(r47.ge g hg').1, Nat.lt_of_lt_of_le (r47.ge g hg').2 u.size⟩, r47.cap⟩
  have row8 := r48 u8
  refine ⟨errV (writeE m f ys.length), rfl, errV_if _, ?_⟩
  rcases writeE_or m f ys.length with hE | hE
  · rw [hE]
    have hw : wrL m X f ys = putL X (16 * f.toNat) ys := by unfold wrL; rw [if_pos hE]
    rw [hw] at k8
    obtain ⟨h16, hf0, hfm⟩ := writeE_spec hE
    obtain ⟨f, rfl⟩ := Int.eq_ofNat_of_zero_le hf0
    have hfit : f + ys.length / 16 ≤ m := by omega
    rw [Int.toNat_natCast] at k8
    have hY := k8.len
    refine br_f rfl (call_of (first_ok h5.size m X f ab cb ys st h8 (k6.upd u8 (by omega)) (arb.new n08) (arb.ne (by omega)) hlb (by omega) (by omega)) ?_)
    rintro v h9 ⟨k, hk, hkl, rfl, k9, u9⟩
    have n09 : New h h9 := u9.new n08 (by omega)
    have s9 := u9.size
    have hkm : (k : Int) ≤ max st 0 := by rw [← hk, firstN, mm2_min, mm2_max]; omega
    refine ⟨(k : Int), rfl, ?_⟩
    refine cut_q (ts := []) (fun _ h' => MAt h' h5.size (putL X (16 * f) ys) m ∧ Upd h5.size h9 h') ?_ ?_
    · rintro _ h10 ⟨k10, u10⟩ _
      have s10 := u10.size
      have u810 := u9.trans u10
      have n010 : New h h10 := u10.new n09 (by omega)
      have q8 := k8.upd u810 (by omega)
      have q7 := (k7.upd u8 (by omega)).upd u810 (by omega)
      have row10 : Row h3 h10 a4 c4 (bytesOf X 0 m) := ⟨row8.ar.upd u810 (fun e => by have := (r4.ge _ e).2; omega), fun g hg' => ⟨(row8.ge g hg').1, Nat.lt_of_lt_of_le (row8.ge g hg').2 u810.size⟩, row8.cap⟩
      have hbp := bytesOf_len (f := 0) (n := m) hY (by omega)
      refine call_of (readA h4.size m _ 0 m h10 q8 (by omega)) ?_
      rintro v h11 ⟨ax, cx, rfl, rx, n11⟩
      refine ⟨((ax, (bytesOf (putL X (16 * f) ys) 0 m).length, cx), errV 0), rfl, call_of (readA h5.size m _ 0 m h11 (k10.new n11) (by omega)) ?_⟩
      rintro v h12 ⟨ay, cy, rfl, ry, n12⟩
      refine ⟨((ay, (bytesOf (putL X (16 * f) ys) 0 m).length, cy), errV 0), rfl, call_of (readA h6.size m _ 0 m h12 ((q7.new n11).new n12) (by omega)) ?_⟩
      rintro v h13 ⟨az, cz, rfl, rz, n13⟩
      have ed : IntKind.wrap .i64 (Int.tdiv ((ys.length : Nat) : Int) 16) = ((ys.length / 16 : Nat) : Int) := by rw [Int.tdiv_eq_ediv_of_nonneg (by omega), wr64 (by omega) (by omega)]; omega
      rw [ed]
      have n1013 := (n11.trans n12).trans n13
      refine ⟨((az, (bytesOf X 0 m).length, cz), errV 0), rfl, call_of (readA h4.size m _ f (ys.length / 16) h13 (q8.new n1013) (by omega)) ?_⟩
      rintro v h14 ⟨aw', cw', rfl, rw', n14⟩
      have n014 := n010.trans (n1013.trans n14)
      have hb1 := bytesOf_put (ys := ys) (f := f) hX h16 (by omega)
      rw [hb1] at rw' ⊢
      have rowb := row10.new (n1013.trans n14)
      have rowx := rx.new ((n12.trans n13).trans n14)
      refine ⟨((aw', ys.length, cw'), errV 0), rfl, ?_⟩
      refine Same3.same_q _ _ _ _ _ _ h14 _ _ rfl rfl (show _ ≤ _ by omega) rowx.ar ((ry.new n13).new n14).ar (br_t (by simp) ?_)
      refine Same3.same_q _ _ _ _ _ _ h14 _ _ rfl rfl (show _ ≤ _ by omega) (rz.new n14).ar rowb.ar (br_t (by simp) ⟨errV_if 0, br_t rfl ?_⟩)
      refine Same3.same_q _ _ _ _ _ _ h14 ys ys rfl rfl (show _ ≤ _ by omega) rw'.ar (arb.new n014) (br_t (by simp) (br_t (by simp [hbp, hbo]) ?_))
      dsimp only
      have cx' := rx.cap; have cb' := r4.cap
      rw [hbp] at cx'; rw [hbo] at cb'
      have w16 : IntKind.wrap .i64 (16 * (f : Int)) = ((16 * f : Nat) : Int) := by rw [wr64 (by omega) (by omega)]; omega
      have w16b : IntKind.wrap .i64 (((16 * f : Nat) : Int) + ((ys.length : Nat) : Int)) = ((16 * f + ys.length : Nat) : Int) := by rw [wr64 (by omega) (by omega)]; omega
      rw [w16, w16b, hbp, hbo]
      refine ⟨⟨by omega, by omega, by omega, by omega⟩, ⟨by omega, by omega, by omega, by omega⟩, ?_⟩
      have t0 : ∀ (a : Option Addr) (c : Nat), sliceBase a (0 : Int).toNat ((c : Nat) : Int).toNat 1 = a := fun a c => by
        unfold sliceBase; split
        · rfl
        · cases a <;> rfl
      rw [t0, t0]
      have e1 : (((16 * f : Nat) : Int)).toNat - (0 : Int).toNat = 16 * f := by omega
      rw [e1]
      refine Same3.same_q _ _ _ _ _ _ h14 ((bytesOf (putL X (16 * f) ys) 0 m).take (16 * f)) ((bytesOf X 0 m).take (16 * f)) (by simp [hbp]; omega) (by simp [hbo]; omega) (show _ ≤ _ by omega) (rowx.ar.take _) (rowb.ar.take _) (br_t (decide_eq_true (bytesOf_ahead hX (by omega) (by omega))) ?_)
      refine ⟨⟨by omega, by omega, by omega, by omega⟩, ⟨by omega, by omega, by omega, by omega⟩, ?_⟩
      have e2 : ((16 * m : Nat) : Int).toNat - (((16 * f + ys.length : Nat) : Int)).toNat = 16 * m - (16 * f + ys.length) := by omega
      simp only [Int.toNat_natCast]
      refine Same3.same_q _ _ _ _ _ _ h14 ((bytesOf (putL X (16 * f) ys) 0 m).drop (16 * f + ys.length)) ((bytesOf X 0 m).drop (16 * f + ys.length)) (by simp [hbp]) (by simp [hbo]) (show _ ≤ _ by omega) (rowx.ar.drop _ _ (by rw [hbp]; omega)) (rowb.ar.drop _ _ (by rw [hbo]; omega)) ?_
      exact ⟨by rw [bytesOf_behind hX (by omega) (by omega)]; simp, n014⟩
    · intro K hK
      refine br_f (by simp) (br_f ?_ (br_f ?_ ?_))
      · rw [Int.tdiv_eq_ediv_of_nonneg (by omega), wr64 (by omega) (by omega)]; simp; omega
      · rw [mm2_max]; simp; omega
      · have w16 : IntKind.wrap .i64 (16 * (k : Int)) = ((16 * k : Nat) : Int) := by rw [wr64 (by omega) (by omega)]; omega
        have wfk : IntKind.wrap .i64 ((f : Int) + (k : Int)) = ((f + k : Nat) : Int) := by rw [wr64 (by omega) (by omega)]; omega
        rw [w16, wfk]
        refine ⟨⟨by omega, by omega, by omega, by omega⟩, ?_⟩
        simp only [Int.toNat_natCast]
        have hld : ys.length - 16 * k = (ys.drop (16 * k)).length := by simp
        rw [hld]
        have ard := (arb.new n09).drop (16 * k) cb (by omega)
        have hEd : writeE m ((f + k : Nat) : Int) (ys.drop (16 * k)).length = 0 := writeE_of ⟨by simp; omega, by omega, by simp; omega⟩
        refine call_of (write_ok h5.size m _ ((f + k : Nat) : Int) _ _ (ys.drop (16 * k)) h9 k9 ard (fun hne => ?_) (by simp; omega) (by omega)) ?_
        · intro e
          have hys : ys ≠ [] := fun e0 => by subst e0; simp at hne
          obtain ⟨g, hg⟩ : ∃ g, ab = some g := by
            cases ab with
            | none => unfold sliceBase at e; split at e <;> cases e
            | some g => exact ⟨g, rfl⟩
          subst hg
          have := arb.lt hys g.block rfl
          have e' : g.block = h5.size := by
            unfold sliceBase at e; split at e
            · injection e with e
            · injection e with e; change (g.add _).block = _ at e; rwa [add_block] at e
          omega
        rintro v h10 ⟨rfl, k10, u10⟩
        refine ⟨errV (writeE m ((f + k : Nat) : Int) (ys.drop (16 * k)).length), rfl, errV_if _, ?_⟩
        rw [hEd]
        refine br_f rfl (hK () h10 ⟨?_, u10⟩)
        unfold wrL at k10
        rw [if_pos hEd, Int.toNat_natCast] at k10
        have htl : (ys.take (16 * k)).length = 16 * k := by simp; omega
        have := putL_more (xs := X) (ys := ys.take (16 * k)) (zs := ys.drop (16 * k)) (o := 16 * f) (by simp; omega)
        rw [htl, List.take_append_drop, show 16 * f + 16 * k = 16 * (f + k) by omega] at this
        rw [this] at k10; exact k10
  · rw [hE]
    have hw : wrL m X f ys = X := by unfold wrL; rw [if_neg (by omega)]
    rw [hw] at k8
    refine br_t rfl (call_of (readA h4.size m X 0 m h8 k8 (by omega)) ?_)
    rintro v h9 ⟨a9, c9, rfl, r9, n9⟩
    refine ⟨((a9, (bytesOf X 0 m).length, c9), errV 0), rfl, call_of (Same3.same_ok _ _ _ _ _ _ h9 (bytesOf X 0 m) (bytesOf X 0 m) rfl rfl (show (bytesOf X 0 m).length ≤ 9223372036854775806 by omega) r9.ar ((r48 u8).new n9).ar) ?_⟩
    rintro v h' ⟨rfl, hh⟩; subst h'
    exact ⟨true, by simp [retV, vals, Ty.val, CTy.val], rfl, n08.trans n9⟩
end Go.Proofs.YtogeildomhahjaaDoor.L18
